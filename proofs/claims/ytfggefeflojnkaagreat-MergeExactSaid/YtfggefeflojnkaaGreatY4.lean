/- AI. -/
import Derived.Test.YtfggefeflojnkaaGreatY3
set_option linter.unusedVariables false
open Go.IntKind (i64 u64)
namespace Go.AL
open Go.Proofs
abbrev Jp:List Ty:=[zI,.sl [zI],.sl [zI]]
abbrev jf:=Int×(List Int)×(List Int)
abbrev eG:List Ty:=[zI,zI,.sl [zI],.sl [zI],.sl bg,.sl bV,.sl gJ,.sl dH,.sl aF,.sl aE,.bool,zI,.sl [zI],.sl [zI],.sl bg,.sl bV,.sl gJ,.sl dH,.sl aF,.sl aE]
abbrev cC:=Int×Int×(List Int)×(List Int)×(List aL)×(List bR)×(List tm)×(List dv)×(List ag)×(List aj)×Bool×Int×(List Int)×(List Int)×(List aL)×(List bR)×(List tm)×(List dv)×(List ag)×(List aj)
noncomputable def asd:cX:=zC [Hq] (dE [(2,([(0,[]),(1,[]),(2,[]),(3,[]),(4,[]),(5,[]),(6,[]),(7,[]),(8,[]),(9,[]),(10,[]),(11,[])],[(6,17)])),(4,([(0,[]),(1,[]),(2,[]),(3,[]),(4,[]),(5,[]),(6,[]),(7,[]),(8,[]),(9,[]),(10,[]),(11,[])],[(20,31)])),(6,([(0,[]),(1,[]),(2,[]),(4,[3]),(5,[3]),(7,[]),(8,[]),(9,[]),(3,[]),(6,[]),(10,[]),(11,[])],[(4,4),(33,43)]))]) 44
def anO:Nat→LD:=eO [(0,⟨[.c 0 (.sl aE),.box 3 3 48 3 aE,.c 5 (zI)],[],0⟩)]
noncomputable def avo(f:Nat)(a:(List aj)×aj):Option ((List aj)):=aG asd anO (zK [.tmp 4] [.v (.sl aE)]) f [.code (aB Tryz.f65)] (aQ [.c (.sl aE),.g aE] a)
noncomputable def al1(f:Nat)(x:(List aj)×aj×Int):Option ((List aj)):=aG asd anO (zK [.tmp 4] [.v (.sl aE)]) f (aV Tryz.f65 0) ((anO 0).mk' x)
theorem atg(f:Nat)(l:List aj)(id:aj):avo (f+1) (l,id) =
  al1 f (l,id,0):=by kernel_rfl
theorem anC(f:Nat)(l:List aj)(id:aj)(k:Int):al1 (f+1) (l,id,k) =
  bif decide (k<(↑l.length:Int))then bif decide (0≤k)&&decide (k<(↑l.length:Int))then bif cw (l.getD k.toNat (0,0,0),id)then al1 f (l,id,i64.wrap (k+1))else bif decide (k<(↑l.length:Int))then bif decide (0≤k)&&decide (k<(↑l.length:Int))then bif(l.getD k.toNat (0,0,0)).1 == id.1&&((l.getD k.toNat (0,0,0)).2.1 == id.2.1&&((l.getD k.toNat (0,0,0)).2.2 == id.2.2&&true))then some l else bif decide (0≤k)&&decide (k≤(↑l.length:Int))then bif decide (0≤k)&&decide (k≤(↑l.length:Int))then bif decide ((List.take k.toNat l).length*24≤140737488355328)then bif decide (((List.take k.toNat l).length+[id].length)*24≤140737488355328)then bif decide (((List.take k.toNat l++[id]).length+(List.drop k.toNat l).length)*24≤140737488355328)then some (List.take k.toNat l++[id]++List.drop k.toNat l)else none else none else none else none else none else none else bif decide (0≤k)&&decide (k≤(↑l.length:Int))then bif decide (0≤k)&&decide (k≤(↑l.length:Int))then bif decide ((List.take k.toNat l).length*24≤140737488355328)then bif decide (((List.take k.toNat l).length+[id].length)*24≤140737488355328)then bif decide (((List.take k.toNat l++[id]).length+(List.drop k.toNat l).length)*24≤140737488355328)then some (List.take k.toNat l++[id]++List.drop k.toNat l)else none else none else none else none else none else none else bif decide (k<(↑l.length:Int))then bif decide (0≤k)&&decide (k<(↑l.length:Int))then bif(l.getD k.toNat (0,0,0)).1 == id.1&&((l.getD k.toNat (0,0,0)).2.1 == id.2.1&&((l.getD k.toNat (0,0,0)).2.2 == id.2.2&&true))then some l else bif decide (0≤k)&&decide (k≤(↑l.length:Int))then bif decide (0≤k)&&decide (k≤(↑l.length:Int))then bif decide ((List.take k.toNat l).length*24≤140737488355328)then bif decide (((List.take k.toNat l).length+[id].length)*24≤140737488355328)then bif decide (((List.take k.toNat l++[id]).length+(List.drop k.toNat l).length)*24≤140737488355328)then some (List.take k.toNat l++[id]++List.drop k.toNat l)else none else none else none else none else none else none else bif decide (0≤k)&&decide (k≤(↑l.length:Int))then bif decide (0≤k)&&decide (k≤(↑l.length:Int))then bif decide ((List.take k.toNat l).length*24≤140737488355328)then bif decide (((List.take k.toNat l).length+[id].length)*24≤140737488355328)then bif decide (((List.take k.toNat l++[id]).length+(List.drop k.toNat l).length)*24≤140737488355328)then some (List.take k.toNat l++[id]++List.drop k.toNat l)else none else none else none else none else none:=by kernel_rfl
noncomputable def agJ:List aj→((List aj)×aj×Nat)→(List aj)
 | [],(l,id,k)=>bif decide ((↑k:Int)<(↑l.length:Int))then bif(l.getD (↑k:Int).toNat (0,0,0)).1 == id.1&&((l.getD (↑k:Int).toNat (0,0,0)).2.1 == id.2.1&&((l.getD (↑k:Int).toNat (0,0,0)).2.2 == id.2.2&&true))then l else List.take (↑k:Int).toNat l++[id]++List.drop (↑k:Int).toNat l else List.take (↑k:Int).toNat l++[id]++List.drop (↑k:Int).toNat l
 | uu::rest,(l,id,k)=>bif cw (uu,id)then agJ rest (l,id,k+1)else bif uu.1 == id.1&&(uu.2.1 == id.2.1&&(uu.2.2 == id.2.2&&true))then l else List.take (↑k:Int).toNat l++[id]++List.drop (↑k:Int).toNat l
noncomputable def agu:List aj→((List aj)×aj×Nat)→Bool
 | [],(l,id,k)=>bif decide ((↑k:Int)<(↑l.length:Int))then decide ((↑k:Int)<(↑l.length:Int))&&bif(l.getD (↑k:Int).toNat (0,0,0)).1 == id.1&&((l.getD (↑k:Int).toNat (0,0,0)).2.1 == id.2.1&&((l.getD (↑k:Int).toNat (0,0,0)).2.2 == id.2.2&&true))then true else decide ((↑k:Int)≤(↑l.length:Int))&&(decide ((↑k:Int)≤(↑l.length:Int))&&(decide ((List.take (↑k:Int).toNat l).length*24≤140737488355328)&&(decide (((List.take (↑k:Int).toNat l).length+[id].length)*24≤140737488355328)&&decide (((List.take (↑k:Int).toNat l++[id]).length+(List.drop (↑k:Int).toNat l).length)*24≤140737488355328))))else decide ((↑k:Int)≤(↑l.length:Int))&&(decide ((↑k:Int)≤(↑l.length:Int))&&(decide ((List.take (↑k:Int).toNat l).length*24≤140737488355328)&&(decide (((List.take (↑k:Int).toNat l).length+[id].length)*24≤140737488355328)&&decide (((List.take (↑k:Int).toNat l++[id]).length+(List.drop (↑k:Int).toNat l).length)*24≤140737488355328))))
 | uu::rest,(l,id,k)=>bif cw (uu,id)then agu rest (l,id,k+1)else bif uu.1 == id.1&&(uu.2.1 == id.2.1&&(uu.2.2 == id.2.2&&true))then true else decide ((↑k:Int)≤(↑l.length:Int))&&(decide ((↑k:Int)≤(↑l.length:Int))&&(decide ((List.take (↑k:Int).toNat l).length*24≤140737488355328)&&(decide (((List.take (↑k:Int).toNat l).length+[id].length)*24≤140737488355328)&&decide (((List.take (↑k:Int).toNat l++[id]).length+(List.drop (↑k:Int).toNat l).length)*24≤140737488355328))))
theorem arB:∀(rest:List aj) (l:List aj) (id:aj) (k:Nat) (hd:l.drop k=rest) (hl:l.length≤1099511627776),de (fun f=>al1 f (l,id,((k:Nat):Int))) (agu rest (l,id,k)) (agJ rest (l,id,k))
 | [],l,id,k,hd,hl=>ai (fun f=>(anC f _ _ _).trans (by simp only[fA (bT hd),fW,azP,azI]<;>rfl)) (ao (aI (ao ae (aI (aI (aI (aI (cS ae))))))) (aI (aI (aI (aI (cS ae))))))
 | uu::rest,l,id,k,hd,hl=>ai (fun f=>(anC f _ _ _).trans (by simp only[cK (ak hd),bC hd,bk (ak hd) hl,fW,azQ,azP,azH]<;>rfl)) (ao (arB rest _ _ _ (aH hd) hl) (ao ae (aI (aI (aI (aI (cS ae)))))))
noncomputable def ar0:((List aj)×aj)→(List aj)
 | (l,id)=>agJ l (l,id,0)
noncomputable def arT:((List aj)×aj)→Bool
 | (l,id)=>decide (l.length≤1099511627776)&&agu l (l,id,0)
theorem asN:∀a:(List aj)×aj,de (fun f=>avo f a) (arT a) (ar0 a)
 | (l,id)=>ai (fun f=>atg f _ _) (bL fun hh=>arB _ _ _ _ rfl (azZ hh))
def qf:List aj→aj→List aj
 | [],id=>[id]
 | u::r,id=>bif cw (u,id)then u::qf r id else bif decide (u=id)then u::r else id::u::r
theorem Lj(id:aj):∀r:List aj,(qf r id).length≤r.length+1
 | []=>azJ _
 | u::r=>by
  have:=Lj id r;grind[qf]
theorem arK(l:List aj)(id:aj)(hl:l.length≤1000000):∀(r:List aj) (k:Nat),l.drop k=r→k≤l.length→agJ r (l,id,k)=l.take k++qf r id∧agu r (l,id,k)=true
 | [],k,h,hk2=>by
  have hk:=bT h;have e1:decide (((k:Nat):Int)<((l.length:Nat):Int))=false:=azK (by omega);simp only[agJ,agu,e1,azI,qf,aAn,h,aAc,true_and];simp only[azF,azM,azG,az5,azL,az2];omega
 | u::r,k,h,hk2=>by
  have hk:=ak h;obtain⟨i1,i2⟩:=arK l id hl r (k+1) (aH h) (by omega);have t1:=jx h;simp only[agJ,agu,i1,i2,qf,id_eq,aAn,h];cases cw (u,id)
  ·cases hd:decide (u=id)
   ·simp only[azI,aAB,aCf,true_and]
    simp only[azF,azM,azG,az5,azL,az2];have:r.length+1=l.length-k:=by rw[← aAe,h];rfl
    omega
   ·simp only[azH,azI,and_true]
    rw[← h,aAT]
  grind
theorem ayS:∀a:List aj×aj,decide (a.1.length≤1000000)=true→arT a=true:=fun a h=>by
 have h:a.1.length≤1000000:=azZ h;simp only[arT,(arK a.1 a.2 h a.1 0 rfl (aAu _)).2,aAt];grind
theorem ayT:∀a:List aj×aj,decide (a.1.length≤1000000)=true→ar0 a=qf a.1 a.2:=fun a h=>by
 have h:a.1.length≤1000000:=azZ h;simp only[ar0,(arK a.1 a.2 h a.1 0 rfl (aAu _)).1,aBb,aAs]
noncomputable def avW:dn:=⟨65,[.c (.sl aE),.g aE],[.v (.sl aE)],fun a:(List aj)×aj=>decide (a.1.length≤1000000),fun a:(List aj)×aj=>qf a.1 a.2⟩
theorem atY:zO avW:=fl asd anO [.tmp 4] mixed (ah E5 (aC)) Tryz.func65 (bp asN ayS ayT)
noncomputable def av0:cX:=zC [] (dE []) 20
def aqb:Nat→LD:=eO [(0,⟨[.rd 0 eG,.c 1 (zI),.c 5 (zI)],[],0⟩)]
noncomputable def axt(f:Nat)(a:(List cC)×Int):Option Int:=aG av0 aqb (zK [.tmp 4] [.v zI]) f [.code (aB Tryz.f72)] (aQ [.rd eG,.c zI] a)
noncomputable def anQ(f:Nat)(x:(List cC)×Int×Int):Option Int:=aG av0 aqb (zK [.tmp 4] [.v zI]) f (aV Tryz.f72 0) ((aqb 0).mk' x)
theorem ave(f:Nat)(l:List cC)(core:Int):axt (f+1) (l,core) =
  anQ f (l,core,0):=by kernel_rfl
theorem anX(f:Nat)(ab:List cC)(core:Int)(i:Int):anQ (f+1) (ab,core,i) =
  bif decide (i<(↑ab.length:Int))then bif decide (0≤i)&&decide (i<(↑ab.length:Int))then bif(ab.getD i.toNat zq5).1 == core then some i else anQ f (ab,core,i64.wrap (i+1))else none else some (-1):=by kernel_rfl
noncomputable def al3:List cC→((List cC)×Int×Nat)→Int
 | [],(ab,core,i)=>-1
 | uu::rest,(ab,core,i)=>bif uu.1 == core then(↑i:Int)else al3 rest (ab,core,i+1)
noncomputable def aiM:List cC→((List cC)×Int×Nat)→Bool
 | [],(ab,core,i)=>true
 | uu::rest,(ab,core,i)=>bif uu.1 == core then true else aiM rest (ab,core,i+1)
theorem asf:∀(rest:List cC) (ab:List cC) (core:Int) (i:Nat) (hd:ab.drop i=rest) (hl:ab.length≤1099511627776),de (fun f=>anQ f (ab,core,((i:Nat):Int))) (aiM rest (ab,core,i)) (al3 rest (ab,core,i))
 | [],ab,core,i,hd,hl=>ai (fun f=>(anX f _ _ _).trans (by simp only[fA (bT hd),fW,azP,azI]<;>rfl)) ae
 | uu::rest,ab,core,i,hd,hl=>ai (fun f=>(anX f _ _ _).trans (by simp only[cK (ak hd),bC hd,bk (ak hd) hl,fW,azQ,azH]<;>rfl)) (ao ae (asf rest _ _ _ (aH hd) hl))
noncomputable def avw:((List cC)×Int)→Int
 | (l,core)=>al3 l (l,core,0)
noncomputable def auX:((List cC)×Int)→Bool
 | (l,core)=>decide (l.length≤1099511627776)&&aiM l (l,core,0)
theorem auj:∀a:(List cC)×Int,de (fun f=>axt f a) (auX a) (avw a)
 | (l,core)=>ai (fun f=>ave f _ _) (bL fun hh=>asf _ _ _ _ rfl (azZ hh))
theorem auk(l:List cC)(c:Int):∀(r:List cC) (k:Nat),al3 r (l,c,k)=bu (fun q=>decide (q.1=c)) r k∧aiM r (l,c,k)=true
 | [],k=>⟨rfl,rfl⟩
 | u::r,k=>by
  obtain⟨i1,i2⟩:=auk l c r (k+1);simp only[al3,aiM,bu,xm,i1,i2];grind
theorem azz:∀a:List cC×Int,af a.1=true→auX a=true:=fun a h=>by simp only[auX,(auk _ _ _ _).2,aAt];exact h
theorem azA:∀a:List cC×Int,af a.1=true→avw a=bu (fun q=>decide (q.1=a.2)) a.1 0:=fun a h=>by grind[avw,auk]
noncomputable def axA:dn:=⟨72,[.rd eG,.c zI],[.v zI],fun a:(List cC)×Int=>af a.1,fun a:(List cC)×Int=>bu (fun q=>decide (q.1=a.2)) a.1 0⟩
theorem avN:zO axA:=fl av0 aqb [.tmp 4] mixed (aC) Tryz.func72 (bp auj azz azA)
noncomputable def aqu:cX:=zC [avJ,ajJ] (dE []) 36
def ais:Nat→LD:=eO [(0,⟨[.c 0 (.sl bg),.rd 1 aE,.c 5 (zI)],[],0⟩),(2,⟨[.list 0 999 64 15 bg,.c 6 (zI)],[],0⟩)]
noncomputable def auZ(f:Nat)(a:(List aL)×(List aj)):Option ((List aL)):=aG aqu ais (zK [.tmp 4] [.o 64 15 bg]) f [.code (aB Tryz.f73)] (aQ [.c (.sl bg),.rd aE] a)
noncomputable def akq(f:Nat)(x:(List aL)×(List aj)×Int):Option ((List aL)):=aG aqu ais (zK [.tmp 4] [.o 64 15 bg]) f (aV Tryz.f73 0) ((ais 0).mk' x)
noncomputable def akf(f:Nat)(x:(List aL)×Int):Option ((List aL)):=aG aqu ais (zK [.tmp 4] [.o 64 15 bg]) f (aV Tryz.f73 2) ((ais 2).mk' x)
theorem asO(f:Nat)(l:List aL)(jb:List aj):auZ (f+1) (l,jb) =
  akq f (l,jb,0):=by kernel_rfl
theorem al9(f:Nat)(l:List aL)(jb:List aj)(i:Int):akq (f+1) (l,jb,i) =
  bif decide (i<(↑jb.length:Int))then bif decide (0≤i)&&decide (i<(↑jb.length:Int))then bif ct l then akq f ((tS (l,jb.getD i.toNat (0,0,0))).1,jb,i64.wrap (i+1))else none else none else bif ct l then akf f (l,0)else none:=by kernel_rfl
theorem al8(f:Nat)(l:List aL)(i:Int):akf (f+1) (l,i) =
  bif decide (i<(↑l.length:Int))then bif decide (0≤i)&&decide (i<(↑l.length:Int))then akf f (l.set i.toNat (bG (bG (bG (bG (bG (bG (bG (bG (bG (bG (bG (upS (0,0,0)))))))))))) (l.getD i.toNat zq2)),i64.wrap (i+1))else none else some l:=by kernel_rfl
noncomputable def agw:List aL→((List aL)×Nat)→(List aL)
 | [],(l,i)=>l
 | uu::rest,(l,i)=>agw rest (l.set (↑i:Int).toNat (bG (bG (bG (bG (bG (bG (bG (bG (bG (bG (bG (upS (0,0,0)))))))))))) uu),i+1)
noncomputable def ahC:List aL→((List aL)×Nat)→Bool
 | [],(l,i)=>true
 | uu::rest,(l,i)=>ahC rest (l.set (↑i:Int).toNat (bG (bG (bG (bG (bG (bG (bG (bG (bG (bG (bG (upS (0,0,0)))))))))))) uu),i+1)
theorem ard:∀(rest:List aL) (l:List aL) (i:Nat) (hd:l.drop i=rest) (hl:l.length≤1099511627776),de (fun f=>akf f (l,((i:Nat):Int))) (ahC rest (l,i)) (agw rest (l,i))
 | [],l,i,hd,hl=>ai (fun f=>(al8 f _ _).trans (by simp only[fA (bT hd),fW,azP,azI]<;>rfl)) ae
 | uu::rest,l,i,hd,hl=>ai (fun f=>(al8 f _ _).trans (by simp only[cK (ak hd),bC hd,bk (ak hd) hl,fW,azQ,azH]<;>rfl)) (ard rest _ _ (by first | exact aH hd | exact drop_set hd | exact bB (drop_set hd)) (by grind))
noncomputable def agy:List aj→((List aL)×(List aj)×Nat)→(List aL)
 | [],(l,jb,i)=>agw l (l,0)
 | uu::rest,(l,jb,i)=>agy rest ((tS (l,uu)).1,jb,i+1)
noncomputable def agi:List aj→((List aL)×(List aj)×Nat)→Bool
 | [],(l,jb,i)=>ct l&&(decide (l.length≤1099511627776)&&ahC l (l,0))
 | uu::rest,(l,jb,i)=>ct l&&agi rest ((tS (l,uu)).1,jb,i+1)
theorem are:∀(rest:List aj) (l:List aL) (jb:List aj) (i:Nat) (hd:jb.drop i=rest) (hl:jb.length≤1099511627776),de (fun f=>akq f (l,jb,((i:Nat):Int))) (agi rest (l,jb,i)) (agy rest (l,jb,i))
 | [],l,jb,i,hd,hl=>ai (fun f=>(al9 f _ _ _).trans (by simp only[fA (bT hd),fW,azP,azI]<;>rfl)) (aI (bL fun hh=>ard _ _ _ rfl (azZ hh)))
 | uu::rest,l,jb,i,hd,hl=>ai (fun f=>(al9 f _ _ _).trans (by simp only[cK (ak hd),bC hd,bk (ak hd) hl,fW,azQ,azH]<;>rfl)) (aI (are rest _ _ _ (aH hd) hl))
noncomputable def arU:((List aL)×(List aj))→(List aL)
 | (l,jb)=>agy jb (l,jb,0)
noncomputable def arL:((List aL)×(List aj))→Bool
 | (l,jb)=>decide (jb.length≤1099511627776)&&agi jb (l,jb,0)
theorem ash:∀a:(List aL)×(List aj),de (fun f=>auZ f a) (arL a) (arU a)
 | (l,jb)=>ai (fun f=>asO f _ _) (bL fun hh=>are _ _ _ _ rfl (azZ hh))
def nY(s:aL):aL:=Ys (snd s) (Ju s) (0,0,0)
def oe(l:List aL)(d:List aj):List aL:=d.foldl (fun l id=>(tS (l,id)).1) l
theorem Pm{l:List aL}(id:aj)(h:ct l=true):ct (tS (l,id)).1=true:=by
 refine uo (by grind[tS,fD]) fun s hs=>?_
 obtain⟨x,hx,rfl⟩:=az4.1 (show s∈l.map (nw id)from hs);show af (nw id x).2.2.2.1=true;unfold nw;cases sH id x
 ·grind[gk]
 ·rfl
theorem at2:∀(r l:List aL) (k:Nat),l.drop k=r→agw r (l,k)=l.take k++r.map nY∧ahC r (l,k)=true
 | [],l,k,h=>by
  have:=bT h;exact⟨by simp only[agw,aBq,aAc];rw[aAQ (by omega)],rfl⟩
 | u::r,l,k,h=>by
  have e:bG (bG (bG (bG (bG (bG (bG (bG (bG (bG (bG (upS (0,0,0)))))))))))) u=nY u:=rfl;simp only[agw,ahC,e];obtain⟨i1,i2⟩:=at2 r (l.set (Int.toNat ((k:Nat):Int)) (nY u)) (k+1) (tV h).2;grind[tV]
theorem arC(d2:List aj):∀(d:List aj) (l:List aL) (k:Nat),ct l=true→agy d (l,d2,k)=(oe l d).map nY∧agi d (l,d2,k)=true
 | [],l,k,h=>by
  obtain⟨i1,i2⟩:=at2 l l 0 rfl;simp only[agy,agi,i1,i2,h,aBb,aAs,azP,aAt];exact⟨rfl,azC (by grind[fD])⟩
 | u::d,l,k,h=>by
  obtain⟨i1,i2⟩:=arC d2 d (tS (l,u)).1 (k+1) (Pm u h);simp only[agy,agi,i1,i2,h,azP];exact⟨rfl,trivial⟩
theorem axE:∀a:List aL×List aj,(ct a.1&&af a.2)=true→arL a=true:=fun a h=>by
 obtain⟨h1,h2⟩:=aAk.1 h;simp only[arL,(arC a.2 a.2 a.1 0 h1).2,aAt];exact h2
theorem axG:∀a:List aL×List aj,(ct a.1&&af a.2)=true→arU a=(oe a.1 a.2).map nY:=fun a h=>by
 grind[arU,arC]
noncomputable def avy:dn:=⟨73,[.c (.sl bg),.rd aE],[.o 64 15 bg],fun a:(List aL)×(List aj)=>ct a.1&&af a.2,fun a:(List aL)×(List aj)=>(oe a.1 a.2).map nY⟩
theorem ath:zO avy:=fl aqu ais [.tmp 4] mixed (ah atz (ah adG (aC))) Tryz.func73 (bp ash axE axG)
noncomputable def ar9:cX:=zC [wg,avR,Hp,avT] (dE [(9,([(0,[]),(1,[]),(2,[]),(3,[]),(4,[]),(5,[]),(6,[]),(7,[]),(8,[]),(9,[]),(10,[]),(11,[]),(12,[]),(13,[])],[(33,46)])),(11,([(0,[]),(1,[]),(2,[]),(3,[]),(4,[]),(5,[]),(6,[]),(7,[]),(8,[]),(9,[]),(10,[]),(11,[]),(12,[]),(13,[]),(14,[]),(15,[]),(16,[]),(17,[]),(18,[]),(19,[]),(20,[]),(21,[]),(22,[]),(23,[]),(24,[]),(25,[]),(26,[]),(27,[]),(28,[]),(29,[]),(30,[]),(31,[]),(32,[])],[(14,14),(47,78)]))]) 88
def anK:Nat→LD:=eO [(1,⟨[.rd 0 bl,.rd 1 bg,.box 7 7 56 28 bV,.box 9 9 30 3 Jp,.box 12 12 50 12 aEa,.c 13 (zI)],[],0⟩)]
noncomputable def avf(f:Nat)(a:(List ay)×(List aL)×bR×(List aj)×jf):Option (Int×Bool):=aG ar9 anK (zK [.tmp 10,.tmp 11] [.v zI,.v .bool]) f [.code (aB Tryz.f107)] (aQ [.rd bl,.rd bg,.g bV,.rd aE,.g Jp] a)
noncomputable def alQ(f:Nat)(x:(List ay)×(List aL)×bR×jf×SCl×Int):Option (Int×Bool):=aG ar9 anK (zK [.tmp 10,.tmp 11] [.v zI,.v .bool]) f (aV Tryz.f107 1) ((anK 1).mk' x)
theorem as7(f:Nat)(all:List ay)(l:List aL)(r:bR)(jb:List aj)(next:jf):avf (f+1) (all,l,r,jb,next) =
  bif r.2.2.2.1 == 6 then bif af jb then some (0,cJ (r.1,r.2.1,r.2.2.1) jb)else none else bif r.2.2.2.1 == 4 then alQ f (all,l,r,next,(r.2.2.2.1,r.2.2.2.2.1,r.2.2.2.2.2.1,r.2.2.2.2.2.2.1,r.2.2.2.2.2.2.2.1,r.2.2.2.2.2.2.2.2.1,r.2.2.2.2.2.2.2.2.2.1,r.2.2.2.2.2.2.2.2.2.2.1,r.2.2.2.2.2.2.2.2.2.2.2.1,r.2.2.2.2.2.2.2.2.2.2.2.2.1,r.2.2.2.2.2.2.2.2.2.2.2.2.2.1,r.2.2.2.2.2.2.2.2.2.2.2.2.2.2.1),0)else some (0,false):=by kernel_rfl
theorem amP(f:Nat)(all:List ay)(l:List aL)(r:bR)(aav:jf)(c:SCl)(i:Int):alQ (f+1) (all,l,r,aav,c,i) =
  bif decide (i<(↑all.length:Int))then bif decide (0≤i)&&decide (i<(↑all.length:Int))then bif af (all.getD i.toNat ([],[],[],[],[],[])).1 then bif decide (bu (ZC (r.1,r.2.1,0)) (all.getD i.toNat ([],[],[],[],[],[])).1 0≥0)then some (0,true)else alQ f (all,l,r,aav,c,i64.wrap (i+1))else none else none else bif decide (c.2.1≥0)then bif decide (c.2.1<(↑l.length:Int))then bif decide (0≤c.2.1)&&decide (c.2.1<(↑l.length:Int))then bif !cB (l.getD (Int.toNat c.2.1) zq2)then bif decide (0≤c.2.1)&&decide (c.2.1<(↑l.length:Int))then bif(l.getD (Int.toNat c.2.1) zq2).1 == r.2.2.2.2.2.2.2.2.2.2.2.2.2.2.2.2.2.1&&((l.getD (Int.toNat c.2.1) zq2).2.1 == r.2.2.2.2.2.2.2.2.2.2.2.2.2.2.2.2.2.2.1&&((l.getD (Int.toNat c.2.1) zq2).2.2.1 == r.2.2.2.2.2.2.2.2.2.2.2.2.2.2.2.2.2.2.2.1&&true))then bif af aav.2.1 then some (10,!cJ c.2.2.2.1 aav.2.1)else none else some (10,false)else none else some (10,false)else none else some (10,false)else some (10,false):=by kernel_rfl
noncomputable def agH:List ay→((List ay)×(List aL)×bR×jf×SCl×Nat)→Int×Bool
 | [],(all,l,r,aav,c,i)=>bif decide (c.2.1≥0)then bif decide (c.2.1<(↑l.length:Int))then bif !cB (l.getD (Int.toNat c.2.1) zq2)then bif(l.getD (Int.toNat c.2.1) zq2).1 == r.2.2.2.2.2.2.2.2.2.2.2.2.2.2.2.2.2.1&&((l.getD (Int.toNat c.2.1) zq2).2.1 == r.2.2.2.2.2.2.2.2.2.2.2.2.2.2.2.2.2.2.1&&((l.getD (Int.toNat c.2.1) zq2).2.2.1 == r.2.2.2.2.2.2.2.2.2.2.2.2.2.2.2.2.2.2.2.1&&true))then(10,!cJ c.2.2.2.1 aav.2.1)else(10,false)else(10,false)else(10,false)else(10,false)
 | uu::rest,(all,l,r,aav,c,i)=>bif decide (bu (ZC (r.1,r.2.1,0)) uu.1 0≥0)then(0,true)else agH rest (all,l,r,aav,c,i+1)
noncomputable def agr:List ay→((List ay)×(List aL)×bR×jf×SCl×Nat)→Bool
 | [],(all,l,r,aav,c,i)=>bif decide (c.2.1≥0)then bif decide (c.2.1<(↑l.length:Int))then decide (0≤c.2.1)&&decide (c.2.1<(↑l.length:Int))&&bif !cB (l.getD (Int.toNat c.2.1) zq2)then decide (0≤c.2.1)&&decide (c.2.1<(↑l.length:Int))&&bif(l.getD (Int.toNat c.2.1) zq2).1 == r.2.2.2.2.2.2.2.2.2.2.2.2.2.2.2.2.2.1&&((l.getD (Int.toNat c.2.1) zq2).2.1 == r.2.2.2.2.2.2.2.2.2.2.2.2.2.2.2.2.2.2.1&&((l.getD (Int.toNat c.2.1) zq2).2.2.1 == r.2.2.2.2.2.2.2.2.2.2.2.2.2.2.2.2.2.2.2.1&&true))then af aav.2.1 else true else true else true else true
 | uu::rest,(all,l,r,aav,c,i)=>af uu.1&&bif decide (bu (ZC (r.1,r.2.1,0)) uu.1 0≥0)then true else agr rest (all,l,r,aav,c,i+1)
theorem aro:∀(rest:List ay) (all:List ay) (l:List aL) (r:bR) (aav:jf) (c:SCl) (i:Nat) (hd:all.drop i=rest) (hl:all.length≤1099511627776),de (fun f=>alQ f (all,l,r,aav,c,((i:Nat):Int))) (agr rest (all,l,r,aav,c,i)) (agH rest (all,l,r,aav,c,i))
 | [],all,l,r,aav,c,i,hd,hl=>ai (fun f=>(amP f _ _ _ _ _ _).trans (by simp only[fA (bT hd),fW,azP,azI]<;>rfl)) (ao (ao (aI (ao (aI (ao (cS ae) ae)) ae)) ae) ae)
 | uu::rest,all,l,r,aav,c,i,hd,hl=>ai (fun f=>(amP f _ _ _ _ _ _).trans (by simp only[cK (ak hd),bC hd,bk (ak hd) hl,fW,azQ,azH]<;>rfl)) (aI (ao ae (aro rest _ _ _ _ _ _ (aH hd) hl)))
noncomputable def aqn:((List ay)×(List aL)×bR×(List aj)×jf)→Int×Bool
 | (all,l,r,jb,next)=>bif r.2.2.2.1 == 6 then(0,cJ (r.1,r.2.1,r.2.2.1) jb)else bif r.2.2.2.1 == 4 then agH all (all,l,r,next,(r.2.2.2.1,r.2.2.2.2.1,r.2.2.2.2.2.1,r.2.2.2.2.2.2.1,r.2.2.2.2.2.2.2.1,r.2.2.2.2.2.2.2.2.1,r.2.2.2.2.2.2.2.2.2.1,r.2.2.2.2.2.2.2.2.2.2.1,r.2.2.2.2.2.2.2.2.2.2.2.1,r.2.2.2.2.2.2.2.2.2.2.2.2.1,r.2.2.2.2.2.2.2.2.2.2.2.2.2.1,r.2.2.2.2.2.2.2.2.2.2.2.2.2.2.1),0)else(0,false)
noncomputable def apZ:((List ay)×(List aL)×bR×(List aj)×jf)→Bool
 | (all,l,r,jb,next)=>bif r.2.2.2.1 == 6 then af jb else bif r.2.2.2.1 == 4 then decide (all.length≤1099511627776)&&agr all (all,l,r,next,(r.2.2.2.1,r.2.2.2.2.1,r.2.2.2.2.2.1,r.2.2.2.2.2.2.1,r.2.2.2.2.2.2.2.1,r.2.2.2.2.2.2.2.2.1,r.2.2.2.2.2.2.2.2.2.1,r.2.2.2.2.2.2.2.2.2.2.1,r.2.2.2.2.2.2.2.2.2.2.2.1,r.2.2.2.2.2.2.2.2.2.2.2.2.1,r.2.2.2.2.2.2.2.2.2.2.2.2.2.1,r.2.2.2.2.2.2.2.2.2.2.2.2.2.2.1),0)else true
theorem asH:∀a:(List ay)×(List aL)×bR×(List aj)×jf,de (fun f=>avf f a) (apZ a) (aqn a)
 | (all,l,r,jb,next)=>ai (fun f=>as7 f _ _ _ _ _) (ao (cS ae) (ao (bL fun hh=>aro _ _ _ _ _ _ _ rfl (azZ hh)) ae))
def Fq(l:List aL)(r:bR):Bool:=decide (0≤(sQ r).2.1)&&(decide ((sQ r).2.1<(l.length:Nat))&&(!cB (l.getD (sQ r).2.1.toNat iR)&&decide (xH (l.getD (sQ r).2.1.toNat iR)=jm (Xk r))))
def ij(h:aj→Bool)(l:List aL)(r:bR)(d:List aj)(m:List Int):Int×Bool:=
 bif decide ((sQ r).1=6)then(0,cJ (tZ r) d)
 else bif decide ((sQ r).1=4)then(bif h ((tZ r).1,(tZ r).2.1,0)then(0,true)else(10,Fq l r&&!cJ (sQ r).2.2.2.1 m))
 else(0,false)
def jL(all:List ay)(id:aj):Bool:=all.any fun s=>s.1.any (ZC id)
theorem auq(l:List aL)(r:bR)(v:jf)(hm:af v.2.1=true):∀(q all:List ay) (k:Nat),(∀s∈q,af s.1=true)→
  agH q (all,l,r,v,sQ r,k)=(bif jL q ((tZ r).1,(tZ r).2.1,0)then(0,true)else(10,Fq l r&&!cJ (sQ r).2.2.2.1 v.2.1))∧agr q (all,l,r,v,sQ r,k)=true
 | [],all,k,h=>by
  have e:∀u:aL,(u.1 == r.2.2.2.2.2.2.2.2.2.2.2.2.2.2.2.2.2.1&&(u.2.1 == r.2.2.2.2.2.2.2.2.2.2.2.2.2.2.2.2.2.2.1&&(u.2.2.1 == r.2.2.2.2.2.2.2.2.2.2.2.2.2.2.2.2.2.2.2.1&&true)))=decide (xH u=jm (Xk r)):=fun u=>id_eq (xH u) (jm (Xk r))
  simp only[agH,agr,e,Fq,jL,List.any_nil,azI,ge_iff_le,hm];cases decide (0≤(sQ r).2.1)<;>cases decide ((sQ r).2.1<(l.length:Nat))<;>simp only[azH,azI,azQ,azP,Bool.false_and,aAt,Bool.and_false,and_self]
  show(bif !cB (l.getD (sQ r).2.1.toNat iR)then _ else _)=_∧(bif !cB (l.getD (sQ r).2.1.toNat iR)then _ else _)=_;cases cB (l.getD (sQ r).2.1.toNat iR)<;>simp only[aBr,aBh,azH,azI,azP,Bool.false_and,and_self]
  show(bif decide (xH (l.getD (sQ r).2.1.toNat iR)=jm (Xk r))then _ else _)=_∧(bif decide (xH (l.getD (sQ r).2.1.toNat iR)=jm (Xk r))then _ else _)=_;grind
 | u::q,all,k,h=>by
  obtain⟨i1,i2⟩:=auq l r v hm q all (k+1) (fun s hs=>h s (az6 _ hs));have h1:=h u (az1 ..);simp only[agH,agr,i1,i2,h1,T5,jL,aBS,azP];grind[ZC,tZ]
def apF(a:List ay×List aL×bR×List aj×jf):Bool:=af a.1&&((a.1.all fun s=>af s.1)&&(af a.2.2.2.1&&af a.2.2.2.2.2.1))
theorem apt:∀a:List ay×List aL×bR×List aj×jf,apF a=true→apZ a=true∧aqn a=ij (jL a.1) a.2.1 a.2.2.1 a.2.2.2.1 a.2.2.2.2.2.1:=by
 rintro⟨all,l,r,d,v⟩ h;simp only[apF,azF]at h;obtain⟨h1,h2,h3,h4⟩:=h;obtain⟨i1,i2⟩:=auq l r v h4 all all 0 (fun s hs=>azU.1 h2 s hs);have e6:(r.2.2.2.1 == 6)=decide ((sQ r).1=6):=xm _ _;have e4:(r.2.2.2.1 == 4)=decide ((sQ r).1=4):=xm _ _;have h1:decide (all.length≤1099511627776)=true:=h1;simp only[apZ,aqn,e6,e4,ij,h3,h1,azP];cases decide ((sQ r).1=6)
 ·grind[sQ]
 ·exact⟨rfl,rfl⟩
theorem ax4:∀a,apF a=true→apZ a=true:=fun a h=>(apt a h).1
theorem ax5:∀a,apF a=true→aqn a=ij (jL a.1) a.2.1 a.2.2.1 a.2.2.2.1 a.2.2.2.2.2.1:=fun a h=>(apt a h).2
noncomputable def avO:dn:=⟨107,[.rd bl,.rd bg,.g bV,.rd aE,.g Jp],[.v zI,.v .bool],apF,fun a:(List ay)×(List aL)×bR×(List aj)×jf=>ij (jL a.1) a.2.1 a.2.2.1 a.2.2.2.1 a.2.2.2.2.2.1⟩
theorem atP:zO avO:=fl ar9 anK [.tmp 10,.tmp 11] mixed (ah tF (ah atU (ah E3 (ah atW (aC))))) Tryz.func107 (bp asH ax4 ax5)
def uB(a b:dv):Bool:=decide (a.1<b.1)
theorem XT:qt uB:=⟨fun a b h=>by simp only[uB,azM,aB6]at *;omega,fun a b c h1 h2=>by simp only[uB,aB6]at *;omega⟩
noncomputable def aqw:cX:=zC [] (dE [(6,([(0,[]),(1,[]),(2,[]),(3,[]),(4,[]),(5,[]),(6,[]),(7,[]),(8,[]),(9,[]),(10,[]),(11,[]),(12,[]),(13,[]),(14,[]),(15,[])],[(14,29)])),(8,([(0,[]),(1,[]),(2,[]),(4,[]),(5,[]),(6,[3]),(7,[3]),(8,[3]),(10,[]),(11,[]),(12,[]),(3,[]),(9,[]),(13,[]),(14,[])],[(3,3),(32,45)]))]) 47
def ait:Nat→LD:=eO [(0,⟨[.rd 0 dH,.c 3 (.sl dH),.c 4 (zI)],[],0⟩),(2,⟨[.rd 0 dH,.c 3 (.sl dH),.c 4 (zI),.c 5 (zI)],[],0⟩)]
noncomputable def au6(f:Nat)(a:(List dv)):Option ((List dv)):=aG aqw ait (zK [.tmp 2] [.v (.sl dH)]) f [.code (aB Tryz.f109)] (aQ [.rd dH] a)
noncomputable def agv(f:Nat)(x:(List dv)×(List dv)×Int):Option ((List dv)):=aG aqw ait (zK [.tmp 2] [.v (.sl dH)]) f (aV Tryz.f109 0) ((ait 0).mk' x)
noncomputable def ak4(f:Nat)(x:(List dv)×(List dv)×Int×Int):Option ((List dv)):=aG aqw ait (zK [.tmp 2] [.v (.sl dH)]) f (aV Tryz.f109 2) ((ait 2).mk' x)
theorem asW(f:Nat)(l:List dv):au6 (f+1) l =
  agv f (l,[],0):=by kernel_rfl
theorem amf(f:Nat)(l:List dv)(out:List dv)(i:Int):agv (f+1) (l,out,i) =
  bif decide (i<(↑l.length:Int))then ak4 f (l,out,i,(↑out.length:Int))else some out:=by kernel_rfl
theorem ahU(f:Nat)(l:List dv)(out:List dv)(i:Int)(k:Int):ak4 (f+1) (l,out,i,k) =
  bif decide (k>0)then bif decide (0≤i)&&decide (i<(↑l.length:Int))then bif decide (0≤i64.wrap (k-1))&&decide (i64.wrap (k-1)<(↑out.length:Int))then bif decide ((l.getD i.toNat (0,0)).1<(out.getD (i64.wrap (k-1)).toNat (0,0)).1)then ak4 f (l,out,i,i64.wrap (k-1))else bif decide (0≤k)&&decide (k≤(↑out.length:Int))then bif decide (0≤i)&&decide (i<(↑l.length:Int))then bif decide (0≤k)&&decide (k≤(↑out.length:Int))then bif decide ((List.take k.toNat out).length*16≤140737488355328)then bif decide (((List.take k.toNat out).length+[l.getD i.toNat (0,0)].length)*16≤140737488355328)then bif decide (((List.take k.toNat out++[l.getD i.toNat (0,0)]).length+(List.drop k.toNat out).length)*16≤140737488355328)then agv f (l,List.take k.toNat out++[l.getD i.toNat (0,0)]++List.drop k.toNat out,i64.wrap (i+1))else none else none else none else none else none else none else none else none else bif decide (0≤k)&&decide (k≤(↑out.length:Int))then bif decide (0≤i)&&decide (i<(↑l.length:Int))then bif decide (0≤k)&&decide (k≤(↑out.length:Int))then bif decide ((List.take k.toNat out).length*16≤140737488355328)then bif decide (((List.take k.toNat out).length+[l.getD i.toNat (0,0)].length)*16≤140737488355328)then bif decide (((List.take k.toNat out++[l.getD i.toNat (0,0)]).length+(List.drop k.toNat out).length)*16≤140737488355328)then agv f (l,List.take k.toNat out++[l.getD i.toNat (0,0)]++List.drop k.toNat out,i64.wrap (i+1))else none else none else none else none else none else none:=by kernel_rfl
theorem axO{l p q:List dv}{s:dv}{R:List dv}(hl:l=p++s::q)(hp:p.length≤1000000):∀(n:Nat) (a b:List dv),a.length=n→dD uB (a++b)→(∀z∈b,uB s z=true)→a.length+b.length≤1000000→
  (∃f,agv f (l,cA uB s (a++b),((p.length+1:Nat):Int))=some R)→∃f,ak4 f (l,a++b,((p.length:Nat):Int),((a.length:Nat):Int))=some R:=by
 subst hl;intro n;have w1:i64.wrap (((p.length:Nat):Int)+1)=((p.length+1:Nat):Int):=by grind[az]
 have nn:∀(n:Nat),n≤2000000→decide (n*16≤140737488355328)=true:=fun n h=>azC (by omega)
 induction n with
 | zero=>
  intro a b hn hsr hb hlen ⟨f,hf⟩;obtain rfl:=aAf hn;refine⟨f+1,(ahU f _ _ _ _).trans ?_⟩;have e1:cA uB s ([]++b)=[]++[s]++b:=by
   cases b with
   | nil=>rfl
   | cons z b=>simp only[aAs,cA,hb z (az1 ..),azH];rfl
  grind
 | succ n ih=>
  intro a b hn hsr hb hlen hR;obtain⟨a,z,rfl⟩:∃a' z,a=a'++[z]:=⟨a.dropLast,a.getLast (by grind),(aBV _).symm⟩;have han:a.length=n:=by grind
  simp only[azG,azL,az2]at hlen;have wk:i64.wrap ((((a++[z]).length:Nat):Int)-1)=((a.length:Nat):Int):=by
   rw[az (by simp) (by grind)];grind
  have gz:(a++[z]++b).getD ((a.length:Nat):Int).toNat (0,0)=z:=by simp_all
  have hk:decide ((((a++[z]).length:Nat):Int)>0)=true:=azC (by grind);have Dv:decide (((a.length:Nat):Int)<(((a++[z]++b).length:Nat):Int))=true:=azC (by grind);cases hc:uB s z
  ·obtain⟨f,hf⟩:=hR
   refine⟨f+1,(ahU f _ _ _ _).trans ?_⟩;have Kj:∀y∈a++[z],uB s y=false:=fun y hy=>by
    have hsa:=(aAI.1 hsr).1;rcases aAp.1 hy with hy | hy
    ·exact XT.ntrans y z _ ((aAI.1 hsa).2.2 y hy z (aAD.2 rfl)) hc
    grind
   have e1:cA uB s (a++[z]++b)=a++[z]++[s]++b:=by
    cases b with
    | nil=>rw[aAc,gL XT Kj,aAc]
    | cons y b=>
     have hsb:dD uB (a++[z]++[y]):=hsr.sublist (aCo (by simp) _);rw[mu XT (s:=a++[z]) hsb (hb y (az1 ..)),gL XT Kj]
   rw[e1]at hf;have hc:decide (s.1<z.1)=false:=hc;rw[hk,azH,M9,ZH,fW,fW,wk,Dv,gz,hc,w1,fW];have d1:decide ((((a++[z]).length:Nat):Int)≤(((a++[z]++b).length:Nat):Int))=true:=azC (by grind);have t1:List.take ((((a++[z]).length:Nat):Int)).toNat (a++[z]++b)=a++[z]:=by grind
   have t2:List.drop ((((a++[z]).length:Nat):Int)).toNat (a++[z]++b)=b:=by grind
   simp only[t1,t2,d1,azQ,azH,azI];rw[nn _ (by grind),nn _ (by grind),nn _ (by grind)];exact hf
  ·obtain⟨f,hf⟩:=ih a (z::b) han (by simpa using hsr) (fun y hy=>by
    grind) (by grind) (by grind)
   refine⟨f+1,(ahU f _ _ _ _).trans ?_⟩;have hc:decide (s.1<z.1)=true:=hc;rw[hk,azH,M9,ZH,fW,fW,wk,Dv,gz,hc];grind
theorem aua:∀(r p:List dv) (out:List dv),p.length+r.length≤1000000→out.length≤p.length→dD uB out→∃f,agv f (p++r,out,((p.length:Nat):Int))=some (r.foldl (fun s x=>cA uB x s) out)
 | [],p,out,hl,ho,hs=>⟨1,(amf 0 _ _ _).trans (by grind)⟩
 | s::r,p,out,hl,ho,hs=>by
  simp only[azL]at hl;have el:(p++[s]).length=p.length+1:=by simp
  have hi:=oJ (lt:=uB) s out;obtain⟨f,hf⟩:=aua r (p++[s]) (cA uB s out) (by grind) (by grind) (kP XT hs);rw[el,aAB,aCf]at hf;obtain⟨g,hg⟩:=axO (R:=r.foldl (fun s x=>cA uB x s) (cA uB s out)) (p:=p) (q:=r) (s:=s) rfl (by omega) out.length out [] rfl (by grind) (by simp) (by simp;omega) ⟨f,by simpa using hf⟩;refine⟨g+1,(amf g _ _ _).trans ?_⟩;grind
theorem at9:∀a:List dv,decide (a.length≤1000000)=true→∃f,au6 f a=some (ca uB a):=fun a h=>by
 have h:a.length≤1000000:=azZ h;obtain⟨f,hf⟩:=aua a [] [] (by grind) (azJ _) .nil;exact⟨f+1,(asW f _).trans hf⟩
noncomputable def avE:dn:=⟨109,[.rd dH],[.v (.sl dH)],fun a:(List dv)=>decide (a.length≤1000000),fun a:(List dv)=>ca uB a⟩
theorem atn:zO avE:=fl aqw ait [.tmp 2] mixed (aC) Tryz.func109 at9
