/- AI. -/
import Derived.Test.YtfggefeflojnkaaGreatEg3
set_option linter.unusedVariables false
open Go.IntKind (i64 u64)
namespace Go.AL
open Go.Proofs
abbrev bg:List Ty:=[zI,zI,zI,.sl aE,zI,zI,zI,zI,zI,zI,.bool,zI,zI,zI,zI]
abbrev aL:=Int×Int×Int×(List aj)×Int×Int×Int×Int×Int×Int×Bool×Int×Int×Int×Int
def xH(s:aL):aj:=(s.1,s.2.1,s.2.2.1)
def snd(s:aL):cu:=(s.1,s.2.1,s.2.2.1,s.2.2.2.1,s.2.2.2.2.1,s.2.2.2.2.2.1,s.2.2.2.2.2.2.1,s.2.2.2.2.2.2.2.1,s.2.2.2.2.2.2.2.2.1,s.2.2.2.2.2.2.2.2.2.1,s.2.2.2.2.2.2.2.2.2.2.1)
def Ju(s:aL):Int:=s.2.2.2.2.2.2.2.2.2.2.2.1
def nU(s:aL):aj:=s.2.2.2.2.2.2.2.2.2.2.2.2
def Ys(n:cu)(op:Int)(lk:aj):aL:=(n.1,n.2.1,n.2.2.1,n.2.2.2.1,n.2.2.2.2.1,n.2.2.2.2.2.1,n.2.2.2.2.2.2.1,n.2.2.2.2.2.2.2.1,n.2.2.2.2.2.2.2.2.1,n.2.2.2.2.2.2.2.2.2.1,n.2.2.2.2.2.2.2.2.2.2,op,lk)
instance awh:DecidableEq aL:=@instDecidableEqProd Int _ _ (@instDecidableEqProd Int _ _ (@instDecidableEqProd Int _ _ (@instDecidableEqProd (List aj) _ _ (@instDecidableEqProd Int _ _ (@instDecidableEqProd Int _ _ (@instDecidableEqProd Int _ _ (@instDecidableEqProd Int _ _ (@instDecidableEqProd Int _ _ (@instDecidableEqProd Int _ _ (@instDecidableEqProd Bool _ _ (@instDecidableEqProd Int aj _ inferInstance)))))))))))
def ct(l:List aL):Bool:=decide (l.length≤68719476736)&&l.all fun s=>af s.2.2.2.1
theorem fD{l:List aL}(h:ct l=true):l.length≤68719476736:=by
 simp only[ct,azF,azM]at h;exact h.1
theorem gk{l:List aL}(h:ct l=true){s:aL}(hs:s∈l):af s.2.2.2.1=true:=by
 simp only[ct,azF]at h;grind
theorem uo{l:List aL}(h1:l.length≤68719476736)(h2:∀s∈l,af s.2.2.2.1=true):ct l=true:=by
 simp only[ct,azF,azM];grind
def cB(s:aL):Bool:=decide (xH s=(0,0,0))
noncomputable def ad5:cX:=zC [] (dE []) 8
noncomputable def abD(f:Nat)(a:aL):Option Bool:=aG ad5 (eO []) (zK [.tmp 2] [.v .bool]) f [.code (aB Tryz.f25)] (aQ [.g bg] a)
theorem UZ(f:Nat)(s:aL):abD (f+1) s =
  some (s.1 == 0&&(s.2.1 == 0&&(s.2.2.1 == 0&&true))):=by kernel_rfl
noncomputable def acH:aL→Bool
 | s=>s.1 == 0&&(s.2.1 == 0&&(s.2.2.1 == 0&&true))
noncomputable def aaU:aL→Bool
 | s=>true
theorem Te:∀a:aL,de (fun f=>abD f a) (aaU a) (acH a)
 | s=>ai (fun f=>UZ f _) ae
theorem akP:∀a,(fun _=>true) a=true→acH a=cB a:=fun a _=>id_eq (xH a) (0,0,0)
noncomputable def Hp:dn:=⟨25,[.g bg],[.v .bool],fun _=>true,cB⟩
theorem E3:zO Hp:=fl ad5 (eO []) [.tmp 2] mixed (aC) Tryz.func25 (bp Te (fun _ _=>rfl) akP)
noncomputable def ajU:cX:=zC [] (dE []) 8
noncomputable def ajk(f:Nat)(a:aL):Option Bool:=aG ajU (eO []) (zK [.tmp 2] [.v .bool]) f [.code (aB Tryz.f89)] (aQ [.g bg] a)
theorem ab3(f:Nat)(s:aL):ajk (f+1) s =
  some (s.1 == 0&&(s.2.1 == 0&&(s.2.2.1 == 0&&true))):=by kernel_rfl
noncomputable def ajy:aL→Bool
 | s=>s.1 == 0&&(s.2.1 == 0&&(s.2.2.1 == 0&&true))
noncomputable def aiV:aL→Bool
 | s=>true
theorem ZS:∀a:aL,de (fun f=>ajk f a) (aiV a) (ajy a)
 | s=>ai (fun f=>ab3 f _) ae
theorem aqO:∀a,(fun _=>true) a=true→ajy a=cB a:=fun a _=>id_eq (xH a) (0,0,0)
noncomputable def E6:dn:=⟨89,[.g bg],[.v .bool],fun _=>true,cB⟩
theorem wh:zO E6:=fl ajU (eO []) [.tmp 2] mixed (aC) Tryz.func89 (bp ZS (fun _ _=>rfl) aqO)
theorem aiB{α:Type}[DecidableEq α](F P:List α→List α×List α×Nat→Bool)(C:α→Prop)
  (h0:∀a b k,F [] (a,b,k)=true∧P [] (a,b,k)=true)
  (h1:∀u r a b k v t,C u→b.drop k=v::t→F (u::r) (a,b,k)=(bif !decide (u=v)then false else F r (a,b,k+1))∧(P r (a,b,k+1)=true→P (u::r) (a,b,k)=true)) :
  ∀(r a b t:List α) (k:Nat),(∀u∈r,C u)→b.drop k=t→r.length=t.length→F r (a,b,k)=decide (r=t)∧P r (a,b,k)=true
 | [],a,b,[],k,hC,h,e=>by simp[h0]
 | [],a,b,v::t,k,hC,h,e=>by simp at e
 | u::r,a,b,[],k,hC,h,e=>by simp at e
 | u::r,a,b,v::t,k,hC,h,e=>by
  obtain⟨i1,i2⟩:=aiB F P C h0 h1 r a b t (k+1) (fun x hx=>hC x (az6 _ hx)) (aH h) (by grind);obtain⟨j1,j2⟩:=h1 u r a b k v t (hC u (az1 ..)) h;simp_all
noncomputable def avX:cX:=zC [Hm] (dE [(6,([(0,[]),(1,[]),(2,[]),(3,[]),(4,[]),(5,[]),(6,[]),(7,[]),(8,[]),(9,[]),(10,[]),(11,[]),(12,[]),(13,[]),(14,[]),(15,[]),(16,[]),(17,[]),(18,[]),(19,[]),(20,[]),(21,[]),(22,[]),(23,[]),(24,[]),(25,[]),(26,[]),(27,[]),(28,[]),(29,[]),(30,[]),(31,[]),(32,[]),(33,[]),(34,[]),(35,[]),(36,[]),(37,[])],[(17,54)]))]) 55
def aqa:Nat→LD:=eO [(0,⟨[.rd 0 bg,.rd 1 bg,.c 5 (zI)],[],0⟩)]
noncomputable def axs(f:Nat)(a:(List aL)×(List aL)):Option Bool:=aG avX aqa (zK [.tmp 4] [.v .bool]) f [.code (aB Tryz.f28)] (aQ [.rd bg,.rd bg] a)
noncomputable def anP(f:Nat)(x:(List aL)×(List aL)×Int):Option Bool:=aG avX aqa (zK [.tmp 4] [.v .bool]) f (aV Tryz.f28 0) ((aqa 0).mk' x)
theorem au2(f:Nat)(a:List aL)(b:List aL):axs (f+1) (a,b) =
  bif(↑a.length:Int) != (↑b.length:Int)then some false else anP f (a,b,0):=by kernel_rfl
theorem anW(f:Nat)(a:List aL)(b:List aL)(i:Int):anP (f+1) (a,b,i) =
  bif decide (i<(↑a.length:Int))then bif decide (0≤i)&&decide (i<(↑a.length:Int))then bif decide (0≤i)&&decide (i<(↑b.length:Int))then bif(a.getD i.toNat zq2).2.2.2.2.2.2.2.2.2.2.2.1 != (b.getD i.toNat zq2).2.2.2.2.2.2.2.2.2.2.2.1 then some false else bif decide (0≤i)&&decide (i<(↑a.length:Int))then bif decide (0≤i)&&decide (i<(↑b.length:Int))then bif !((a.getD i.toNat zq2).2.2.2.2.2.2.2.2.2.2.2.2.1 == (b.getD i.toNat zq2).2.2.2.2.2.2.2.2.2.2.2.2.1&&((a.getD i.toNat zq2).2.2.2.2.2.2.2.2.2.2.2.2.2.1 == (b.getD i.toNat zq2).2.2.2.2.2.2.2.2.2.2.2.2.2.1&&((a.getD i.toNat zq2).2.2.2.2.2.2.2.2.2.2.2.2.2.2 == (b.getD i.toNat zq2).2.2.2.2.2.2.2.2.2.2.2.2.2.2&&true)))then some false else bif decide (0≤i)&&decide (i<(↑a.length:Int))then bif decide (0≤i)&&decide (i<(↑b.length:Int))then bif af (a.getD i.toNat zq2).2.2.2.1 then bif !decide (((a.getD i.toNat zq2).1,(a.getD i.toNat zq2).2.1,(a.getD i.toNat zq2).2.2.1,(a.getD i.toNat zq2).2.2.2.1,(a.getD i.toNat zq2).2.2.2.2.1,(a.getD i.toNat zq2).2.2.2.2.2.1,(a.getD i.toNat zq2).2.2.2.2.2.2.1,(a.getD i.toNat zq2).2.2.2.2.2.2.2.1,(a.getD i.toNat zq2).2.2.2.2.2.2.2.2.1,(a.getD i.toNat zq2).2.2.2.2.2.2.2.2.2.1,(a.getD i.toNat zq2).2.2.2.2.2.2.2.2.2.2.1)=((b.getD i.toNat zq2).1,(b.getD i.toNat zq2).2.1,(b.getD i.toNat zq2).2.2.1,(b.getD i.toNat zq2).2.2.2.1,(b.getD i.toNat zq2).2.2.2.2.1,(b.getD i.toNat zq2).2.2.2.2.2.1,(b.getD i.toNat zq2).2.2.2.2.2.2.1,(b.getD i.toNat zq2).2.2.2.2.2.2.2.1,(b.getD i.toNat zq2).2.2.2.2.2.2.2.2.1,(b.getD i.toNat zq2).2.2.2.2.2.2.2.2.2.1,(b.getD i.toNat zq2).2.2.2.2.2.2.2.2.2.2.1))then some false else anP f (a,b,i64.wrap (i+1))else none else none else none else none else none else none else none else some true:=by kernel_rfl
noncomputable def ahA:List aL→((List aL)×(List aL)×Nat)→Bool
 | [],(a,b,i)=>true
 | uu::rest,(a,b,i)=>bif uu.2.2.2.2.2.2.2.2.2.2.2.1 != (b.getD (↑i:Int).toNat zq2).2.2.2.2.2.2.2.2.2.2.2.1 then false else bif !(uu.2.2.2.2.2.2.2.2.2.2.2.2.1 == (b.getD (↑i:Int).toNat zq2).2.2.2.2.2.2.2.2.2.2.2.2.1&&(uu.2.2.2.2.2.2.2.2.2.2.2.2.2.1 == (b.getD (↑i:Int).toNat zq2).2.2.2.2.2.2.2.2.2.2.2.2.2.1&&(uu.2.2.2.2.2.2.2.2.2.2.2.2.2.2 == (b.getD (↑i:Int).toNat zq2).2.2.2.2.2.2.2.2.2.2.2.2.2.2&&true)))then false else bif !decide ((uu.1,uu.2.1,uu.2.2.1,uu.2.2.2.1,uu.2.2.2.2.1,uu.2.2.2.2.2.1,uu.2.2.2.2.2.2.1,uu.2.2.2.2.2.2.2.1,uu.2.2.2.2.2.2.2.2.1,uu.2.2.2.2.2.2.2.2.2.1,uu.2.2.2.2.2.2.2.2.2.2.1)=((b.getD (↑i:Int).toNat zq2).1,(b.getD (↑i:Int).toNat zq2).2.1,(b.getD (↑i:Int).toNat zq2).2.2.1,(b.getD (↑i:Int).toNat zq2).2.2.2.1,(b.getD (↑i:Int).toNat zq2).2.2.2.2.1,(b.getD (↑i:Int).toNat zq2).2.2.2.2.2.1,(b.getD (↑i:Int).toNat zq2).2.2.2.2.2.2.1,(b.getD (↑i:Int).toNat zq2).2.2.2.2.2.2.2.1,(b.getD (↑i:Int).toNat zq2).2.2.2.2.2.2.2.2.1,(b.getD (↑i:Int).toNat zq2).2.2.2.2.2.2.2.2.2.1,(b.getD (↑i:Int).toNat zq2).2.2.2.2.2.2.2.2.2.2.1))then false else ahA rest (a,b,i+1)
noncomputable def air:List aL→((List aL)×(List aL)×Nat)→Bool
 | [],(a,b,i)=>true
 | uu::rest,(a,b,i)=>decide ((↑i:Int)<(↑b.length:Int))&&bif uu.2.2.2.2.2.2.2.2.2.2.2.1 != (b.getD (↑i:Int).toNat zq2).2.2.2.2.2.2.2.2.2.2.2.1 then true else decide ((↑i:Int)<(↑b.length:Int))&&bif !(uu.2.2.2.2.2.2.2.2.2.2.2.2.1 == (b.getD (↑i:Int).toNat zq2).2.2.2.2.2.2.2.2.2.2.2.2.1&&(uu.2.2.2.2.2.2.2.2.2.2.2.2.2.1 == (b.getD (↑i:Int).toNat zq2).2.2.2.2.2.2.2.2.2.2.2.2.2.1&&(uu.2.2.2.2.2.2.2.2.2.2.2.2.2.2 == (b.getD (↑i:Int).toNat zq2).2.2.2.2.2.2.2.2.2.2.2.2.2.2&&true)))then true else decide ((↑i:Int)<(↑b.length:Int))&&(af uu.2.2.2.1&&bif !decide ((uu.1,uu.2.1,uu.2.2.1,uu.2.2.2.1,uu.2.2.2.2.1,uu.2.2.2.2.2.1,uu.2.2.2.2.2.2.1,uu.2.2.2.2.2.2.2.1,uu.2.2.2.2.2.2.2.2.1,uu.2.2.2.2.2.2.2.2.2.1,uu.2.2.2.2.2.2.2.2.2.2.1)=((b.getD (↑i:Int).toNat zq2).1,(b.getD (↑i:Int).toNat zq2).2.1,(b.getD (↑i:Int).toNat zq2).2.2.1,(b.getD (↑i:Int).toNat zq2).2.2.2.1,(b.getD (↑i:Int).toNat zq2).2.2.2.2.1,(b.getD (↑i:Int).toNat zq2).2.2.2.2.2.1,(b.getD (↑i:Int).toNat zq2).2.2.2.2.2.2.1,(b.getD (↑i:Int).toNat zq2).2.2.2.2.2.2.2.1,(b.getD (↑i:Int).toNat zq2).2.2.2.2.2.2.2.2.1,(b.getD (↑i:Int).toNat zq2).2.2.2.2.2.2.2.2.2.1,(b.getD (↑i:Int).toNat zq2).2.2.2.2.2.2.2.2.2.2.1))then true else air rest (a,b,i+1))
theorem ase:∀(rest:List aL) (a:List aL) (b:List aL) (i:Nat) (hd:a.drop i=rest) (hl:a.length≤1099511627776),de (fun f=>anP f (a,b,((i:Nat):Int))) (air rest (a,b,i)) (ahA rest (a,b,i))
 | [],a,b,i,hd,hl=>ai (fun f=>(anW f _ _ _).trans (by simp only[fA (bT hd),fW,azP,azI]<;>rfl)) ae
 | uu::rest,a,b,i,hd,hl=>ai (fun f=>(anW f _ _ _).trans (by simp only[cK (ak hd),bC hd,bk (ak hd) hl,fW,azQ,azP,azH]<;>rfl)) (aI (ao ae (aI (ao ae (aI (aI (ao ae (ase rest _ _ _ (aH hd) hl))))))))
noncomputable def avs:((List aL)×(List aL))→Bool
 | (a,b)=>bif(↑a.length:Int) != (↑b.length:Int)then false else ahA a (a,b,0)
noncomputable def auV:((List aL)×(List aL))→Bool
 | (a,b)=>bif(↑a.length:Int) != (↑b.length:Int)then true else decide (a.length≤1099511627776)&&air a (a,b,0)
theorem at5:∀a:(List aL)×(List aL),de (fun f=>axs f a) (auV a) (avs a)
 | (a,b)=>ai (fun f=>au2 f _ _) (ao ae (bL fun hh=>ase _ _ _ _ rfl (azZ hh)))
theorem awS:∀(r a b t:List aL) (k:Nat),(∀u∈r,af u.2.2.2.1=true)→b.drop k=t→r.length=t.length→ahA r (a,b,k)=decide (r=t)∧air r (a,b,k)=true:=by
 refine aiB ahA air (fun u=>af u.2.2.2.1=true) (fun _ _ _=>⟨rfl,rfl⟩) fun u r a b k v t hu h=>?_
 simp only[ahA,air,bC h,cK (ak h),hu,azP,ahe];grind
theorem azv:∀a:List aL×List aL,ct a.1=true→auV a=true:=fun a h=>by
 simp only[auV,zp];by_cases e:a.1.length=a.2.length
 ·rw[(awS a.1 a.1 a.2 a.2 0 (fun u hu=>gk h hu) rfl e).2];grind[fD]
 ·simp[e]
theorem azw:∀a:List aL×List aL,ct a.1=true→avs a=decide (a.1=a.2):=fun a h=>by
 simp only[avs,zp];by_cases e:a.1.length=a.2.length
 ·rw[(awS a.1 a.1 a.2 a.2 0 (fun u hu=>gk h hu) rfl e).1];simp[e]
 grind
noncomputable def axz:dn:=⟨28,[.rd bg,.rd bg],[.v .bool],fun a:(List aL)×(List aL)=>ct a.1,fun a:(List aL)×(List aL)=>decide (a.1=a.2)⟩
theorem avB:zO axz:=fl avX aqa [.tmp 4] mixed (ah OC (aC)) Tryz.func28 (bp at5 azv azw)
noncomputable def aeh:cX:=zC [ni] (dE [(5,([(0,[]),(1,[]),(2,[]),(3,[]),(4,[]),(5,[]),(7,[]),(8,[]),(9,[]),(10,[]),(11,[]),(12,[]),(13,[]),(14,[]),(15,[]),(16,[]),(6,[]),(17,[]),(18,[]),(19,[]),(20,[])],[(3,3),(11,30)]))]) 32
def G4:Nat→LD:=eO [(0,⟨[.rd 0 bg,.list 3 999 64 15 bg,.c 4 (zI)],[],0⟩)]
noncomputable def ajl(f:Nat)(a:(List aL)):Option ((List aL)):=aG aeh G4 (zK [.tmp 2] [.o 64 15 bg]) f [.code (aB Tryz.f51)] (aQ [.rd bg] a)
noncomputable def Ax(f:Nat)(x:(List aL)×(List aL)×Int):Option ((List aL)):=aG aeh G4 (zK [.tmp 2] [.o 64 15 bg]) f (aV Tryz.f51 0) ((G4 0).mk' x)
theorem ab4(f:Nat)(l:List aL):ajl (f+1) l =
  Ax f (l,[],0):=by kernel_rfl
theorem CR(f:Nat)(l:List aL)(out:List aL)(i:Int):Ax (f+1) (l,out,i) =
  bif decide (i<(↑l.length:Int))then bif decide (0≤i)&&decide (i<(↑l.length:Int))then bif decide (0≤i)&&decide (i<(↑l.length:Int))then bif decide (0≤i)&&decide (i<(↑l.length:Int))then bif af (l.getD i.toNat zq2).2.2.2.1 then bif decide ((out.length+[((l.getD i.toNat zq2).1,(l.getD i.toNat zq2).2.1,(l.getD i.toNat zq2).2.2.1,(l.getD i.toNat zq2).2.2.2.1,(l.getD i.toNat zq2).2.2.2.2.1,(l.getD i.toNat zq2).2.2.2.2.2.1,(l.getD i.toNat zq2).2.2.2.2.2.2.1,(l.getD i.toNat zq2).2.2.2.2.2.2.2.1,(l.getD i.toNat zq2).2.2.2.2.2.2.2.2.1,(l.getD i.toNat zq2).2.2.2.2.2.2.2.2.2.1,(l.getD i.toNat zq2).2.2.2.2.2.2.2.2.2.2.1,(l.getD i.toNat zq2).2.2.2.2.2.2.2.2.2.2.2)].length)*136≤140737488355328)then Ax f (l,out++[l.getD i.toNat zq2],i64.wrap (i+1))else none else none else none else none else none else some out:=by kernel_rfl
noncomputable def rO:List aL→((List aL)×(List aL)×Nat)→(List aL)
 | [],(l,out,i)=>out
 | uu::rest,(l,out,i)=>rO rest (l,out++[uu],i+1)
noncomputable def vz:List aL→((List aL)×(List aL)×Nat)→Bool
 | [],(l,out,i)=>true
 | uu::rest,(l,out,i)=>af uu.2.2.2.1&&(decide ((out.length+1)*136≤140737488355328)&&vz rest (l,out++[uu],i+1))
theorem Sy:∀(rest:List aL) (l:List aL) (out:List aL) (i:Nat) (hd:l.drop i=rest) (hl:l.length≤1099511627776),de (fun f=>Ax f (l,out,((i:Nat):Int))) (vz rest (l,out,i)) (rO rest (l,out,i))
 | [],l,out,i,hd,hl=>ai (fun f=>(CR f _ _ _).trans (by simp only[fA (bT hd),fW,azP,azI]<;>rfl)) ae
 | uu::rest,l,out,i,hd,hl=>ai (fun f=>(CR f _ _ _).trans (by simp only[cK (ak hd),bC hd,bk (ak hd) hl,fW,azQ,azH]<;>rfl)) (aI (aI (Sy rest _ _ _ (aH hd) hl)))
noncomputable def acS:(List aL)→(List aL)
 | l=>rO l (l,[],0)
noncomputable def aa4:(List aL)→Bool
 | l=>decide (l.length≤1099511627776)&&vz l (l,[],0)
theorem Z4:∀a:(List aL),de (fun f=>ajl f a) (aa4 a) (acS a)
 | l=>ai (fun f=>ab4 f _) (bL fun hh=>Sy _ _ _ _ rfl (azZ hh))
theorem Z5(l:List aL):∀(r:List aL) (out:List aL) (k:Nat),(∀e∈r,af e.2.2.2.1=true)→out.length+r.length≤68719476736→rO r (l,out,k)=out++r∧vz r (l,out,k)=true
 | [],out,k,h,hl=>⟨by simp[rO],rfl⟩
 | u::r,out,k,h,hl=>by
  obtain⟨i1,i2⟩:=Z5 l r (out++[u]) (k+1) (fun e he=>h e (az6 _ he)) (by grind);have h1:=h u (az1 ..);grind[rO,vz]
theorem aqS:∀a,ct a=true→aa4 a=true:=fun a h=>by
 have:=fD h;simp only[aa4,(Z5 a a [] 0 (fun e he=>gk h he) (by grind)).2,aAt];grind
theorem aqT:∀a,ct a=true→acS a=a:=fun a h=>by
 simp only[acS,(Z5 a a [] 0 (fun e he=>gk h he) (by grind[fD])).1,aAs]
noncomputable def ajJ:dn:=⟨51,[.rd bg],[.o 64 15 bg],ct,fun a:(List aL)=>a⟩
theorem adG:zO ajJ:=fl aeh G4 [.tmp 2] mixed (ah gR (aC)) Tryz.func51 (bp Z4 aqS aqT)
noncomputable def asb:cX:=zC [] (dE []) 18
def anM:Nat→LD:=eO [(0,⟨[.rd 0 [zI],.c 1 (zI),.c 5 (zI)],[],0⟩)]
noncomputable def avm(f:Nat)(a:(List Int)×Int):Option Bool:=aG asb anM (zK [.tmp 4] [.v .bool]) f [.code (aB Tryz.f16)] (aQ [.rd [zI],.c zI] a)
noncomputable def alX(f:Nat)(x:(List Int)×Int×Int):Option Bool:=aG asb anM (zK [.tmp 4] [.v .bool]) f (aV Tryz.f16 0) ((anM 0).mk' x)
theorem atc(f:Nat)(l:List Int)(n:Int):avm (f+1) (l,n) =
  alX f (l,n,0):=by kernel_rfl
theorem anA(f:Nat)(l:List Int)(n:Int)(i:Int):alX (f+1) (l,n,i) =
  bif decide (i<(↑l.length:Int))then bif decide (0≤i)&&decide (i<(↑l.length:Int))then bif l.getD i.toNat 0 == n then some true else alX f (l,n,i64.wrap (i+1))else none else some false:=by kernel_rfl
noncomputable def aim:List Int→((List Int)×Int×Nat)→Bool
 | [],(l,n,i)=>false
 | uu::rest,(l,n,i)=>bif uu == n then true else aim rest (l,n,i+1)
noncomputable def ahK:List Int→((List Int)×Int×Nat)→Bool
 | [],(l,n,i)=>true
 | uu::rest,(l,n,i)=>bif uu == n then true else ahK rest (l,n,i+1)
theorem arz:∀(rest:List Int) (l:List Int) (n:Int) (i:Nat) (hd:l.drop i=rest) (hl:l.length≤1099511627776),de (fun f=>alX f (l,n,((i:Nat):Int))) (ahK rest (l,n,i)) (aim rest (l,n,i))
 | [],l,n,i,hd,hl=>ai (fun f=>(anA f _ _ _).trans (by simp only[fA (bT hd),fW,azP,azI]<;>rfl)) ae
 | uu::rest,l,n,i,hd,hl=>ai (fun f=>(anA f _ _ _).trans (by simp only[cK (ak hd),bC hd,bk (ak hd) hl,fW,azQ,azH]<;>rfl)) (ao ae (arz rest _ _ _ (aH hd) hl))
noncomputable def arZ:((List Int)×Int)→Bool
 | (l,n)=>aim l (l,n,0)
noncomputable def arS:((List Int)×Int)→Bool
 | (l,n)=>decide (l.length≤1099511627776)&&ahK l (l,n,0)
theorem asL:∀a:(List Int)×Int,de (fun f=>avm f a) (arS a) (arZ a)
 | (l,n)=>ai (fun f=>atc f _ _) (bL fun hh=>arz _ _ _ _ rfl (azZ hh))
theorem arJ(n:Int):∀(rest l:List Int) (k:Nat),aim rest (l,n,k)=cJ n rest∧ahK rest (l,n,k)=true
 | [],l,k=>⟨rfl,rfl⟩
 | u::r,l,k=>by
  obtain⟨i1,i2⟩:=arJ n r l (k+1);simp only[aim,ahK,i1,i2,Eg,xm];grind
theorem ayt:∀a:List Int×Int,af a.1=true→arS a=true:=fun a h=>by simp only[arS,(arJ a.2 a.1 a.1 0).2,aAt];exact h
theorem ayu:∀a:List Int×Int,af a.1=true→arZ a=cJ a.2 a.1:=fun a h=>by grind[arZ,arJ]
noncomputable def avT:dn:=⟨16,[.rd [zI],.c zI],[.v .bool],fun a:(List Int)×Int=>af a.1,fun a:(List Int)×Int=>cJ a.2 a.1⟩
theorem atW:zO avT:=fl asb anM [.tmp 4] mixed (aC) Tryz.func16 (bp asL ayt ayu)
noncomputable def Si:cX:=zC [] (dE []) 8
theorem NG:jh Tryz.prog []:=aC
theorem arb(l:List aL):(aG Si (fun _=>⟨[],[],0⟩) (zK [.tmp 2] [.o 64 15 bg]) 1 [.code (aB Tryz.f124)] (aQ [.rd bg] l):Option (eC [.o 64 15 bg]))=bif Decidable.decide (0<l.length)&&Bool.true then bif Decidable.decide ((([]:List Nat).length+l.length)*(bytesOf Tryz.prog 64)≤140737488355328)then some l else none else none:=by kernel_rfl
noncomputable def ajE:dn:=⟨124,[.rd bg],[.o 64 15 bg],fun a=>wP (a:List aL),fun a=>(a:List aL)⟩
theorem ade:ajE.Ok Tryz.prog:=fun a hp vs hv=>B3 (τ:=bg) (t:=64) (es:=15)
  (fun a h0 h1 vs hv=>iI (C:=Si) (Lt:=fun _=>⟨[],[],0⟩) (fn:=Tryz.f124) (rs:=[.tmp 2]) [.rd bg] [.o 64 15 bg] mixed NG Tryz.func124 rfl rfl rfl (by kernel_rfl) (by kernel_rfl) 1 ((arb a).trans (xX h0 h1 (by decide +kernel))) vs hv)
  (iI (C:=Si) (Lt:=fun _=>⟨[],[],0⟩) (fn:=Tryz.f124) (rs:=[.tmp 2]) (a:=()) [.raw (.slice none 0 0)] [.o 64 15 bg] mixed NG Tryz.func124 rfl rfl rfl (by kernel_rfl) (by kernel_rfl) 1 (by kernel_rfl) _ (by simp only[bY,ed,lZ];exact⟨_,rfl,rfl⟩))
  (fun b c=>iI (C:=Si) (Lt:=fun _=>⟨[],[],0⟩) (fn:=Tryz.f124) (rs:=[.tmp 2]) (a:=()) [.raw (.slice (some b) 0 c)] [.o 64 15 bg] mixed NG Tryz.func124 rfl rfl rfl (by kernel_rfl) (by kernel_rfl) 1 (by kernel_rfl) _ (by simp only[bY,ed,lZ];exact⟨_,rfl,rfl⟩))
  a (azZ hp) vs hv
noncomputable def ael:cX:=zC [ajE,CY] (dE []) 24
def G7:Nat→LD:=eO [(0,⟨[.list 3 999 64 15 bg,.c 8 (zI),.c 9 (zI)],[],0⟩)]
noncomputable def ajo(f:Nat)(a:(List aL)):Option ((List aL)):=aG ael G7 (zK [.tmp 2] [.o 64 15 bg]) f [.code (aB Tryz.f87)] (aQ [.rd bg] a)
noncomputable def AA(f:Nat)(x:(List aL)×Int×Int):Option ((List aL)):=aG ael G7 (zK [.tmp 2] [.o 64 15 bg]) f (aV Tryz.f87 0) ((G7 0).mk' x)
theorem ab9(f:Nat)(l:List aL):ajo (f+1) l =
  bif wP l then AA f (l,(↑l.length:Int),0)else none:=by kernel_rfl
theorem CU(f:Nat)(out:List aL)(x8:Int)(x9:Int):AA (f+1) (out,x8,x9) =
  bif decide (x9<x8)then bif decide (0≤x9)&&decide (x9<(↑out.length:Int))then bif af (out.getD x9.toNat zq2).2.2.2.1 then bif decide (0≤x9)&&decide (x9<(↑out.length:Int))then AA f (out.set x9.toNat (out.getD x9.toNat zq2),x8,i64.wrap (x9+1))else none else none else none else some out:=by kernel_rfl
noncomputable def we:List aL→((List aL)×Int×Nat)→(List aL)
 | [],(out,x8,x9)=>out
 | uu::rest,(out,x8,x9)=>we rest (out.set (↑x9:Int).toNat uu,x8,x9+1)
noncomputable def vB:List aL→((List aL)×Int×Nat)→Bool
 | [],(out,x8,x9)=>true
 | uu::rest,(out,x8,x9)=>af uu.2.2.2.1&&vB rest (out.set (↑x9:Int).toNat uu,x8,x9+1)
theorem SA:∀(rest:List aL) (out:List aL) (x8:Int) (x9:Nat) (hd:out.drop x9=rest) (hn:x8=((out.length:Nat):Int)) (hl:out.length≤1099511627776),de (fun f=>AA f (out,x8,((x9:Nat):Int))) (vB rest (out,x8,x9)) (we rest (out,x8,x9))
 | [],out,x8,x9,hd,hn,hl=>ai (fun f=>(CU f _ _ _).trans (by simp only[iZ hn (bT hd),fW,azP,azI]<;>rfl)) ae
 | uu::rest,out,x8,x9,hd,hn,hl=>ai (fun f=>(CU f _ _ _).trans (by simp only[iW hn (ak hd),cK (ak hd),bC hd,bk (ak hd) hl,fW,azQ,azH]<;>rfl)) (aI (SA rest _ _ _ (by first | exact aH hd | exact drop_set hd | exact bB (drop_set hd)) (by grind) (by grind)))
noncomputable def acV:(List aL)→(List aL)
 | l=>we l (l,(↑l.length:Int),0)
noncomputable def aa8:(List aL)→Bool
 | l=>wP l&&(decide (l.length≤1099511627776)&&vB l (l,(↑l.length:Int),0))
theorem aab:∀a:(List aL),de (fun f=>ajo f a) (aa8 a) (acV a)
 | l=>ai (fun f=>ab9 f _) (aI (bL fun hh=>SA _ _ _ _ rfl (by grind) (azZ hh)))
theorem tV{α:Type}{l r:List α}{u v:α}{k:Nat}(h:l.drop k=u::r):(l.set (Int.toNat ((k:Nat):Int)) v).take (k+1)=l.take k++[v]∧(l.set (Int.toNat ((k:Nat):Int)) v).drop (k+1)=r:=by
 refine⟨?_,drop_set h⟩;have hl:=ak h;rw[aAn,aAz,aA6 hl,aCi (by omega)];rfl
theorem tW{α:Type}{l r:List α}{u:α}{k:Nat}(h:l.drop k=u::r):l.set (Int.toNat ((k:Nat):Int)) u=l:=by
 rw[aAn];apply List.ext_getElem?;intro i;by_cases hi:k=i
 ·subst hi;rw[aA6 (ak h),rn h]
 grind
theorem aac(n:Int):∀(r:List aL) (out:List aL) (k:Nat),out.drop k=r→(∀e∈r,af e.2.2.2.1=true)→we r (out,n,k)=out∧vB r (out,n,k)=true
 | [],out,k,h,hl=>⟨rfl,rfl⟩
 | u::r,out,k,h,hl=>by
  obtain⟨i1,i2⟩:=aac n r out (k+1) (aH h) (fun e he=>hl e (az6 _ he));simp only[we,vB,tW h,i1,i2,hl u (az1 ..)];grind
theorem aqW:∀a,ct a=true→aa8 a=true:=fun a h=>by
 have:=fD h;simp only[aa8,(aac _ a a 0 rfl (fun e he=>gk h he)).2,aAt,azF];exact⟨azC (by omega),azC (by omega)⟩
theorem aqX:∀a,ct a=true→acV a=a:=fun a h=>by
 simp only[acV,(aac _ a a 0 rfl (fun e he=>gk h he)).1]
noncomputable def adL:dn:=⟨87,[.rd bg],[.o 64 15 bg],ct,fun a:(List aL)=>a⟩
theorem CZ:zO adL:=fl ael G7 [.tmp 2] mixed (ah ade (ah xA (aC))) Tryz.func87 (bp aab aqW aqX)
theorem J4{α:Type}(G:List α→List α→Nat→List α)(f:α→α)(h0:∀out k,G [] out k=out)
  (h1:∀u r out k,out.drop k=u::r→G (u::r) out k=G r (out.set (Int.toNat ((k:Nat):Int)) (f u)) (k+1)) :
  ∀(r out:List α) (k:Nat),out.drop k=r→G r out k=out.take k++r.map f
 | [],out,k,h=>by rw[h0,aBq,aAc,aAQ (by simp_all)]
 | u::r,out,k,h=>by
  obtain⟨s1,s2⟩:=tV (v:=f u) h;rw[h1 u r out k h,J4 G f h0 h1 r _ (k+1) s2,s1];simp
theorem Le{α:Type}(P:List α→List α→Nat→Bool)(f:α→α)(h0:∀out k,P [] out k=true)
  (h1:∀u r out k,out.drop k=u::r→P (u::r) out k=P r (out.set (Int.toNat ((k:Nat):Int)) (f u)) (k+1)) :
  ∀(r out:List α) (k:Nat),out.drop k=r→P r out k=true
 | [],out,k,h=>h0 _ _
 | u::r,out,k,h=>by rw[h1 u r out k h];exact Le P f h0 h1 r _ (k+1) (tV h).2
theorem axR(u:aL)(id:aj):(u.1 == id.1&&(u.2.1 == id.2.1&&(u.2.2.1 == id.2.2&&true)))=decide (xH u=id):=id_eq (xH u) id
theorem akl(u:aL)(id:aj):(u.2.2.2.2.2.2.2.2.2.2.2.2.1 == id.1&&(u.2.2.2.2.2.2.2.2.2.2.2.2.2.1 == id.2.1&&(u.2.2.2.2.2.2.2.2.2.2.2.2.2.2 == id.2.2&&true)))=decide (nU u=id):=id_eq (nU u) id
theorem YX(id:aj):(id.1 == 0&&(id.2.1 == 0&&(id.2.2 == 0&&true)))=decide (id=(0,0,0)):=id_eq id (0,0,0)
def ZC(id:aj)(s:aL):Bool:=!cB s&&decide (xH s=id)
noncomputable def asa:cX:=zC [Hp] (dE [(4,([(0,[]),(1,[]),(2,[]),(3,[]),(4,[]),(5,[]),(6,[]),(7,[]),(8,[]),(9,[]),(10,[]),(11,[]),(12,[]),(13,[]),(14,[]),(15,[])],[(12,27)]))]) 29
def anL:Nat→LD:=eO [(0,⟨[.rd 0 bg,.box 3 3 48 3 aE,.c 5 (zI)],[],0⟩)]
noncomputable def avi(f:Nat)(a:(List aL)×aj):Option Int:=aG asa anL (zK [.tmp 4] [.v zI]) f [.code (aB Tryz.f79)] (aQ [.rd bg,.g aE] a)
noncomputable def aie(f:Nat)(x:(List aL)×aj×Int):Option Int:=aG asa anL (zK [.tmp 4] [.v zI]) f (aV Tryz.f79 0) ((anL 0).mk' x)
theorem as9(f:Nat)(l:List aL)(id:aj):avi (f+1) (l,id) =
  aie f (l,id,0):=by kernel_rfl
theorem am8(f:Nat)(l:List aL)(id:aj)(i:Int):aie (f+1) (l,id,i) =
  bif decide (i<(↑l.length:Int))then bif decide (0≤i)&&decide (i<(↑l.length:Int))then bif !cB (l.getD i.toNat zq2)then bif decide (0≤i)&&decide (i<(↑l.length:Int))then bif(l.getD i.toNat zq2).1 == id.1&&((l.getD i.toNat zq2).2.1 == id.2.1&&((l.getD i.toNat zq2).2.2.1 == id.2.2&&true))then some i else aie f (l,id,i64.wrap (i+1))else none else aie f (l,id,i64.wrap (i+1))else none else some (-1):=by kernel_rfl
noncomputable def agI:List aL→((List aL)×aj×Nat)→Int
 | [],(l,id,i)=>-1
 | uu::rest,(l,id,i)=>bif !cB uu then bif uu.1 == id.1&&(uu.2.1 == id.2.1&&(uu.2.2.1 == id.2.2&&true))then(↑i:Int)else agI rest (l,id,i+1)else agI rest (l,id,i+1)
noncomputable def ags:List aL→((List aL)×aj×Nat)→Bool
 | [],(l,id,i)=>true
 | uu::rest,(l,id,i)=>bif !cB uu then bif uu.1 == id.1&&(uu.2.1 == id.2.1&&(uu.2.2.1 == id.2.2&&true))then true else ags rest (l,id,i+1)else ags rest (l,id,i+1)
theorem apb:∀(rest:List aL) (l:List aL) (id:aj) (i:Nat) (hd:l.drop i=rest) (hl:l.length≤1099511627776),de (fun f=>aie f (l,id,((i:Nat):Int))) (ags rest (l,id,i)) (agI rest (l,id,i))
 | [],l,id,i,hd,hl=>ai (fun f=>(am8 f _ _ _).trans (by simp only[fA (bT hd),fW,azP,azI]<;>rfl)) ae
 | uu::rest,l,id,i,hd,hl=>ai (fun f=>(am8 f _ _ _).trans (by simp only[cK (ak hd),bC hd,bk (ak hd) hl,fW,azQ,azH]<;>rfl)) (ao (ao ae (apb rest _ _ _ (aH hd) hl)) (apb rest _ _ _ (aH hd) hl))
noncomputable def arY:((List aL)×aj)→Int
 | (l,id)=>agI l (l,id,0)
noncomputable def arR:((List aL)×aj)→Bool
 | (l,id)=>decide (l.length≤1099511627776)&&ags l (l,id,0)
theorem asJ:∀a:(List aL)×aj,de (fun f=>avi f a) (arR a) (arY a)
 | (l,id)=>ai (fun f=>as9 f _ _) (bL fun hh=>apb _ _ _ _ rfl (azZ hh))
theorem arF(l:List aL)(id:aj):∀(r:List aL) (k:Nat),agI r (l,id,k)=bu (ZC id) r k∧ags r (l,id,k)=true
 | [],k=>⟨rfl,rfl⟩
 | u::r,k=>by
  obtain⟨i1,i2⟩:=arF l id r (k+1);grind[agI,ags,bu,ZC,axR,cB,xH]
theorem aya:∀a:List aL×aj,af a.1=true→arR a=true:=fun a h=>by simp only[arR,(arF _ _ _ _).2,aAt];exact h
theorem ayc:∀a:List aL×aj,af a.1=true→arY a=bu (ZC a.2) a.1 0:=fun a h=>by grind[arY,arF]
noncomputable def avR:dn:=⟨79,[.rd bg,.g aE],[.v zI],fun a:(List aL)×aj=>af a.1,fun a:(List aL)×aj=>bu (ZC a.2) a.1 0⟩
theorem atU:zO avR:=fl asa anL [.tmp 4] mixed (ah E3 (aC)) Tryz.func79 (bp asJ aya ayc)
def aoR(s:aL)(op:Int):aL:=Ys (snd s) op (nU s)
noncomputable def ar8:cX:=zC [ajJ] (dE []) 27
def anJ:Nat→LD:=eO [(0,⟨[.c 1 (zI),.list 5 999 64 15 bg,.c 6 (zI)],[],0⟩)]
noncomputable def avd(f:Nat)(a:(List aL)×Int):Option ((List aL)):=aG ar8 anJ (zK [.tmp 4] [.o 64 15 bg]) f [.code (aB Tryz.f108)] (aQ [.rd bg,.c zI] a)
noncomputable def ahY(f:Nat)(x:Int×(List aL)×Int):Option ((List aL)):=aG ar8 anJ (zK [.tmp 4] [.o 64 15 bg]) f (aV Tryz.f108 0) ((anJ 0).mk' x)
theorem as6(f:Nat)(l:List aL)(op:Int):avd (f+1) (l,op) =
  bif ct l then ahY f (op,l,0)else none:=by kernel_rfl
theorem amn(f:Nat)(op:Int)(out:List aL)(i:Int):ahY (f+1) (op,out,i) =
  bif decide (i<(↑out.length:Int))then bif decide (0≤i)&&decide (i<(↑out.length:Int))then bif(out.getD i.toNat zq2).2.2.2.2.2.2.2.2.2.2.2.1 == op then bif decide (0≤i)&&decide (i<(↑out.length:Int))then ahY f (op,out.set i.toNat ((out.getD i.toNat zq2).1,(out.getD i.toNat zq2).2.1,(out.getD i.toNat zq2).2.2.1,(out.getD i.toNat zq2).2.2.2.1,(out.getD i.toNat zq2).2.2.2.2.1,(out.getD i.toNat zq2).2.2.2.2.2.1,(out.getD i.toNat zq2).2.2.2.2.2.2.1,(out.getD i.toNat zq2).2.2.2.2.2.2.2.1,(out.getD i.toNat zq2).2.2.2.2.2.2.2.2.1,(out.getD i.toNat zq2).2.2.2.2.2.2.2.2.2.1,(out.getD i.toNat zq2).2.2.2.2.2.2.2.2.2.2.1,0,(out.getD i.toNat zq2).2.2.2.2.2.2.2.2.2.2.2.2),i64.wrap (i+1))else none else ahY f (op,out,i64.wrap (i+1))else none else some out:=by kernel_rfl
noncomputable def aey:List aL→(Int×(List aL)×Nat)→(List aL)
 | [],(op,out,i)=>out
 | uu::rest,(op,out,i)=>bif uu.2.2.2.2.2.2.2.2.2.2.2.1 == op then aey rest (op,out.set (↑i:Int).toNat (uu.1,uu.2.1,uu.2.2.1,uu.2.2.2.1,uu.2.2.2.2.1,uu.2.2.2.2.2.1,uu.2.2.2.2.2.2.1,uu.2.2.2.2.2.2.2.1,uu.2.2.2.2.2.2.2.2.1,uu.2.2.2.2.2.2.2.2.2.1,uu.2.2.2.2.2.2.2.2.2.2.1,0,uu.2.2.2.2.2.2.2.2.2.2.2.2),i+1)else aey rest (op,out,i+1)
noncomputable def aex:List aL→(Int×(List aL)×Nat)→Bool
 | [],(op,out,i)=>true
 | uu::rest,(op,out,i)=>bif uu.2.2.2.2.2.2.2.2.2.2.2.1 == op then aex rest (op,out.set (↑i:Int).toNat (uu.1,uu.2.1,uu.2.2.1,uu.2.2.2.1,uu.2.2.2.2.1,uu.2.2.2.2.2.1,uu.2.2.2.2.2.2.1,uu.2.2.2.2.2.2.2.1,uu.2.2.2.2.2.2.2.2.1,uu.2.2.2.2.2.2.2.2.2.1,uu.2.2.2.2.2.2.2.2.2.2.1,0,uu.2.2.2.2.2.2.2.2.2.2.2.2),i+1)else aex rest (op,out,i+1)
theorem aof:∀(rest:List aL) (op:Int) (out:List aL) (i:Nat) (hd:out.drop i=rest) (hl:out.length≤1099511627776),de (fun f=>ahY f (op,out,((i:Nat):Int))) (aex rest (op,out,i)) (aey rest (op,out,i))
 | [],op,out,i,hd,hl=>ai (fun f=>(amn f _ _ _).trans (by simp only[fA (bT hd),fW,azP,azI]<;>rfl)) ae
 | uu::rest,op,out,i,hd,hl=>ai (fun f=>(amn f _ _ _).trans (by simp only[cK (ak hd),bC hd,bk (ak hd) hl,fW,azQ,azH]<;>rfl)) (ao (aof rest _ _ _ (by first | exact aH hd | exact drop_set hd | exact bB (drop_set hd)) (by grind)) (aof rest _ _ _ (by first | exact aH hd | exact drop_set hd | exact bB (drop_set hd)) (by grind)))
noncomputable def avv:((List aL)×Int)→(List aL)
 | (l,op)=>aey l (op,l,0)
noncomputable def arQ:((List aL)×Int)→Bool
 | (l,op)=>ct l&&(decide (l.length≤1099511627776)&&aex l (op,l,0))
theorem asA:∀a:(List aL)×Int,de (fun f=>avd f a) (arQ a) (avv a)
 | (l,op)=>ai (fun f=>as6 f _ _) (aI (bL fun hh=>aof _ _ _ _ rfl (azZ hh)))
def mg(op:Int)(s:aL):aL:=bif decide (Ju s=op)then aoR s 0 else s
def ny(a:List aL×Int):List aL:=a.1.map (mg a.2)
theorem aui(op:Int)(u:aL)(r out:List aL)(k:Nat)(h:out.drop k=u::r):aey (u::r) (op,out,k)=aey r (op,out.set (Int.toNat ((k:Nat):Int)) (mg op u),k+1)∧aex (u::r) (op,out,k)=aex r (op,out.set (Int.toNat ((k:Nat):Int)) (mg op u),k+1):=by
 simp only[aey,aex,mg,xm];have e:decide (u.2.2.2.2.2.2.2.2.2.2.2.1=op)=decide (Ju u=op):=rfl;rw[e];cases decide (Ju u=op)
 ·simp only[azI,tW h];grind
 ·exact⟨rfl,rfl⟩
theorem ax2:∀a:List aL×Int,ct a.1=true→arQ a=true:=fun a h=>by
 have:=fD h;simp only[arQ,h,Le (fun r out k=>aex r (a.2,out,k)) (mg a.2) (fun _ _=>rfl) (fun u r out k h=>(aui a.2 u r out k h).2) a.1 a.1 0 rfl,aAt,azP];grind
theorem ax3:∀a:List aL×Int,ct a.1=true→avv a=ny a:=fun a h=>J4 (fun r out k=>aey r (a.2,out,k)) (mg a.2) (fun _ _=>rfl) (fun u r out k h=>(aui a.2 u r out k h).1) a.1 a.1 0 rfl
noncomputable def avM:dn:=⟨108,[.rd bg,.c zI],[.o 64 15 bg],fun a:(List aL)×Int=>ct a.1,ny⟩
theorem atG:zO avM:=fl ar8 anJ [.tmp 4] mixed (ah adG (aC)) Tryz.func108 (bp asA ax2 ax3)
noncomputable def ad6:cX:=zC [adL] (dE []) 27
def G0:Nat→LD:=eO [(0,⟨[.c 1 (zI),.list 5 999 64 15 bg,.c 10 (zI),.c 11 (zI)],[],0⟩)]
noncomputable def ai7(f:Nat)(a:(List aL)×Int):Option ((List aL)):=aG ad6 G0 (zK [.tmp 4] [.o 64 15 bg]) f [.code (aB Tryz.f91)] (aQ [.rd bg,.c zI] a)
noncomputable def vQ(f:Nat)(x:Int×(List aL)×Int×Int):Option ((List aL)):=aG ad6 G0 (zK [.tmp 4] [.o 64 15 bg]) f (aV Tryz.f91 0) ((G0 0).mk' x)
theorem abE(f:Nat)(l:List aL)(op:Int):ai7 (f+1) (l,op) =
  bif ct l then vQ f (op,l,(↑l.length:Int),0)else none:=by kernel_rfl
theorem CL(f:Nat)(op:Int)(out:List aL)(dB:Int)(kL:Int):vQ (f+1) (op,out,dB,kL) =
  bif decide (kL<dB)then bif decide (0≤kL)&&decide (kL<(↑out.length:Int))then bif(out.getD kL.toNat zq2).2.2.2.2.2.2.2.2.2.2.2.1 == op then bif decide (0≤kL)&&decide (kL<(↑out.length:Int))then vQ f (op,out.set kL.toNat ((out.getD kL.toNat zq2).1,(out.getD kL.toNat zq2).2.1,(out.getD kL.toNat zq2).2.2.1,(out.getD kL.toNat zq2).2.2.2.1,(out.getD kL.toNat zq2).2.2.2.2.1,(out.getD kL.toNat zq2).2.2.2.2.2.1,(out.getD kL.toNat zq2).2.2.2.2.2.2.1,(out.getD kL.toNat zq2).2.2.2.2.2.2.2.1,(out.getD kL.toNat zq2).2.2.2.2.2.2.2.2.1,(out.getD kL.toNat zq2).2.2.2.2.2.2.2.2.2.1,(out.getD kL.toNat zq2).2.2.2.2.2.2.2.2.2.2.1,0,(out.getD kL.toNat zq2).2.2.2.2.2.2.2.2.2.2.2.2),dB,i64.wrap (kL+1))else none else vQ f (op,out,dB,i64.wrap (kL+1))else none else some out:=by kernel_rfl
noncomputable def kv:List aL→(Int×(List aL)×Int×Nat)→(List aL)
 | [],(op,out,dB,kL)=>out
 | uu::rest,(op,out,dB,kL)=>bif uu.2.2.2.2.2.2.2.2.2.2.2.1 == op then kv rest (op,out.set (↑kL:Int).toNat (uu.1,uu.2.1,uu.2.2.1,uu.2.2.2.1,uu.2.2.2.2.1,uu.2.2.2.2.2.1,uu.2.2.2.2.2.2.1,uu.2.2.2.2.2.2.2.1,uu.2.2.2.2.2.2.2.2.1,uu.2.2.2.2.2.2.2.2.2.1,uu.2.2.2.2.2.2.2.2.2.2.1,0,uu.2.2.2.2.2.2.2.2.2.2.2.2),dB,kL+1)else kv rest (op,out,dB,kL+1)
noncomputable def kq:List aL→(Int×(List aL)×Int×Nat)→Bool
 | [],(op,out,dB,kL)=>true
 | uu::rest,(op,out,dB,kL)=>bif uu.2.2.2.2.2.2.2.2.2.2.2.1 == op then kq rest (op,out.set (↑kL:Int).toNat (uu.1,uu.2.1,uu.2.2.1,uu.2.2.2.1,uu.2.2.2.2.1,uu.2.2.2.2.2.1,uu.2.2.2.2.2.2.1,uu.2.2.2.2.2.2.2.1,uu.2.2.2.2.2.2.2.2.1,uu.2.2.2.2.2.2.2.2.2.1,uu.2.2.2.2.2.2.2.2.2.2.1,0,uu.2.2.2.2.2.2.2.2.2.2.2.2),dB,kL+1)else kq rest (op,out,dB,kL+1)
theorem HY:∀(rest:List aL) (op:Int) (out:List aL) (dB:Int) (kL:Nat) (hd:out.drop kL=rest) (hn:dB=((out.length:Nat):Int)) (hl:out.length≤1099511627776),de (fun f=>vQ f (op,out,dB,((kL:Nat):Int))) (kq rest (op,out,dB,kL)) (kv rest (op,out,dB,kL))
 | [],op,out,dB,kL,hd,hn,hl=>ai (fun f=>(CL f _ _ _ _).trans (by simp only[iZ hn (bT hd),fW,azP,azI]<;>rfl)) ae
 | uu::rest,op,out,dB,kL,hd,hn,hl=>ai (fun f=>(CL f _ _ _ _).trans (by simp only[iW hn (ak hd),cK (ak hd),bC hd,bk (ak hd) hl,fW,azQ,azH]<;>rfl)) (ao (HY rest _ _ _ _ (by first | exact aH hd | exact drop_set hd | exact bB (drop_set hd)) (by grind) (by grind)) (HY rest _ _ _ _ (by first | exact aH hd | exact drop_set hd | exact bB (drop_set hd)) (by grind) (by grind)))
noncomputable def ajx:((List aL)×Int)→(List aL)
 | (l,op)=>kv l (op,l,(↑l.length:Int),0)
noncomputable def aaV:((List aL)×Int)→Bool
 | (l,op)=>ct l&&(decide (l.length≤1099511627776)&&kq l (op,l,(↑l.length:Int),0))
theorem XE:∀a:(List aL)×Int,de (fun f=>ai7 f a) (aaV a) (ajx a)
 | (l,op)=>ai (fun f=>abE f _ _) (aI (bL fun hh=>HY _ _ _ _ _ rfl (by grind) (azZ hh)))
theorem ahR(op n:Int)(u:aL)(r out:List aL)(k:Nat)(h:out.drop k=u::r):kv (u::r) (op,out,n,k)=kv r (op,out.set (Int.toNat ((k:Nat):Int)) (mg op u),n,k+1)∧kq (u::r) (op,out,n,k)=kq r (op,out.set (Int.toNat ((k:Nat):Int)) (mg op u),n,k+1):=by
 simp only[kv,kq,mg,xm];have e:decide (u.2.2.2.2.2.2.2.2.2.2.2.1=op)=decide (Ju u=op):=rfl;rw[e];cases decide (Ju u=op)
 ·simp only[azI,tW h];grind
 ·exact⟨rfl,rfl⟩
theorem aoX:∀a:List aL×Int,ct a.1=true→aaV a=true:=fun a h=>by
 have:=fD h;simp only[aaV,h,Le (fun r out k=>kq r (a.2,out,((a.1.length:Nat):Int),k)) (mg a.2) (fun _ _=>rfl) (fun u r out k h=>(ahR a.2 _ u r out k h).2) a.1 a.1 0 rfl,aAt,azP];grind
theorem aoY:∀a:List aL×Int,ct a.1=true→ajx a=ny a:=fun a h=>J4 (fun r out k=>kv r (a.2,out,((a.1.length:Nat):Int),k)) (mg a.2) (fun _ _=>rfl) (fun u r out k h=>(ahR a.2 _ u r out k h).1) a.1 a.1 0 rfl
noncomputable def ars:dn:=⟨91,[.rd bg,.c zI],[.o 64 15 bg],fun a:(List aL)×Int=>ct a.1,ny⟩
theorem adj:zO ars:=fl ad6 G0 [.tmp 4] mixed (ah CZ (aC)) Tryz.func91 (bp XE aoX aoY)
