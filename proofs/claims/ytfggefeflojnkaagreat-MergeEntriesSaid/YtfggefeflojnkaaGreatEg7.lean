/- AI. -/
import Derived.Test.YtfggefeflojnkaaGreatEg3
set_option linter.unusedSimpArgs false
set_option linter.unusedVariables false
open Go.IntKind (i64 u64)
namespace Go.AL
open Go.Proofs
abbrev bg:List Ty:=[zI,zI,zI,.sl aE,zI,zI,zI,zI,zI,zI,.bool,zI,zI,zI,zI]
abbrev aL:=Int×Int×Int×(List aj)×Int×Int×Int×Int×Int×Int×Bool×Int×Int×Int×Int
def xH(s:aL):aj:=(s.1,s.2.1,s.2.2.1)
def snd(s:aL):cu:=(s.1,s.2.1,s.2.2.1,s.2.2.2.1,s.2.2.2.2.1,s.2.2.2.2.2.1,s.2.2.2.2.2.2.1,s.2.2.2.2.2.2.2.1,s.2.2.2.2.2.2.2.2.1,s.2.2.2.2.2.2.2.2.2.1,s.2.2.2.2.2.2.2.2.2.2.1)
def Ju(s:aL):Int:=s.2.2.2.2.2.2.2.2.2.2.2.1
def nU(s:aL):aj:=s.2.2.2.2.2.2.2.2.2.2.2.2
def Ys(n:cu)(op:Int)(lk:aj):aL:=(n.1,n.2.1,n.2.2.1,n.2.2.2.1,n.2.2.2.2.1,n.2.2.2.2.2.1,n.2.2.2.2.2.2.1,n.2.2.2.2.2.2.2.1,n.2.2.2.2.2.2.2.2.1,n.2.2.2.2.2.2.2.2.2.1,n.2.2.2.2.2.2.2.2.2.2,op,lk)
instance awh:DecidableEq aL:=@instDecidableEqProd Int _ _ (@instDecidableEqProd Int _ _ (@instDecidableEqProd Int _ _ (@instDecidableEqProd (List aj) _ _ (@instDecidableEqProd Int _ _ (@instDecidableEqProd Int _ _ (@instDecidableEqProd Int _ _ (@instDecidableEqProd Int _ _ (@instDecidableEqProd Int _ _ (@instDecidableEqProd Int _ _ (@instDecidableEqProd Bool _ _ (@instDecidableEqProd Int aj _ inferInstance)))))))))))
def ct(l:List aL):Bool:=decide (l.length≤68719476736)&&l.all fun s=>af s.2.2.2.1
theorem fD{l:List aL}(h:ct l=true):l.length≤68719476736:=by
 simp only[ct,azF,azM]at h;exact h.1
theorem gk{l:List aL}(h:ct l=true){s:aL}(hs:s∈l):af s.2.2.2.1=true:=by
 simp only[ct,azF]at h;exact azU.1 h.2 s hs
theorem uo{l:List aL}(h1:l.length≤68719476736)(h2:∀s∈l,af s.2.2.2.1=true):ct l=true:=by
 simp only[ct,azF,azM];exact⟨h1,azU.2 h2⟩
def cB(s:aL):Bool:=decide (xH s=(0,0,0))
noncomputable def ad5:cX:=zC [] (dE []) 8
noncomputable def abD(f:Nat)(a:aL):Option Bool:=aG ad5 (eO []) (zK [.tmp 2] [.v .bool]) f [.code (aB Tryz.f25)] (aQ [.g bg] a)
theorem UZ(f:Nat)(s:aL):abD (f+1) s =
  some (s.1 == 0&&(s.2.1 == 0&&(s.2.2.1 == 0&&true))):=by kernel_rfl
noncomputable def acH:aL→Bool
 | s=>s.1 == 0&&(s.2.1 == 0&&(s.2.2.1 == 0&&true))
noncomputable def aaU:aL→Bool
 | s=>true
theorem Te:∀a:aL,de (fun f=>abD f a) (aaU a) (acH a)
 | s=>ai (fun f=>UZ f _) ae
theorem akP:∀a,(fun _=>true) a=true→acH a=cB a:=fun a _=>id_eq (xH a) (0,0,0)
noncomputable def Hp:dn:=⟨25,[.g bg],[.v .bool],fun _=>true,cB⟩
theorem E3:zO Hp:=fl ad5 (eO []) [.tmp 2] mixed (aC) Tryz.func25 (bp Te (fun _ _=>rfl) akP)
noncomputable def ajU:cX:=zC [] (dE []) 8
noncomputable def ajk(f:Nat)(a:aL):Option Bool:=aG ajU (eO []) (zK [.tmp 2] [.v .bool]) f [.code (aB Tryz.f89)] (aQ [.g bg] a)
theorem ab3(f:Nat)(s:aL):ajk (f+1) s =
  some (s.1 == 0&&(s.2.1 == 0&&(s.2.2.1 == 0&&true))):=by kernel_rfl
noncomputable def ajy:aL→Bool
 | s=>s.1 == 0&&(s.2.1 == 0&&(s.2.2.1 == 0&&true))
noncomputable def aiV:aL→Bool
 | s=>true
theorem ZS:∀a:aL,de (fun f=>ajk f a) (aiV a) (ajy a)
 | s=>ai (fun f=>ab3 f _) ae
theorem aqO:∀a,(fun _=>true) a=true→ajy a=cB a:=fun a _=>id_eq (xH a) (0,0,0)
noncomputable def E6:dn:=⟨89,[.g bg],[.v .bool],fun _=>true,cB⟩
theorem wh:zO E6:=fl ajU (eO []) [.tmp 2] mixed (aC) Tryz.func89 (bp ZS (fun _ _=>rfl) aqO)
noncomputable def aeh:cX:=zC [ni] (dE [(5,([(0,[]),(1,[]),(2,[]),(3,[]),(4,[]),(5,[]),(7,[]),(8,[]),(9,[]),(10,[]),(11,[]),(12,[]),(13,[]),(14,[]),(15,[]),(16,[]),(6,[]),(17,[]),(18,[]),(19,[]),(20,[])],[(3,3),(11,30)]))]) 32
def G4:Nat→LD:=eO [(0,⟨[.rd 0 bg,.list 3 999 64 15 bg,.c 4 (zI)],[],0⟩)]
noncomputable def ajl(f:Nat)(a:(List aL)):Option ((List aL)):=aG aeh G4 (zK [.tmp 2] [.o 64 15 bg]) f [.code (aB Tryz.f51)] (aQ [.rd bg] a)
noncomputable def Ax(f:Nat)(x:(List aL)×(List aL)×Int):Option ((List aL)):=aG aeh G4 (zK [.tmp 2] [.o 64 15 bg]) f (aV Tryz.f51 0) ((G4 0).mk' x)
theorem ab4(f:Nat)(l:List aL):ajl (f+1) l =
  Ax f (l,[],0):=by kernel_rfl
theorem CR(f:Nat)(l:List aL)(out:List aL)(i:Int):Ax (f+1) (l,out,i) =
  bif decide (i<(↑l.length:Int))then bif decide (0≤i)&&decide (i<(↑l.length:Int))then bif decide (0≤i)&&decide (i<(↑l.length:Int))then bif decide (0≤i)&&decide (i<(↑l.length:Int))then bif af (l.getD i.toNat zq2).2.2.2.1 then bif decide ((out.length+[((l.getD i.toNat zq2).1,(l.getD i.toNat zq2).2.1,(l.getD i.toNat zq2).2.2.1,(l.getD i.toNat zq2).2.2.2.1,(l.getD i.toNat zq2).2.2.2.2.1,(l.getD i.toNat zq2).2.2.2.2.2.1,(l.getD i.toNat zq2).2.2.2.2.2.2.1,(l.getD i.toNat zq2).2.2.2.2.2.2.2.1,(l.getD i.toNat zq2).2.2.2.2.2.2.2.2.1,(l.getD i.toNat zq2).2.2.2.2.2.2.2.2.2.1,(l.getD i.toNat zq2).2.2.2.2.2.2.2.2.2.2.1,(l.getD i.toNat zq2).2.2.2.2.2.2.2.2.2.2.2)].length)*136≤140737488355328)then Ax f (l,out++[l.getD i.toNat zq2],i64.wrap (i+1))else none else none else none else none else none else some out:=by kernel_rfl
noncomputable def rO:List aL→((List aL)×(List aL)×Nat)→(List aL)
 | [],(l,out,i)=>out
 | uu::rest,(l,out,i)=>rO rest (l,out++[uu],i+1)
noncomputable def vz:List aL→((List aL)×(List aL)×Nat)→Bool
 | [],(l,out,i)=>true
 | uu::rest,(l,out,i)=>af uu.2.2.2.1&&(decide ((out.length+1)*136≤140737488355328)&&vz rest (l,out++[uu],i+1))
theorem Sy:∀(rest:List aL) (l:List aL) (out:List aL) (i:Nat) (hd:l.drop i=rest) (hl:l.length≤1099511627776),de (fun f=>Ax f (l,out,((i:Nat):Int))) (vz rest (l,out,i)) (rO rest (l,out,i))
 | [],l,out,i,hd,hl=>ai (fun f=>(CR f _ _ _).trans (by simp only[fA (bT hd),fW,azP,azI]<;>rfl)) ae
 | uu::rest,l,out,i,hd,hl=>ai (fun f=>(CR f _ _ _).trans (by simp only[cK (ak hd),bC hd,bk (ak hd) hl,fW,azQ,azH]<;>rfl)) (aI (aI (Sy rest _ _ _ (aH hd) hl)))
noncomputable def acS:(List aL)→(List aL)
 | l=>rO l (l,[],0)
noncomputable def aa4:(List aL)→Bool
 | l=>decide (l.length≤1099511627776)&&vz l (l,[],0)
theorem Z4:∀a:(List aL),de (fun f=>ajl f a) (aa4 a) (acS a)
 | l=>ai (fun f=>ab4 f _) (bL fun hh=>Sy _ _ _ _ rfl (azZ hh))
theorem Z5(l:List aL):∀(r:List aL) (out:List aL) (k:Nat),(∀e∈r,af e.2.2.2.1=true)→out.length+r.length≤68719476736→rO r (l,out,k)=out++r∧vz r (l,out,k)=true
 | [],out,k,h,hl=>⟨by simp[rO],rfl⟩
 | u::r,out,k,h,hl=>by
  obtain⟨i1,i2⟩:=Z5 l r (out++[u]) (k+1) (fun e he=>h e (az6 _ he)) (by simp at hl ⊢;omega);have h1:=h u (az1 ..);simp only[rO,vz,i1,i2,h1];exact⟨by simp,by simp at hl ⊢;omega⟩
theorem aqS:∀a,ct a=true→aa4 a=true:=fun a h=>by
 have:=fD h;simp only[aa4,(Z5 a a [] 0 (fun e he=>gk h he) (by simpa using this)).2,aAt];exact azC (by omega)
theorem aqT:∀a,ct a=true→acS a=a:=fun a h=>by
 simp only[acS,(Z5 a a [] 0 (fun e he=>gk h he) (by simpa using fD h)).1,aAs]
noncomputable def ajJ:dn:=⟨51,[.rd bg],[.o 64 15 bg],ct,fun a:(List aL)=>a⟩
theorem adG:zO ajJ:=fl aeh G4 [.tmp 2] mixed (ah gR (aC)) Tryz.func51 (bp Z4 aqS aqT)
noncomputable def Si:cX:=zC [] (dE []) 8
theorem NG:jh Tryz.prog []:=aC
theorem arb(l:List aL):(aG Si (fun _=>⟨[],[],0⟩) (zK [.tmp 2] [.o 64 15 bg]) 1 [.code (aB Tryz.f124)] (aQ [.rd bg] l):Option (eC [.o 64 15 bg]))=bif Decidable.decide (0<l.length)&&Bool.true then bif Decidable.decide ((([]:List Nat).length+l.length)*(bytesOf Tryz.prog 64)≤140737488355328)then some l else none else none:=by kernel_rfl
noncomputable def ajE:dn:=⟨124,[.rd bg],[.o 64 15 bg],fun a=>wP (a:List aL),fun a=>(a:List aL)⟩
theorem ade:ajE.Ok Tryz.prog:=fun a hp vs hv=>B3 (τ:=bg) (t:=64) (es:=15)
  (fun a h0 h1 vs hv=>iI (C:=Si) (Lt:=fun _=>⟨[],[],0⟩) (fn:=Tryz.f124) (rs:=[.tmp 2]) [.rd bg] [.o 64 15 bg] mixed NG Tryz.func124 rfl rfl rfl (by kernel_rfl) (by kernel_rfl) 1 ((arb a).trans (xX h0 h1 (by decide +kernel))) vs hv)
  (iI (C:=Si) (Lt:=fun _=>⟨[],[],0⟩) (fn:=Tryz.f124) (rs:=[.tmp 2]) (a:=()) [.raw (.slice none 0 0)] [.o 64 15 bg] mixed NG Tryz.func124 rfl rfl rfl (by kernel_rfl) (by kernel_rfl) 1 (by kernel_rfl) _ (by simp only[bY,ed,lZ];exact⟨_,rfl,rfl⟩))
  (fun b c=>iI (C:=Si) (Lt:=fun _=>⟨[],[],0⟩) (fn:=Tryz.f124) (rs:=[.tmp 2]) (a:=()) [.raw (.slice (some b) 0 c)] [.o 64 15 bg] mixed NG Tryz.func124 rfl rfl rfl (by kernel_rfl) (by kernel_rfl) 1 (by kernel_rfl) _ (by simp only[bY,ed,lZ];exact⟨_,rfl,rfl⟩))
  a (azZ hp) vs hv
noncomputable def ael:cX:=zC [ajE,CY] (dE []) 24
def G7:Nat→LD:=eO [(0,⟨[.list 3 999 64 15 bg,.c 8 (zI),.c 9 (zI)],[],0⟩)]
noncomputable def ajo(f:Nat)(a:(List aL)):Option ((List aL)):=aG ael G7 (zK [.tmp 2] [.o 64 15 bg]) f [.code (aB Tryz.f87)] (aQ [.rd bg] a)
noncomputable def AA(f:Nat)(x:(List aL)×Int×Int):Option ((List aL)):=aG ael G7 (zK [.tmp 2] [.o 64 15 bg]) f (aV Tryz.f87 0) ((G7 0).mk' x)
theorem ab9(f:Nat)(l:List aL):ajo (f+1) l =
  bif wP l then AA f (l,(↑l.length:Int),0)else none:=by kernel_rfl
theorem CU(f:Nat)(out:List aL)(x8:Int)(x9:Int):AA (f+1) (out,x8,x9) =
  bif decide (x9<x8)then bif decide (0≤x9)&&decide (x9<(↑out.length:Int))then bif af (out.getD x9.toNat zq2).2.2.2.1 then bif decide (0≤x9)&&decide (x9<(↑out.length:Int))then AA f (out.set x9.toNat (out.getD x9.toNat zq2),x8,i64.wrap (x9+1))else none else none else none else some out:=by kernel_rfl
noncomputable def we:List aL→((List aL)×Int×Nat)→(List aL)
 | [],(out,x8,x9)=>out
 | uu::rest,(out,x8,x9)=>we rest (out.set (↑x9:Int).toNat uu,x8,x9+1)
noncomputable def vB:List aL→((List aL)×Int×Nat)→Bool
 | [],(out,x8,x9)=>true
 | uu::rest,(out,x8,x9)=>af uu.2.2.2.1&&vB rest (out.set (↑x9:Int).toNat uu,x8,x9+1)
theorem SA:∀(rest:List aL) (out:List aL) (x8:Int) (x9:Nat) (hd:out.drop x9=rest) (hn:x8=((out.length:Nat):Int)) (hl:out.length≤1099511627776),de (fun f=>AA f (out,x8,((x9:Nat):Int))) (vB rest (out,x8,x9)) (we rest (out,x8,x9))
 | [],out,x8,x9,hd,hn,hl=>ai (fun f=>(CU f _ _ _).trans (by simp only[iZ hn (bT hd),fW,azP,azI]<;>rfl)) ae
 | uu::rest,out,x8,x9,hd,hn,hl=>ai (fun f=>(CU f _ _ _).trans (by simp only[iW hn (ak hd),cK (ak hd),bC hd,bk (ak hd) hl,fW,azQ,azH]<;>rfl)) (aI (SA rest _ _ _ (by first | exact aH hd | exact drop_set hd | exact bB (drop_set hd)) (by first | exact hn | simpa using hn) (by first | exact hl | simpa using hl)))
noncomputable def acV:(List aL)→(List aL)
 | l=>we l (l,(↑l.length:Int),0)
noncomputable def aa8:(List aL)→Bool
 | l=>wP l&&(decide (l.length≤1099511627776)&&vB l (l,(↑l.length:Int),0))
theorem aab:∀a:(List aL),de (fun f=>ajo f a) (aa8 a) (acV a)
 | l=>ai (fun f=>ab9 f _) (aI (bL fun hh=>SA _ _ _ _ rfl (by first | rfl | simp) (azZ hh)))
theorem tV{α:Type}{l r:List α}{u v:α}{k:Nat}(h:l.drop k=u::r):(l.set (Int.toNat ((k:Nat):Int)) v).take (k+1)=l.take k++[v]∧(l.set (Int.toNat ((k:Nat):Int)) v).drop (k+1)=r:=by
 refine⟨?_,drop_set h⟩;have hl:=ak h;rw[aAn,aAz,aA6 hl,aCi (by omega)];rfl
theorem tW{α:Type}{l r:List α}{u:α}{k:Nat}(h:l.drop k=u::r):l.set (Int.toNat ((k:Nat):Int)) u=l:=by
 rw[aAn];apply List.ext_getElem?;intro i;by_cases hi:k=i
 ·subst hi;rw[aA6 (ak h),rn h]
 ·rw[aBc hi]
theorem aac(n:Int):∀(r:List aL) (out:List aL) (k:Nat),out.drop k=r→(∀e∈r,af e.2.2.2.1=true)→we r (out,n,k)=out∧vB r (out,n,k)=true
 | [],out,k,h,hl=>⟨rfl,rfl⟩
 | u::r,out,k,h,hl=>by
  obtain⟨i1,i2⟩:=aac n r out (k+1) (aH h) (fun e he=>hl e (az6 _ he));simp only[we,vB,tW h,i1,i2,hl u (az1 ..)];exact⟨trivial,rfl⟩
theorem aqW:∀a,ct a=true→aa8 a=true:=fun a h=>by
 have:=fD h;simp only[aa8,(aac _ a a 0 rfl (fun e he=>gk h he)).2,aAt,azF];exact⟨azC (by omega),azC (by omega)⟩
theorem aqX:∀a,ct a=true→acV a=a:=fun a h=>by
 simp only[acV,(aac _ a a 0 rfl (fun e he=>gk h he)).1]
noncomputable def adL:dn:=⟨87,[.rd bg],[.o 64 15 bg],ct,fun a:(List aL)=>a⟩
theorem CZ:zO adL:=fl ael G7 [.tmp 2] mixed (ah ade (ah xA (aC))) Tryz.func87 (bp aab aqW aqX)
theorem J4{α:Type}(G:List α→List α→Nat→List α)(f:α→α)(h0:∀out k,G [] out k=out)
  (h1:∀u r out k,out.drop k=u::r→G (u::r) out k=G r (out.set (Int.toNat ((k:Nat):Int)) (f u)) (k+1)) :
  ∀(r out:List α) (k:Nat),out.drop k=r→G r out k=out.take k++r.map f
 | [],out,k,h=>by rw[h0,aBq,aAc,aAQ (by have:=bT h;omega)]
 | u::r,out,k,h=>by
  obtain⟨s1,s2⟩:=tV (v:=f u) h;rw[h1 u r out k h,J4 G f h0 h1 r _ (k+1) s2,s1];simp
theorem Le{α:Type}(P:List α→List α→Nat→Bool)(f:α→α)(h0:∀out k,P [] out k=true)
  (h1:∀u r out k,out.drop k=u::r→P (u::r) out k=P r (out.set (Int.toNat ((k:Nat):Int)) (f u)) (k+1)) :
  ∀(r out:List α) (k:Nat),out.drop k=r→P r out k=true
 | [],out,k,h=>h0 _ _
 | u::r,out,k,h=>by rw[h1 u r out k h];exact Le P f h0 h1 r _ (k+1) (tV h).2
theorem akl(u:aL)(id:aj):(u.2.2.2.2.2.2.2.2.2.2.2.2.1 == id.1&&(u.2.2.2.2.2.2.2.2.2.2.2.2.2.1 == id.2.1&&(u.2.2.2.2.2.2.2.2.2.2.2.2.2.2 == id.2.2&&true)))=decide (nU u=id):=id_eq (nU u) id
theorem YX(id:aj):(id.1 == 0&&(id.2.1 == 0&&(id.2.2 == 0&&true)))=decide (id=(0,0,0)):=id_eq id (0,0,0)
def ZC(id:aj)(s:aL):Bool:=!cB s&&decide (xH s=id)
def aoR(s:aL)(op:Int):aL:=Ys (snd s) op (nU s)
def mg(op:Int)(s:aL):aL:=bif decide (Ju s=op)then aoR s 0 else s
def ny(a:List aL×Int):List aL:=a.1.map (mg a.2)
noncomputable def ad6:cX:=zC [adL] (dE []) 27
def G0:Nat→LD:=eO [(0,⟨[.c 1 (zI),.list 5 999 64 15 bg,.c 10 (zI),.c 11 (zI)],[],0⟩)]
noncomputable def ai7(f:Nat)(a:(List aL)×Int):Option ((List aL)):=aG ad6 G0 (zK [.tmp 4] [.o 64 15 bg]) f [.code (aB Tryz.f91)] (aQ [.rd bg,.c zI] a)
noncomputable def vQ(f:Nat)(x:Int×(List aL)×Int×Int):Option ((List aL)):=aG ad6 G0 (zK [.tmp 4] [.o 64 15 bg]) f (aV Tryz.f91 0) ((G0 0).mk' x)
theorem abE(f:Nat)(l:List aL)(op:Int):ai7 (f+1) (l,op) =
  bif ct l then vQ f (op,l,(↑l.length:Int),0)else none:=by kernel_rfl
theorem CL(f:Nat)(op:Int)(out:List aL)(dB:Int)(kL:Int):vQ (f+1) (op,out,dB,kL) =
  bif decide (kL<dB)then bif decide (0≤kL)&&decide (kL<(↑out.length:Int))then bif(out.getD kL.toNat zq2).2.2.2.2.2.2.2.2.2.2.2.1 == op then bif decide (0≤kL)&&decide (kL<(↑out.length:Int))then vQ f (op,out.set kL.toNat ((out.getD kL.toNat zq2).1,(out.getD kL.toNat zq2).2.1,(out.getD kL.toNat zq2).2.2.1,(out.getD kL.toNat zq2).2.2.2.1,(out.getD kL.toNat zq2).2.2.2.2.1,(out.getD kL.toNat zq2).2.2.2.2.2.1,(out.getD kL.toNat zq2).2.2.2.2.2.2.1,(out.getD kL.toNat zq2).2.2.2.2.2.2.2.1,(out.getD kL.toNat zq2).2.2.2.2.2.2.2.2.1,(out.getD kL.toNat zq2).2.2.2.2.2.2.2.2.2.1,(out.getD kL.toNat zq2).2.2.2.2.2.2.2.2.2.2.1,0,(out.getD kL.toNat zq2).2.2.2.2.2.2.2.2.2.2.2.2),dB,i64.wrap (kL+1))else none else vQ f (op,out,dB,i64.wrap (kL+1))else none else some out:=by kernel_rfl
noncomputable def kv:List aL→(Int×(List aL)×Int×Nat)→(List aL)
 | [],(op,out,dB,kL)=>out
 | uu::rest,(op,out,dB,kL)=>bif uu.2.2.2.2.2.2.2.2.2.2.2.1 == op then kv rest (op,out.set (↑kL:Int).toNat (uu.1,uu.2.1,uu.2.2.1,uu.2.2.2.1,uu.2.2.2.2.1,uu.2.2.2.2.2.1,uu.2.2.2.2.2.2.1,uu.2.2.2.2.2.2.2.1,uu.2.2.2.2.2.2.2.2.1,uu.2.2.2.2.2.2.2.2.2.1,uu.2.2.2.2.2.2.2.2.2.2.1,0,uu.2.2.2.2.2.2.2.2.2.2.2.2),dB,kL+1)else kv rest (op,out,dB,kL+1)
noncomputable def kq:List aL→(Int×(List aL)×Int×Nat)→Bool
 | [],(op,out,dB,kL)=>true
 | uu::rest,(op,out,dB,kL)=>bif uu.2.2.2.2.2.2.2.2.2.2.2.1 == op then kq rest (op,out.set (↑kL:Int).toNat (uu.1,uu.2.1,uu.2.2.1,uu.2.2.2.1,uu.2.2.2.2.1,uu.2.2.2.2.2.1,uu.2.2.2.2.2.2.1,uu.2.2.2.2.2.2.2.1,uu.2.2.2.2.2.2.2.2.1,uu.2.2.2.2.2.2.2.2.2.1,uu.2.2.2.2.2.2.2.2.2.2.1,0,uu.2.2.2.2.2.2.2.2.2.2.2.2),dB,kL+1)else kq rest (op,out,dB,kL+1)
theorem HY:∀(rest:List aL) (op:Int) (out:List aL) (dB:Int) (kL:Nat) (hd:out.drop kL=rest) (hn:dB=((out.length:Nat):Int)) (hl:out.length≤1099511627776),de (fun f=>vQ f (op,out,dB,((kL:Nat):Int))) (kq rest (op,out,dB,kL)) (kv rest (op,out,dB,kL))
 | [],op,out,dB,kL,hd,hn,hl=>ai (fun f=>(CL f _ _ _ _).trans (by simp only[iZ hn (bT hd),fW,azP,azI]<;>rfl)) ae
 | uu::rest,op,out,dB,kL,hd,hn,hl=>ai (fun f=>(CL f _ _ _ _).trans (by simp only[iW hn (ak hd),cK (ak hd),bC hd,bk (ak hd) hl,fW,azQ,azH]<;>rfl)) (ao (HY rest _ _ _ _ (by first | exact aH hd | exact drop_set hd | exact bB (drop_set hd)) (by first | exact hn | simpa using hn) (by first | exact hl | simpa using hl)) (HY rest _ _ _ _ (by first | exact aH hd | exact drop_set hd | exact bB (drop_set hd)) (by first | exact hn | simpa using hn) (by first | exact hl | simpa using hl)))
noncomputable def ajx:((List aL)×Int)→(List aL)
 | (l,op)=>kv l (op,l,(↑l.length:Int),0)
noncomputable def aaV:((List aL)×Int)→Bool
 | (l,op)=>ct l&&(decide (l.length≤1099511627776)&&kq l (op,l,(↑l.length:Int),0))
theorem XE:∀a:(List aL)×Int,de (fun f=>ai7 f a) (aaV a) (ajx a)
 | (l,op)=>ai (fun f=>abE f _ _) (aI (bL fun hh=>HY _ _ _ _ _ rfl (by first | rfl | simp) (azZ hh)))
theorem ahR(op n:Int)(u:aL)(r out:List aL)(k:Nat)(h:out.drop k=u::r):kv (u::r) (op,out,n,k)=kv r (op,out.set (Int.toNat ((k:Nat):Int)) (mg op u),n,k+1)∧kq (u::r) (op,out,n,k)=kq r (op,out.set (Int.toNat ((k:Nat):Int)) (mg op u),n,k+1):=by
 simp only[kv,kq,mg,xm];have e:decide (u.2.2.2.2.2.2.2.2.2.2.2.1=op)=decide (Ju u=op):=rfl;rw[e];cases decide (Ju u=op)
 ·simp only[azI,tW h];exact⟨trivial,trivial⟩
 ·exact⟨rfl,rfl⟩
theorem aoX:∀a:List aL×Int,ct a.1=true→aaV a=true:=fun a h=>by
 have:=fD h;simp only[aaV,h,Le (fun r out k=>kq r (a.2,out,((a.1.length:Nat):Int),k)) (mg a.2) (fun _ _=>rfl) (fun u r out k h=>(ahR a.2 _ u r out k h).2) a.1 a.1 0 rfl,aAt,azP];exact azC (by omega)
theorem aoY:∀a:List aL×Int,ct a.1=true→ajx a=ny a:=fun a h=>J4 (fun r out k=>kv r (a.2,out,((a.1.length:Nat):Int),k)) (mg a.2) (fun _ _=>rfl) (fun u r out k h=>(ahR a.2 _ u r out k h).1) a.1 a.1 0 rfl
noncomputable def ars:dn:=⟨91,[.rd bg,.c zI],[.o 64 15 bg],fun a:(List aL)×Int=>ct a.1,ny⟩
theorem adj:zO ars:=fl ad6 G0 [.tmp 4] mixed (ah CZ (aC)) Tryz.func91 (bp XE aoX aoY)
open Go.Proofs
theorem FA{α:Type}(l:List α)(i:Nat)(v w:α):(l.set i v).set i w=l.set i w:=by
 rw[List.set_set]
def sz:cu:=zq0
def sH(qb:aj)(s:aL):Bool:=!cB s&&(decide (nU s=qb)&&!decide (qb=(0,0,0)))
def nw(qb:aj)(s:aL):aL:=bif sH qb s then Ys sz (Ju s) (0,0,0)else s
def tS(a:List aL×aj):List aL×List aj:=(a.1.map (nw a.2),(a.1.filter (sH a.2)).map xH)
noncomputable def adU:cX:=zC [adL,E6] (dE [(8,([(0,[]),(1,[]),(2,[]),(3,[]),(4,[]),(5,[]),(6,[]),(7,[]),(8,[]),(9,[]),(10,[]),(11,[]),(12,[]),(13,[]),(14,[])],[(20,34)]))]) 57
def GY:Nat→LD:=eO [(0,⟨[.box 3 3 48 3 aE,.list 6 999 64 15 bg,.list 7 998 48 3 aE,.c 16 (zI),.c 17 (zI)],[],0⟩)]
noncomputable def ai1(f:Nat)(a:(List aL)×aj):Option ((List aL)×(List aj)):=aG adU GY (zK [.tmp 4,.tmp 5] [.o 64 15 bg,.o 48 3 aE]) f [.code (aB Tryz.f54)] (aQ [.rd bg,.g aE] a)
noncomputable def rD(f:Nat)(x:aj×(List aL)×(List aj)×Int×Int):Option ((List aL)×(List aj)):=aG adU GY (zK [.tmp 4,.tmp 5] [.o 64 15 bg,.o 48 3 aE]) f (aV Tryz.f54 0) ((GY 0).mk' x)
theorem abi(f:Nat)(l:List aL)(qb:aj):ai1 (f+1) (l,qb) =
  bif ct l then bif qb.1 == 0&&(qb.2.1 == 0&&(qb.2.2 == 0&&true))then some (l,[])else rD f (qb,l,[],(↑l.length:Int),0)else none:=by kernel_rfl
theorem CJ(f:Nat)(vi:aj)(out:List aL)(ids:List aj)(C5:Int)(dP:Int):rD (f+1) (vi,out,ids,C5,dP) =
  bif decide (dP<C5)then bif decide (0≤dP)&&decide (dP<(↑out.length:Int))then bif !cB (out.getD dP.toNat zq2)then bif decide (0≤dP)&&decide (dP<(↑out.length:Int))then bif(out.getD dP.toNat zq2).2.2.2.2.2.2.2.2.2.2.2.2.1 == vi.1&&((out.getD dP.toNat zq2).2.2.2.2.2.2.2.2.2.2.2.2.2.1 == vi.2.1&&((out.getD dP.toNat zq2).2.2.2.2.2.2.2.2.2.2.2.2.2.2 == vi.2.2&&true))then bif decide (0≤dP)&&decide (dP<(↑out.length:Int))then bif decide ((ids.length+[((out.getD dP.toNat zq2).1,(out.getD dP.toNat zq2).2.1,(out.getD dP.toNat zq2).2.2.1)].length)*24≤140737488355328)then bif decide (0≤dP)&&decide (dP<(↑out.length:Int))then bif decide (0≤dP)&&decide (dP<(↑(out.set dP.toNat (0,0,0,[],0,0,0,0,0,0,false,(out.getD dP.toNat zq2).2.2.2.2.2.2.2.2.2.2.2)).length:Int))then rD f (vi,(out.set dP.toNat (0,0,0,[],0,0,0,0,0,0,false,(out.getD dP.toNat zq2).2.2.2.2.2.2.2.2.2.2.2)).set dP.toNat (((out.set dP.toNat (0,0,0,[],0,0,0,0,0,0,false,(out.getD dP.toNat zq2).2.2.2.2.2.2.2.2.2.2.2)).getD dP.toNat zq2).1,((out.set dP.toNat (0,0,0,[],0,0,0,0,0,0,false,(out.getD dP.toNat zq2).2.2.2.2.2.2.2.2.2.2.2)).getD dP.toNat zq2).2.1,((out.set dP.toNat (0,0,0,[],0,0,0,0,0,0,false,(out.getD dP.toNat zq2).2.2.2.2.2.2.2.2.2.2.2)).getD dP.toNat zq2).2.2.1,((out.set dP.toNat (0,0,0,[],0,0,0,0,0,0,false,(out.getD dP.toNat zq2).2.2.2.2.2.2.2.2.2.2.2)).getD dP.toNat zq2).2.2.2.1,((out.set dP.toNat (0,0,0,[],0,0,0,0,0,0,false,(out.getD dP.toNat zq2).2.2.2.2.2.2.2.2.2.2.2)).getD dP.toNat zq2).2.2.2.2.1,((out.set dP.toNat (0,0,0,[],0,0,0,0,0,0,false,(out.getD dP.toNat zq2).2.2.2.2.2.2.2.2.2.2.2)).getD dP.toNat zq2).2.2.2.2.2.1,((out.set dP.toNat (0,0,0,[],0,0,0,0,0,0,false,(out.getD dP.toNat zq2).2.2.2.2.2.2.2.2.2.2.2)).getD dP.toNat zq2).2.2.2.2.2.2.1,((out.set dP.toNat (0,0,0,[],0,0,0,0,0,0,false,(out.getD dP.toNat zq2).2.2.2.2.2.2.2.2.2.2.2)).getD dP.toNat zq2).2.2.2.2.2.2.2.1,((out.set dP.toNat (0,0,0,[],0,0,0,0,0,0,false,(out.getD dP.toNat zq2).2.2.2.2.2.2.2.2.2.2.2)).getD dP.toNat zq2).2.2.2.2.2.2.2.2.1,((out.set dP.toNat (0,0,0,[],0,0,0,0,0,0,false,(out.getD dP.toNat zq2).2.2.2.2.2.2.2.2.2.2.2)).getD dP.toNat zq2).2.2.2.2.2.2.2.2.2.1,((out.set dP.toNat (0,0,0,[],0,0,0,0,0,0,false,(out.getD dP.toNat zq2).2.2.2.2.2.2.2.2.2.2.2)).getD dP.toNat zq2).2.2.2.2.2.2.2.2.2.2.1,((out.set dP.toNat (0,0,0,[],0,0,0,0,0,0,false,(out.getD dP.toNat zq2).2.2.2.2.2.2.2.2.2.2.2)).getD dP.toNat zq2).2.2.2.2.2.2.2.2.2.2.2.1,0,0,0),ids++[((out.getD dP.toNat zq2).1,(out.getD dP.toNat zq2).2.1,(out.getD dP.toNat zq2).2.2.1)],C5,i64.wrap (dP+1))else none else none else none else none else rD f (vi,out,ids,C5,i64.wrap (dP+1))else none else rD f (vi,out,ids,C5,i64.wrap (dP+1))else none else some (out,ids):=by kernel_rfl
noncomputable def ku:List aL→(aj×(List aL)×(List aj)×Int×Nat)→(List aL)×(List aj)
 | [],(vi,out,ids,C5,dP)=>(out,ids)
 | uu::rest,(vi,out,ids,C5,dP)=>bif !cB uu then bif uu.2.2.2.2.2.2.2.2.2.2.2.2.1 == vi.1&&(uu.2.2.2.2.2.2.2.2.2.2.2.2.2.1 == vi.2.1&&(uu.2.2.2.2.2.2.2.2.2.2.2.2.2.2 == vi.2.2&&true))then ku rest (vi,(out.set (↑dP:Int).toNat (0,0,0,[],0,0,0,0,0,0,false,uu.2.2.2.2.2.2.2.2.2.2.2)).set (↑dP:Int).toNat (0,0,0,[],0,0,0,0,0,0,false,uu.2.2.2.2.2.2.2.2.2.2.2.1,0,0,0),ids++[(uu.1,uu.2.1,uu.2.2.1)],C5,dP+1)else ku rest (vi,out,ids,C5,dP+1)else ku rest (vi,out,ids,C5,dP+1)
noncomputable def aew:List aL→(aj×(List aL)×(List aj)×Int×Nat)→Bool
 | [],(vi,out,ids,C5,dP)=>true
 | uu::rest,(vi,out,ids,C5,dP)=>bif !cB uu then bif uu.2.2.2.2.2.2.2.2.2.2.2.2.1 == vi.1&&(uu.2.2.2.2.2.2.2.2.2.2.2.2.2.1 == vi.2.1&&(uu.2.2.2.2.2.2.2.2.2.2.2.2.2.2 == vi.2.2&&true))then decide ((ids.length+1)*24≤140737488355328)&&aew rest (vi,(out.set (↑dP:Int).toNat (0,0,0,[],0,0,0,0,0,0,false,uu.2.2.2.2.2.2.2.2.2.2.2)).set (↑dP:Int).toNat (0,0,0,[],0,0,0,0,0,0,false,uu.2.2.2.2.2.2.2.2.2.2.2.1,0,0,0),ids++[(uu.1,uu.2.1,uu.2.2.1)],C5,dP+1)else aew rest (vi,out,ids,C5,dP+1)else aew rest (vi,out,ids,C5,dP+1)
theorem AD:∀(rest:List aL) (vi:aj) (out:List aL) (ids:List aj) (C5:Int) (dP:Nat) (hd:out.drop dP=rest) (hn:C5=((out.length:Nat):Int)) (hl:out.length≤1099511627776),de (fun f=>rD f (vi,out,ids,C5,((dP:Nat):Int))) (aew rest (vi,out,ids,C5,dP)) (ku rest (vi,out,ids,C5,dP))
 | [],vi,out,ids,C5,dP,hd,hn,hl=>ai (fun f=>(CJ f _ _ _ _ _).trans (by simp only[iZ hn (bT hd),fW,azP,azI,azX]<;>rfl)) ae
 | uu::rest,vi,out,ids,C5,dP,hd,hn,hl=>ai (fun f=>(CJ f _ _ _ _ _).trans (by simp only[iW hn (ak hd),cK (ak hd),bC hd,bk (ak hd) hl,bH (ak hd),fW,azQ,azH,azX]<;>rfl)) (ao (ao (aI (AD rest _ _ _ _ _ (by first | exact aH hd | exact drop_set hd | exact bB (drop_set hd)) (by first | exact hn | simpa using hn) (by first | exact hl | simpa using hl))) (AD rest _ _ _ _ _ (by first | exact aH hd | exact drop_set hd | exact bB (drop_set hd)) (by first | exact hn | simpa using hn) (by first | exact hl | simpa using hl))) (AD rest _ _ _ _ _ (by first | exact aH hd | exact drop_set hd | exact bB (drop_set hd)) (by first | exact hn | simpa using hn) (by first | exact hl | simpa using hl)))
noncomputable def acD:((List aL)×aj)→(List aL)×(List aj)
 | (l,qb)=>bif qb.1 == 0&&(qb.2.1 == 0&&(qb.2.2 == 0&&true))then(l,[])else ku l (qb,l,[],(↑l.length:Int),0)
noncomputable def aaM:((List aL)×aj)→Bool
 | (l,qb)=>ct l&&bif qb.1 == 0&&(qb.2.1 == 0&&(qb.2.2 == 0&&true))then true else decide (l.length≤1099511627776)&&aew l (qb,l,[],(↑l.length:Int),0)
theorem WS:∀a:(List aL)×aj,de (fun f=>ai1 f a) (aaM a) (acD a)
 | (l,qb)=>ai (fun f=>abi f _ _) (aI (ao ae (bL fun hh=>AD _ _ _ _ _ _ rfl (by first | rfl | simp) (azZ hh))))
theorem Pl(n:Int)(qb:aj)(V4:qb ≠ (0,0,0)):∀(r out:List aL) (ids:List aj) (k:Nat),out.drop k=r→ids.length+r.length≤68719476736→ku r (qb,out,ids,n,k)=(out.take k++r.map (nw qb),ids++(r.filter (sH qb)).map xH)∧aew r (qb,out,ids,n,k)=true
 | [],out,ids,k,h,hl=>by
  refine⟨?_,rfl⟩;simp only[ku,aBq,aAc,aBT];rw[aAQ (by have:=bT h;omega)]
 | u::r,out,ids,k,h,hl=>by
  simp only[azL]at hl;simp only[ku,aew,akl];have h3:decide (qb=(0,0,0))=false:=azK V4;cases hb:sH qb u
  ·have ih:=Pl n qb V4 r out ids (k+1) (aH h) (by omega)
   rw[ih.1,ih.2,aAy,List.filter_cons,hb];simp only[sH]at hb;have e:nw qb u=u:=by simp only[nw,sH,hb,azI]
   rw[e];have t1:=jx h;rw[t1];cases h1:cB u<;>cases h2:decide (nU u=qb)<;>rw[h1,h2,h3]at hb<;>first | (cases hb;done) | (simp;done)
  ·have e:nw qb u=Ys sz (Ju u) (0,0,0):=by simp only[nw,hb,azH]
   have ih:=Pl n qb V4 r (out.set (Int.toNat ((k:Nat):Int)) (nw qb u)) (ids++[xH u]) (k+1) (tV h).2 (by simp;omega);rw[(tV h).1]at ih;rw[aAy,List.filter_cons,hb];simp only[sH,azF,aAi]at hb;obtain⟨h1,h2,_⟩:=hb;simp only[h1,h2,aBh,azH,FA];rw[e]at ih;have hd:decide ((ids.length+1)*24≤140737488355328)=true:=azC (by omega);rw[hd,azP];refine⟨?_,ih.2⟩;refine Eq.trans ih.1 ?_;rw[e];simp
theorem SI(l:List aL):tS (l,(0,0,0))=(l,[]):=by
 have h:∀s,sH (0,0,0) s=false:=fun s=>by simp[sH]
 have h2:nw (0,0,0)=id:=funext fun s=>by simp[nw,h]
 have h3:sH (0,0,0)=fun _=>false:=funext h
 simp only[tS,h2,h3,aAW];rw[aCd.2 (fun a _=>by simp)];rfl
theorem aoI:∀a:List aL×aj,ct a.1=true→aaM a=true:=fun a h=>by
 have:=fD h;simp only[aaM,h,YX,azP];by_cases hb:a.2=(0,0,0)
 ·simp[hb]
 ·simp only[azK hb,azI,(Pl _ a.2 hb a.1 a.1 [] 0 rfl (by simpa using this)).2,aAt]
  exact azC (by omega)
theorem aoJ:∀a:List aL×aj,ct a.1=true→acD a=tS a:=by
 rintro⟨l,b⟩ h;simp only[acD,YX];by_cases hb:b=(0,0,0)
 ·subst hb;rw[SI];rfl
 ·simp only[azK hb,azI]
  exact(Pl _ b hb l l [] 0 rfl (by simpa using fD h)).1
noncomputable def arq:dn:=⟨54,[.rd bg,.g aE],[.o 64 15 bg,.o 48 3 aE],fun a:(List aL)×aj=>ct a.1,tS⟩
theorem ac4:zO arq:=fl adU GY [.tmp 4,.tmp 5] mixed (ah CZ (ah wh (aC))) Tryz.func54 (bp WS aoI aoJ)
def iR:aL:=zq2
open Go.Proofs
theorem T5{α:Type}{p:α→Bool}(l:List α):decide (bu p l 0≥0)=l.any p:=by
 cases h:l.any p
 ·have:=(fR (p:=p) (l:=l) (k:=0) (by omega)).1 (any_false h)
  rw[this];rfl
 ·rcases uT (p:=p) (l:=l) (k:=0) (by omega)with h1 | h1
  ·exact azC h1
  ·obtain⟨x,hx,hp⟩:=aBm.1 h
   have:=(fR (p:=p) (l:=l) (k:=0) (by omega)).2 h1 x hx;rw[hp]at this;cases this
theorem BU{α:Type}{p:α→Bool}:∀(l:List α) (k0:Int) (k:Nat) (u:α) (r:List α),l.drop k=u::r→p u=true→(bu p l k0=k0+(k:Nat)↔(l.take k).any p=false)
 | [],k0,k,u,r,h,hp=>by simp at h
 | x::l,k0,0,u,r,h,hp=>by
  simp only[List.drop_zero,aBw]at h;simp[bu,h.1,hp]
 | x::l,k0,k+1,u,r,h,hp=>by
  simp only[List.drop_succ_cons]at h;have ih:=BU l (k0+1) k u r h hp;simp only[bu,List.take_succ_cons,aBS];cases hx:p x
  ·simp only[azI,aBL];rw[← ih];omega
  ·simp only[azH,Bool.true_or];constructor
   ·intro h;omega
   ·intro h;cases h
open Go.Proofs
noncomputable def OX:cX:=zC [ni] (dE [(6,([(0,[]),(1,[]),(2,[]),(3,[]),(4,[]),(5,[]),(6,[]),(7,[]),(8,[]),(9,[]),(10,[]),(11,[]),(12,[]),(13,[]),(14,[])],[(29,42)]))]) 44
def Ad:Nat→LD:=eO [(0,⟨[.c 0 (.sl aF),.c 1 (zI),.list 5 999 64 15 bg,.c 6 (zI)],[],0⟩)]
noncomputable def abS(f:Nat)(a:(List ag)×Int):Option ((List aL)):=aG OX Ad (zK [.tmp 4] [.o 64 15 bg]) f [.code (aB Tryz.f68)] (aQ [.c (.sl aF),.c zI] a)
noncomputable def lS(f:Nat)(x:(List ag)×Int×(List aL)×Int):Option ((List aL)):=aG OX Ad (zK [.tmp 4] [.o 64 15 bg]) f (aV Tryz.f68 0) ((Ad 0).mk' x)
theorem U8(f:Nat)(l:List ag)(core:Int):abS (f+1) (l,core) =
  lS f (l,core,List.replicate (Int.toNat 12) zq2,0):=by kernel_rfl
theorem yv(f:Nat)(l:List ag)(core:Int)(out:List aL)(i:Int):lS (f+1) (l,core,out,i) =
  bif decide (i<(↑l.length:Int))then bif decide (0≤i)&&decide (i<(↑l.length:Int))then bif(l.getD i.toNat zq1).1 == core then bif decide (0≤i)&&decide (i<(↑l.length:Int))then bif decide ((l.getD i.toNat zq1).2.1<12)then bif decide (0≤i)&&decide (i<(↑l.length:Int))then bif decide (0≤i)&&decide (i<(↑l.length:Int))then bif af (l.getD i.toNat zq1).2.2.2.2.2.1 then bif decide (0≤(l.getD i.toNat zq1).2.1)&&decide ((l.getD i.toNat zq1).2.1<(↑out.length:Int))then lS f (l,core,out.set (Int.toNat (l.getD i.toNat zq1).2.1) ((l.getD i.toNat zq1).2.2.1,(l.getD i.toNat zq1).2.2.2.1,(l.getD i.toNat zq1).2.2.2.2.1,(l.getD i.toNat zq1).2.2.2.2.2.1,(l.getD i.toNat zq1).2.2.2.2.2.2.1,(l.getD i.toNat zq1).2.2.2.2.2.2.2.1,(l.getD i.toNat zq1).2.2.2.2.2.2.2.2.1,(l.getD i.toNat zq1).2.2.2.2.2.2.2.2.2.1,(l.getD i.toNat zq1).2.2.2.2.2.2.2.2.2.2.1,(l.getD i.toNat zq1).2.2.2.2.2.2.2.2.2.2.2.1,(l.getD i.toNat zq1).2.2.2.2.2.2.2.2.2.2.2.2,(out.getD (Int.toNat (l.getD i.toNat zq1).2.1) zq2).2.2.2.2.2.2.2.2.2.2.2),i64.wrap (i+1))else none else none else none else none else lS f (l,core,out,i64.wrap (i+1))else none else lS f (l,core,out,i64.wrap (i+1))else none else some out:=by kernel_rfl
noncomputable def j3:List ag→((List ag)×Int×(List aL)×Nat)→(List aL)
 | [],(l,core,out,i)=>out
 | uu::rest,(l,core,out,i)=>bif uu.1 == core then bif decide (uu.2.1<12)then j3 rest (l,core,out.set (Int.toNat uu.2.1) (uu.2.2.1,uu.2.2.2.1,uu.2.2.2.2.1,uu.2.2.2.2.2.1,uu.2.2.2.2.2.2.1,uu.2.2.2.2.2.2.2.1,uu.2.2.2.2.2.2.2.2.1,uu.2.2.2.2.2.2.2.2.2.1,uu.2.2.2.2.2.2.2.2.2.2.1,uu.2.2.2.2.2.2.2.2.2.2.2.1,uu.2.2.2.2.2.2.2.2.2.2.2.2,(out.getD (Int.toNat uu.2.1) zq2).2.2.2.2.2.2.2.2.2.2.2),i+1)else j3 rest (l,core,out,i+1)else j3 rest (l,core,out,i+1)
noncomputable def jW:List ag→((List ag)×Int×(List aL)×Nat)→Bool
 | [],(l,core,out,i)=>true
 | uu::rest,(l,core,out,i)=>bif uu.1 == core then bif decide (uu.2.1<12)then af uu.2.2.2.2.2.1&&(decide (0≤uu.2.1)&&decide (uu.2.1<(↑out.length:Int))&&jW rest (l,core,out.set (Int.toNat uu.2.1) (uu.2.2.1,uu.2.2.2.1,uu.2.2.2.2.1,uu.2.2.2.2.2.1,uu.2.2.2.2.2.2.1,uu.2.2.2.2.2.2.2.1,uu.2.2.2.2.2.2.2.2.1,uu.2.2.2.2.2.2.2.2.2.1,uu.2.2.2.2.2.2.2.2.2.2.1,uu.2.2.2.2.2.2.2.2.2.2.2.1,uu.2.2.2.2.2.2.2.2.2.2.2.2,(out.getD (Int.toNat uu.2.1) zq2).2.2.2.2.2.2.2.2.2.2.2),i+1))else jW rest (l,core,out,i+1)else jW rest (l,core,out,i+1)
theorem wm:∀(rest:List ag) (l:List ag) (core:Int) (out:List aL) (i:Nat) (hd:l.drop i=rest) (hl:l.length≤1099511627776),de (fun f=>lS f (l,core,out,((i:Nat):Int))) (jW rest (l,core,out,i)) (j3 rest (l,core,out,i))
 | [],l,core,out,i,hd,hl=>ai (fun f=>(yv f _ _ _ _).trans (by simp only[fA (bT hd),fW,azP,azI]<;>rfl)) ae
 | uu::rest,l,core,out,i,hd,hl=>ai (fun f=>(yv f _ _ _ _).trans (by simp only[cK (ak hd),bC hd,bk (ak hd) hl,fW,azQ,azH]<;>rfl)) (ao (ao (aI (aI (wm rest _ _ _ _ (aH hd) hl))) (wm rest _ _ _ _ (aH hd) hl)) (wm rest _ _ _ _ (aH hd) hl))
noncomputable def acO:((List ag)×Int)→(List aL)
 | (l,core)=>j3 l (l,core,List.replicate (Int.toNat 12) zq2,0)
noncomputable def N2:((List ag)×Int)→Bool
 | (l,core)=>decide (l.length≤1099511627776)&&jW l (l,core,List.replicate (Int.toNat 12) zq2,0)
theorem TC:∀a:(List ag)×Int,de (fun f=>abS f a) (N2 a) (acO a)
 | (l,core)=>ai (fun f=>U8 f _ _) (bL fun hh=>wm _ _ _ _ _ rfl (azZ hh))
def gm(core:Int)(out:List aL)(e:ag):List aL:=bif decide (e.1=core)&&decide (e.2.1<12)then out.set e.2.1.toNat (Ys e.2.2 (Ju (out.getD e.2.1.toNat iR)) (nU (out.getD e.2.1.toNat iR)))else out
def M4(a:List ag×Int):List aL:=a.1.foldl (gm a.2) (List.replicate 12 iR)
def oE(a:List ag×Int):Bool:=af a.1&&a.1.all fun e=>decide (0≤e.2.1)&&af e.2.2.2.2.2.1
theorem sV(core:Int)(out:List aL)(e:ag):(gm core out e).length=out.length:=by
 simp only[gm];cases decide (e.1=core)&&decide (e.2.1<12)<;>simp
theorem M3(l:List ag)(core:Int):∀(r:List ag) (out:List aL) (k:Nat),out.length=12→(∀e∈r,0≤e.2.1∧af e.2.2.2.2.2.1=true)→j3 r (l,core,out,k)=r.foldl (gm core) out∧jW r (l,core,out,k)=true
 | [],out,k,h,hr=>⟨rfl,rfl⟩
 | u::r,out,k,h,hr=>by
  obtain⟨h1,h2⟩:=hr u (az1 ..);obtain⟨i1,i2⟩:=M3 l core r (gm core out u) (k+1) (by rw[sV,h]) (fun e he=>hr e (az6 _ he));simp only[j3,jW,xm,aAN,← i1,h2,azP,azC h1];by_cases c1:u.1=core
  ·by_cases c2:u.2.1<12
   ·have e1:gm core out u=out.set u.2.1.toNat (Ys u.2.2 (Ju (out.getD u.2.1.toNat iR)) (nU (out.getD u.2.1.toNat iR))):=by simp only[gm,azC c1,azC c2];rfl
    rw[e1]at i2 ⊢;simp only[azC c1,azC c2,azH,azC (show u.2.1<((out.length:Nat):Int)by omega)];exact⟨rfl,i2⟩
   ·have e1:gm core out u=out:=by simp only[gm,azC c1,azK c2];rfl
    rw[e1]at i2 ⊢;simp only[azC c1,azK c2,azH,azI];exact⟨trivial,i2⟩
  ·have e1:gm core out u=out:=by simp only[gm,azK c1];rfl
   rw[e1]at i2 ⊢;simp only[azK c1,azI];exact⟨trivial,i2⟩
theorem Ef{l:List ag}{c:Int}(h:oE (l,c)=true):l.length≤1099511627776∧∀e∈l,0≤e.2.1∧af e.2.2.2.2.2.1=true:=by
 simp only[oE,azF]at h;refine⟨azZ h.1,fun e he=>?_⟩;have:=azU.1 h.2 e he;simp only[azF,azM]at this;exact this
theorem ali:∀a,oE a=true→N2 a=true:=by
 rintro⟨l,c⟩ h;obtain⟨h1,h2⟩:=Ef h;have:=(M3 l c l (List.replicate 12 iR) 0 rfl h2).2;simp only[N2,azC h1,azP];exact this
theorem alj:∀a,oE a=true→acO a=M4 a:=by
 rintro⟨l,c⟩ h;exact(M3 l c l (List.replicate 12 iR) 0 rfl (Ef h).2).1
noncomputable def OP:dn:=⟨68,[.c (.sl aF),.c zI],[.o 64 15 bg],oE,M4⟩
theorem VG:zO OP:=fl OX Ad [.tmp 4] mixed (ah gR (aC)) Tryz.func68 (bp TC ali alj)
theorem Es(steps:List iz):oE (aD steps,0)=true:=by
 obtain⟨h1,h2⟩:=rj steps;simp only[oE,azF];refine⟨azC (by omega),azU.2 fun e he=>?_⟩;simp only[azF,azM];exact⟨(h1.cs e he).2.1,azC (az0 (h1.path he) (by omega))⟩
