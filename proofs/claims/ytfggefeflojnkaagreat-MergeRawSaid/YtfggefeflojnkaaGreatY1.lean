/- By an AI agent. -/
import Derived.Test.YtfggefeflojnkaaGreatEse
set_option linter.unusedSimpArgs false
set_option linter.unusedVariables false
namespace Go.AL
open Go.Proofs
abbrev cc:List Ty:=[.int .i64,.int .i64,.int .i64,.int .i64,.int .i64,.int .i64,.int .i64,.int .i64,.int .i64,.int .i64,.int .i64,.int .i64,.int .i64,.int .i64,.int .i64,.int .i64,.int .i64,.int .i64,.int .i64,.int .i64,.sl [.int .i64,.int .i64,.int .i64],.int .i64,.int .i64,.int .i64,.int .i64,.int .i64,.int .i64,.bool]
abbrev bn:=Int×Int×Int×Int×Int×Int×Int×Int×Int×Int×Int×Int×Int×Int×Int×Int×Int×Int×Int×Int×(List (Int×Int×Int))×Int×Int×Int×Int×Int×Int×Bool
abbrev yP:List Ty:=[.int .i64,.int .i64,.int .i64,.int .i64]
abbrev kO:=Int×Int×Int×Int
abbrev cF:List Ty:=[.int .i64,.int .i64]
abbrev bR:=Int×Int
abbrev avj:List Ty:=[.int .i64,.int .i64,.int .i64,.int .i64,.int .i64,.int .i64,.int .i64,.int .i64,.int .i64,.int .i64,.int .i64,.int .i64]
abbrev SCl:=Int×Int×Int×Int×Int×Int×Int×Int×Int×Int×Int×Int
abbrev ba:List Ty:=[.sl [.int .i64,.int .i64,.int .i64,.sl [.int .i64,.int .i64,.int .i64],.int .i64,.int .i64,.int .i64,.int .i64,.int .i64,.int .i64,.bool,.int .i64,.int .i64,.int .i64,.int .i64],.sl [.int .i64,.int .i64,.int .i64,.int .i64,.int .i64,.int .i64,.int .i64,.int .i64,.int .i64,.int .i64,.int .i64,.int .i64,.int .i64,.int .i64,.int .i64,.int .i64,.int .i64,.int .i64,.int .i64,.int .i64,.sl [.int .i64,.int .i64,.int .i64],.int .i64,.int .i64,.int .i64,.int .i64,.int .i64,.int .i64,.bool],.sl [.int .i64,.int .i64,.int .i64,.int .i64],.sl [.int .i64,.int .i64],.sl [.int .i64,.int .i64,.int .i64,.int .i64,.int .i64,.sl [.int .i64,.int .i64,.int .i64],.int .i64,.int .i64,.int .i64,.int .i64,.int .i64,.int .i64,.bool],.sl [.int .i64,.int .i64,.int .i64]]
abbrev ao:=(List (Int×Int×Int×(List (Int×Int×Int))×Int×Int×Int×Int×Int×Int×Bool×Int×Int×Int×Int))×(List (Int×Int×Int×Int×Int×Int×Int×Int×Int×Int×Int×Int×Int×Int×Int×Int×Int×Int×Int×Int×(List (Int×Int×Int))×Int×Int×Int×Int×Int×Int×Bool))×(List (Int×Int×Int×Int))×(List (Int×Int))×(List (Int×Int×Int×Int×Int×(List (Int×Int×Int))×Int×Int×Int×Int×Int×Int×Bool))×(List (Int×Int×Int))
abbrev dB:List Ty:=[.int .i64,.int .i64,.bool]
abbrev bA:=Int×Int×Bool
theorem jh{α:Type}{l:List α}{k:Nat}(h:k<l.length)(hl:l.length≤9223372036854775807):IntKind.i64.wrap (((k:Nat):Int)+1)=((k+1:Nat):Int):=by
 rw[aN (by omega) (by omega)];rfl
noncomputable def Ho:cR:=⟨Tryz.prog,[],dn [(6,([(0,[]),(1,[]),(2,[]),(3,[]),(4,[]),(5,[]),(6,[]),(7,[]),(8,[])],[(17,25)]))],26,[],[],[],[]⟩
theorem abn:bp Tryz.prog [] [] []:=aD
def vL:Nat→LD:=ej [(0,⟨[.rd 0 aH,.rd 1 aH,.c 5 (.int .i64)],[],0⟩)]
noncomputable def RY(f:Nat)(a:(List (al))×(List (al))):Option (Bool):=(aG (Ho) vL (aQ Tryz.prog [.tmp 4] [.v (.bool)]) f [.code (aC Tryz.f37)] (aV [.rd aH,.rd aH] a):Option (aA [.v (.bool)]))
noncomputable def me(f:Nat)(x:(List (al))×(List (al))×Int):Option (Bool):=(aG (Ho) vL (aQ Tryz.prog [.tmp 4] [.v (.bool)]) f (aK Tryz.f37 0) ((vL 0).mk' x):Option (aA [.v (.bool)]))
theorem OC(f:Nat)(a:List (al))(b:List (al)):RY (f+1) (a,b) =
  bif(↑a.length:Int) != (↑b.length:Int)then some false else me f (a,b,0):=by kernel_rfl
theorem vU(f:Nat)(a:List (al))(b:List (al))(i:Int):me (f+1) (a,b,i) =
  bif decide (i<(↑a.length:Int))then bif decide (0≤i)&&decide (i<(↑a.length:Int))then bif decide (0≤i)&&decide (i<(↑b.length:Int))then bif !((a.getD i.toNat (0,0,0)).1 == (b.getD i.toNat (0,0,0)).1&&((a.getD i.toNat (0,0,0)).2.1 == (b.getD i.toNat (0,0,0)).2.1&&((a.getD i.toNat (0,0,0)).2.2 == (b.getD i.toNat (0,0,0)).2.2&&true)))then some false else me f (a,b,IntKind.i64.wrap (i+1))else none else none else some true:=by kernel_rfl
noncomputable def xC:List (al)→((List (al))×(List (al))×Nat)→Bool
 | [],(a,b,i)=>true
 | uu::rest,(a,b,i)=>bif !(uu.1 == (b.getD (↑i:Int).toNat (0,0,0)).1&&(uu.2.1 == (b.getD (↑i:Int).toNat (0,0,0)).2.1&&(uu.2.2 == (b.getD (↑i:Int).toNat (0,0,0)).2.2&&true)))then false else xC rest (a,b,i+1)
noncomputable def xw:List (al)→((List (al))×(List (al))×Nat)→Bool
 | [],(a,b,i)=>true
 | uu::rest,(a,b,i)=>decide ((↑i:Int)<(↑b.length:Int))&&bif !(uu.1 == (b.getD (↑i:Int).toNat (0,0,0)).1&&(uu.2.1 == (b.getD (↑i:Int).toNat (0,0,0)).2.1&&(uu.2.2 == (b.getD (↑i:Int).toNat (0,0,0)).2.2&&true)))then true else xw rest (a,b,i+1)
theorem EH:∀(rest:List (al)) (a:List (al)) (b:List (al)) (i:Nat) (hd:a.drop i=rest) (hl:a.length≤1099511627776),cj (fun f=>me f (a,b,((i:Nat):Int))) (xw rest (a,b,i)) (xC rest (a,b,i))
 | [],a,b,i,hd,hl=>ah (fun f=>(vU f _ _ _).trans (by simp only[bW (aY hd),cB,aCw,aCu,aCn,aCq,aCx]<;>rfl)) ae
 | uu::rest,a,b,i,hd,hl=>ah (fun f=>(vU f _ _ _).trans (by simp only[bl (ag hd),aI hd,aM (ag hd) hl,aR (ag hd),cB,aCw,aCu,aCn,aCq,aCx]<;>rfl)) (aE (aw ae (EH rest _ _ _ (by first | exact aq hd | exact drop_set hd | exact au (drop_set hd)) (by first | exact hl | simpa using hl))))
noncomputable def G4:((List (al))×(List (al)))→Bool
 | (a,b)=>bif(↑a.length:Int) != (↑b.length:Int)then false else xC a (a,b,0)
noncomputable def GF:((List (al))×(List (al)))→Bool
 | (a,b)=>bif(↑a.length:Int) != (↑b.length:Int)then true else decide (a.length≤1099511627776)&&xw a (a,b,0)
theorem MU:∀a:(List (al))×(List (al)),cj (fun f=>RY f a) (GF a) (G4 a)
 | (a,b)=>ah (fun f=>OC f _ _) (aw ae (bC fun hh=>EH _ _ _ _ rfl (aCE hh)))
theorem ahh:∀a:List al×List al,decide (a.2=[])=true→GF a=true:=fun a h=>by
 obtain⟨a,b⟩:=a;have h:b=[]:=aCE h;subst h;simp only[GF,fI];cases a with
 | nil=>rfl
 | cons x l=>simp
theorem ahi:∀a:List al×List al,decide (a.2=[])=true→G4 a=decide (a.1=a.2):=fun a h=>by
 obtain⟨a,b⟩:=a;have h:b=[]:=aCE h;subst h;simp only[G4,fI];cases a with
 | nil=>rfl
 | cons x l=>simp
abbrev TH:=bm MU ahh ahi
noncomputable def Hf:db:=⟨37,[.rd aH,.rd aH],[.v (.bool)],fun a=>(fun a=>decide (a.2=[]):(List (al))×(List (al))→Bool) a,fun a=>(fun a=>decide (a.1=a.2):(List (al))×(List (al))→Bool) a⟩
theorem Pf:Hf.Ok Tryz.prog:=eB (C:=Ho) (Lt:=vL) (rs:=[.tmp 4]) mixed abn Tryz.func37 rfl rfl rfl (by kernel_rfl) (by kernel_rfl) TH
noncomputable def SY:cR:=⟨Tryz.prog,[Hf],dn [],24,[],[],[],[]⟩
theorem abl:bp Tryz.prog [Hf] [] []:=ak Pf (aD)
def LM:Nat→LD:=ej []
noncomputable def RW(f:Nat)(a:dX×dX):Option (Bool):=(aG (SY) LM (aQ Tryz.prog [.tmp 4] [.v (.bool)]) f [.code (aC Tryz.f21)] (aV [.g kH,.g kH] a):Option (aA [.v (.bool)]))
theorem OA(f:Nat)(a:dX)(b:dX):RW (f+1) (a,b) =
  bif a.1 == b.1&&(a.2.1 == b.2.1&&(a.2.2.1 == b.2.2.1&&true))then bif a.2.2.2.2.1 == b.2.2.2.2.1&&(a.2.2.2.2.2.1 == b.2.2.2.2.2.1&&(a.2.2.2.2.2.2.1 == b.2.2.2.2.2.2.1&&(a.2.2.2.2.2.2.2.1 == b.2.2.2.2.2.2.2.1&&(a.2.2.2.2.2.2.2.2.1 == b.2.2.2.2.2.2.2.2.1&&(a.2.2.2.2.2.2.2.2.2.1 == b.2.2.2.2.2.2.2.2.2.1&&(a.2.2.2.2.2.2.2.2.2.2 == b.2.2.2.2.2.2.2.2.2.2&&true))))))then bif decide (b.2.2.2.1=[])then some (decide (a.2.2.2.1=b.2.2.2.1))else none else some false else some false:=by kernel_rfl
noncomputable def SI:(dX×dX)→Bool
 | (a,b)=>bif a.1 == b.1&&(a.2.1 == b.2.1&&(a.2.2.1 == b.2.2.1&&true))then bif a.2.2.2.2.1 == b.2.2.2.2.1&&(a.2.2.2.2.2.1 == b.2.2.2.2.2.1&&(a.2.2.2.2.2.2.1 == b.2.2.2.2.2.2.1&&(a.2.2.2.2.2.2.2.1 == b.2.2.2.2.2.2.2.1&&(a.2.2.2.2.2.2.2.2.1 == b.2.2.2.2.2.2.2.2.1&&(a.2.2.2.2.2.2.2.2.2.1 == b.2.2.2.2.2.2.2.2.2.1&&(a.2.2.2.2.2.2.2.2.2.2 == b.2.2.2.2.2.2.2.2.2.2&&true))))))then decide (a.2.2.2.1=b.2.2.2.1)else false else false
noncomputable def GC:(dX×dX)→Bool
 | (a,b)=>bif a.1 == b.1&&(a.2.1 == b.2.1&&(a.2.2.1 == b.2.2.1&&true))then bif a.2.2.2.2.1 == b.2.2.2.2.1&&(a.2.2.2.2.2.1 == b.2.2.2.2.2.1&&(a.2.2.2.2.2.2.1 == b.2.2.2.2.2.2.1&&(a.2.2.2.2.2.2.2.1 == b.2.2.2.2.2.2.2.1&&(a.2.2.2.2.2.2.2.2.1 == b.2.2.2.2.2.2.2.2.1&&(a.2.2.2.2.2.2.2.2.2.1 == b.2.2.2.2.2.2.2.2.2.1&&(a.2.2.2.2.2.2.2.2.2.2 == b.2.2.2.2.2.2.2.2.2.2&&true))))))then decide (b.2.2.2.1=[])else true else true
theorem MS:∀a:dX×dX,cj (fun f=>RW f a) (GC a) (SI a)
 | (a,b)=>ah (fun f=>OA f _ _) (aw (aw (dA ae) ae) ae)
theorem ahb:∀a:dX×dX,decide (a.2.2.2.2.1=[])=true→GC a=true:=fun a h=>by
 simp only[GC];exact Gp (Gp h)
theorem ahc:∀a:dX×dX,decide (a.2.2.2.2.1=[])=true→SI a=decide (a.1=a.2):=fun a h=>QW a.1 a.2
abbrev TA:=bm MS ahb ahc
noncomputable def nJ:db:=⟨21,[.g kH,.g kH],[.v (.bool)],fun a=>(fun a=>decide (a.2.2.2.2.1=[]):dX×dX→Bool) a,fun a=>(fun a=>decide (a.1=a.2):dX×dX→Bool) a⟩
theorem tQ:nJ.Ok Tryz.prog:=eB (C:=SY) (Lt:=LM) (rs:=[.tmp 4]) mixed abl Tryz.func21 rfl rfl rfl (by kernel_rfl) (by kernel_rfl) TA
instance ayC:DecidableEq SCl:=@instDecidableEqProd Int _ _ (@instDecidableEqProd Int _ _ (@instDecidableEqProd Int _ _ (@instDecidableEqProd Int _ _ (@instDecidableEqProd Int _ _ (@instDecidableEqProd Int _ _ (@instDecidableEqProd Int _ _ (@instDecidableEqProd Int _ _ (@instDecidableEqProd Int _ _ inferInstance))))))))
theorem atZ(a b:SCl):(a.1 == b.1&&(a.2.1 == b.2.1&&(a.2.2.1 == b.2.2.1&&(a.2.2.2.1 == b.2.2.2.1&&(a.2.2.2.2.1 == b.2.2.2.2.1&&(a.2.2.2.2.2.1 == b.2.2.2.2.2.1&&(a.2.2.2.2.2.2.1 == b.2.2.2.2.2.2.1&&(a.2.2.2.2.2.2.2.1 == b.2.2.2.2.2.2.2.1&&(a.2.2.2.2.2.2.2.2.1 == b.2.2.2.2.2.2.2.2.1&&(a.2.2.2.2.2.2.2.2.2.1 == b.2.2.2.2.2.2.2.2.2.1&&(a.2.2.2.2.2.2.2.2.2.2.1 == b.2.2.2.2.2.2.2.2.2.2.1&&(a.2.2.2.2.2.2.2.2.2.2.2 == b.2.2.2.2.2.2.2.2.2.2.2&&true))))))))))))=decide (a=b):=by
 obtain⟨a0,a1,a2,a3,a4,a5,a6,a7,a8,a9,a10,a11⟩:=a;obtain⟨b0,b1,b2,b3,b4,b5,b6,b7,b8,b9,b10,b11⟩:=b;rw[aDN,aCy];simp
def j9(r:bn):al:=(r.1,r.2.1,r.2.2.1)
def gA(r:bn):SCl:=(r.2.2.2.1,r.2.2.2.2.1,r.2.2.2.2.2.1,r.2.2.2.2.2.2.1,r.2.2.2.2.2.2.2.1,r.2.2.2.2.2.2.2.2.1,r.2.2.2.2.2.2.2.2.2.1,r.2.2.2.2.2.2.2.2.2.2.1,r.2.2.2.2.2.2.2.2.2.2.2.1,r.2.2.2.2.2.2.2.2.2.2.2.2.1,r.2.2.2.2.2.2.2.2.2.2.2.2.2.1,r.2.2.2.2.2.2.2.2.2.2.2.2.2.2.1)
def rrg(r:bn):Int:=r.2.2.2.2.2.2.2.2.2.2.2.2.2.2.2.1
def rwd(r:bn):Int:=r.2.2.2.2.2.2.2.2.2.2.2.2.2.2.2.2.1
def E6(r:bn):dX:=(r.2.2.2.2.2.2.2.2.2.2.2.2.2.2.2.2.2.1,r.2.2.2.2.2.2.2.2.2.2.2.2.2.2.2.2.2.2.1,r.2.2.2.2.2.2.2.2.2.2.2.2.2.2.2.2.2.2.2.1,r.2.2.2.2.2.2.2.2.2.2.2.2.2.2.2.2.2.2.2.2.1,r.2.2.2.2.2.2.2.2.2.2.2.2.2.2.2.2.2.2.2.2.2.1,r.2.2.2.2.2.2.2.2.2.2.2.2.2.2.2.2.2.2.2.2.2.2.1,r.2.2.2.2.2.2.2.2.2.2.2.2.2.2.2.2.2.2.2.2.2.2.2.1,r.2.2.2.2.2.2.2.2.2.2.2.2.2.2.2.2.2.2.2.2.2.2.2.2.1,r.2.2.2.2.2.2.2.2.2.2.2.2.2.2.2.2.2.2.2.2.2.2.2.2.2.1,r.2.2.2.2.2.2.2.2.2.2.2.2.2.2.2.2.2.2.2.2.2.2.2.2.2.2.1,r.2.2.2.2.2.2.2.2.2.2.2.2.2.2.2.2.2.2.2.2.2.2.2.2.2.2.2)
def avF(i:al)(k:SCl)(g w:Int)(n:dX):bn:=(i.1,i.2.1,i.2.2,k.1,k.2.1,k.2.2.1,k.2.2.2.1,k.2.2.2.2.1,k.2.2.2.2.2.1,k.2.2.2.2.2.2.1,k.2.2.2.2.2.2.2.1,k.2.2.2.2.2.2.2.2.1,k.2.2.2.2.2.2.2.2.2.1,k.2.2.2.2.2.2.2.2.2.2.1,k.2.2.2.2.2.2.2.2.2.2.2,g,w,n.1,n.2.1,n.2.2.1,n.2.2.2.1,n.2.2.2.2.1,n.2.2.2.2.2.1,n.2.2.2.2.2.2.1,n.2.2.2.2.2.2.2.1,n.2.2.2.2.2.2.2.2.1,n.2.2.2.2.2.2.2.2.2.1,n.2.2.2.2.2.2.2.2.2.2)
instance ayA:DecidableEq bn:=@instDecidableEqProd Int _ _ (@instDecidableEqProd Int _ _ (@instDecidableEqProd Int _ _ (@instDecidableEqProd Int _ _ (@instDecidableEqProd Int _ _ (@instDecidableEqProd Int _ _ (@instDecidableEqProd Int _ _ (@instDecidableEqProd Int _ _ (@instDecidableEqProd Int _ _ (@instDecidableEqProd Int _ _ (@instDecidableEqProd Int _ _ (@instDecidableEqProd Int _ _ (@instDecidableEqProd Int _ _ (@instDecidableEqProd Int _ _ (@instDecidableEqProd Int _ _ (@instDecidableEqProd Int _ _ (@instDecidableEqProd Int _ _ (@instDecidableEqProd Int _ _ (@instDecidableEqProd Int _ _ (@instDecidableEqProd Int _ _ (@instDecidableEqProd (List al) _ _ (@instDecidableEqProd Int _ _ (@instDecidableEqProd Int _ _ (@instDecidableEqProd Int _ _ (@instDecidableEqProd Int _ _ (@instDecidableEqProd Int _ _ inferInstance)))))))))))))))))))))))))
theorem arW(a b:bn):decide (a=b)=(decide (j9 a=j9 b)&&(decide (gA a=gA b)&&(decide (rrg a=rrg b)&&(decide (rwd a=rwd b)&&decide (E6 a=E6 b))))):=by
 rw[aDN];simp only[aCs,aCy];constructor
 ·rintro rfl;exact⟨rfl,rfl,rfl,rfl,rfl⟩
 ·rintro⟨h1,h2,h3,h4,h5⟩
  obtain⟨a0,a1,a2,a3,a4,a5,a6,a7,a8,a9,a10,a11,a12,a13,a14,a15,a16,a17,a18,a19,a20,a21,a22,a23,a24,a25,a26,a27⟩:=a;obtain⟨b0,b1,b2,b3,b4,b5,b6,b7,b8,b9,b10,b11,b12,b13,b14,b15,b16,b17,b18,b19,b20,b21,b22,b23,b24,b25,b26,b27⟩:=b;simp only[j9,gA,rrg,rwd,E6,aCH]at h1 h2 h3 h4 h5;obtain⟨k0,k1,k2⟩:=h1;obtain⟨k3,k4,k5,k6,k7,k8,k9,k10,k11,k12,k13,k14⟩:=h2;obtain⟨k17,k18,k19,k20,k21,k22,k23,k24,k25,k26,k27⟩:=h5;subst k0 k1 k2 k3 k4 k5 k6 k7 k8 k9 k10 k11 k12 k13 k14 h3 h4 k17 k18 k19 k20 k21 k22 k23 k24 k25 k26 k27;rfl
def Ax(r:bn):List al:=r.2.2.2.2.2.2.2.2.2.2.2.2.2.2.2.2.2.2.2.2.1
def fN(l:List bn):Bool:=decide (l.length≤68719476736)&&l.all fun r=>af (Ax r)
theorem uD{l:List bn}(h:fN l=true):l.length≤68719476736:=by
 simp only[fN,aCs,aCy]at h;exact h.1
theorem lC{l:List bn}(h:fN l=true){s:bn}(hs:s∈l):af (Ax s)=true:=by
 simp only[fN,aCs]at h;exact aCG.1 h.2 s hs
noncomputable def afY:cR:=⟨Tryz.prog,[iX],dn [],8,[],[],[],[]⟩
theorem ajh:bp Tryz.prog [iX] [] []:=ak nR (aD)
def Sp:Nat→LD:=ej []
noncomputable def adQ(f:Nat)(a:bn):Option (bn):=(aG (afY) Sp (aQ Tryz.prog [.cell 2 56] [.g cc]) f [.code (aC Tryz.f86)] (aV [.g cc] a):Option (aA [.g cc]))
theorem V7(f:Nat)(r:bn):adQ (f+1) r =
  bif af r.2.2.2.2.2.2.2.2.2.2.2.2.2.2.2.2.2.2.2.2.1 then some r else none:=by kernel_rfl
noncomputable def aeL:bn→bn
 | r=>r
noncomputable def acM:bn→Bool
 | r=>af r.2.2.2.2.2.2.2.2.2.2.2.2.2.2.2.2.2.2.2.2.1
theorem Ud:∀a:bn,cj (fun f=>adQ f a) (acM a) (aeL a)
 | r=>ah (fun f=>V7 f _) (dA ae)
theorem anJ:∀a:bn,af (Ax a)=true→acM a=true:=fun a h=>h
theorem anK:∀a:bn,af (Ax a)=true→aeL a=a:=fun a h=>rfl
abbrev ZF:=bm Ud anJ anK
noncomputable def Pw:db:=⟨86,[.g cc],[.g cc],fun a=>(fun a=>af (Ax a):bn→Bool) a,fun a=>(fun a=>a:bn→bn) a⟩
theorem WT:Pw.Ok Tryz.prog:=eB (C:=afY) (Lt:=Sp) (rs:=[.cell 2 56]) mixed ajh Tryz.func86 rfl rfl rfl (by kernel_rfl) (by kernel_rfl) ZF
noncomputable def PW:cR:=⟨Tryz.prog,[Pw],dn [],20,[],[],[],[]⟩
theorem ajg:bp Tryz.prog [Pw] [] []:=ak WT (aD)
def zJ:Nat→LD:=ej [(0,⟨[.rd 0 cc,.list 3 999 56 28 cc,.c 4 (.int .i64)],[],0⟩)]
noncomputable def adP(f:Nat)(a:(List (bn))):Option ((List (bn))):=(aG (PW) zJ (aQ Tryz.prog [.tmp 2] [.o 56 28 cc]) f [.code (aC Tryz.f52)] (aV [.rd cc] a):Option (aA [.o 56 28 cc]))
noncomputable def qZ(f:Nat)(x:(List (bn))×(List (bn))×Int):Option ((List (bn))):=(aG (PW) zJ (aQ Tryz.prog [.tmp 2] [.o 56 28 cc]) f (aK Tryz.f52 0) ((zJ 0).mk' x):Option (aA [.o 56 28 cc]))
theorem V6(f:Nat)(l:List (bn)):adP (f+1) l =
  qZ f (l,[],0):=by kernel_rfl
theorem yC(f:Nat)(l:List (bn))(out:List (bn))(i:Int):qZ (f+1) (l,out,i) =
  bif decide (i<(↑l.length:Int))then bif decide (0≤i)&&decide (i<(↑l.length:Int))then bif af (Ax (l.getD i.toNat zq3))then bif decide ((out.length+[l.getD i.toNat zq3].length)*240≤140737488355328)then qZ f (l,out++[l.getD i.toNat zq3],IntKind.i64.wrap (i+1))else none else none else none else some out:=by kernel_rfl
noncomputable def mB:List (bn)→((List (bn))×(List (bn))×Nat)→(List (bn))
 | [],(l,out,i)=>out
 | uu::rest,(l,out,i)=>mB rest (l,out++[uu],i+1)
noncomputable def qz:List (bn)→((List (bn))×(List (bn))×Nat)→Bool
 | [],(l,out,i)=>true
 | uu::rest,(l,out,i)=>af (Ax uu)&&(decide ((out.length+[uu].length)*240≤140737488355328)&&qz rest (l,out++[uu],i+1))
theorem Ml:∀(rest:List (bn)) (l:List (bn)) (out:List (bn)) (i:Nat) (hd:l.drop i=rest) (hl:l.length≤1099511627776),cj (fun f=>qZ f (l,out,((i:Nat):Int))) (qz rest (l,out,i)) (mB rest (l,out,i))
 | [],l,out,i,hd,hl=>ah (fun f=>(yC f _ _ _).trans (by simp only[bW (aY hd),cB,aCw,aCu,aCn,aCq,aCx]<;>rfl)) ae
 | uu::rest,l,out,i,hd,hl=>ah (fun f=>(yC f _ _ _).trans (by simp only[bl (ag hd),aI hd,aM (ag hd) hl,aR (ag hd),cB,aCw,aCu,aCn,aCq,aCx]<;>rfl)) (aE (aE (Ml rest _ _ _ (by first | exact aq hd | exact drop_set hd | exact au (drop_set hd)) (by first | exact hl | simpa using hl))))
noncomputable def OY:(List (bn))→(List (bn))
 | l=>mB l (l,[],0)
noncomputable def Ot:(List (bn))→Bool
 | l=>decide (l.length≤1099511627776)&&qz l (l,[],0)
theorem Uc:∀a:(List (bn)),cj (fun f=>adP f a) (Ot a) (OY a)
 | l=>ah (fun f=>V6 f _) (bC fun hh=>Ml _ _ _ _ rfl (aCE hh))
theorem M8(l:List bn):∀(r out:List bn) (k:Nat),(∀e∈r,af (Ax e)=true)→out.length+r.length≤68719476736→mB r (l,out,k)=out++r∧qz r (l,out,k)=true
 | [],out,k,h,hl=>⟨by simp[mB],rfl⟩
 | u::r,out,k,h,hl=>by
  obtain⟨i1,i2⟩:=M8 l r (out++[u]) (k+1) (fun e he=>h e (aCQ _ he)) (by simp at hl ⊢;omega);have h1:af (Ax u)=true:=h u (aCK ..);simp only[aCv]at hl;simp only[mB,qz,i1,i2,h1];exact⟨by simp,by simp only[aCv,aCB,aCT,aCu,aCy];omega⟩
theorem anH:∀a,fN a=true→Ot a=true:=fun a h=>by
 have:=uD h;simp only[Ot,(M8 a a [] 0 (fun e he=>lC h he) (by simpa using this)).2,aCT];exact aCm (by omega)
theorem anI:∀a,fN a=true→OY a=a:=fun a h=>by
 simp only[OY,(M8 a a [] 0 (fun e he=>lC h he) (by simpa using uD h)).1,aC1]
abbrev ZE:=bm Uc anH anI
noncomputable def Cj:db:=⟨52,[.rd cc],[.o 56 28 cc],fun a=>(fN:(List (bn))→Bool) a,fun a=>(fun a=>a:(List (bn))→(List (bn))) a⟩
theorem EB:Cj.Ok Tryz.prog:=eB (C:=PW) (Lt:=zJ) (rs:=[.tmp 2]) mixed ajg Tryz.func52 rfl rfl rfl (by kernel_rfl) (by kernel_rfl) ZE
noncomputable def Hu:cR:=⟨Tryz.prog,[],dn [],8,[],[],[],[]⟩
theorem FP:bp Tryz.prog []:=aD
theorem aqg(l:List (bn)):(aG Hu (fun _=>⟨[],[],0⟩) (aQ Tryz.prog [.tmp 2] [.o 56 28 cc]) 1 [.code (aC Tryz.f125)] (aV [.rd cc] l):Option (aA [.o 56 28 cc]))=bif Decidable.decide (0<l.length)&&Bool.true then bif Decidable.decide ((([]:List Nat).length+l.length)*(bytesOf Tryz.prog 56)≤140737488355328)then some l else none else none:=by kernel_rfl
noncomputable def Py:db:=⟨125,[.rd cc],[.o 56 28 cc],fun a=>xd (a:List (bn)),fun a=>(a:List (bn))⟩
theorem WU:Py.Ok Tryz.prog:=fun a hp vs hv=>Bx (τ:=cc) (t:=56) (es:=28)
  (fun a h0 h1 vs hv=>iB (C:=Hu) (Lt:=fun _=>⟨[],[],0⟩) (fn:=Tryz.f125) (rs:=[.tmp 2]) [.rd cc] [.o 56 28 cc] mixed FP Tryz.func125 rfl rfl rfl (by kernel_rfl) (by kernel_rfl) 1 ((aqg a).trans (xY h0 h1 (by decide +kernel))) vs hv)
  (iB (C:=Hu) (Lt:=fun _=>⟨[],[],0⟩) (fn:=Tryz.f125) (rs:=[.tmp 2]) (a:=()) [.raw (.slice none 0 0)] [.o 56 28 cc] mixed FP Tryz.func125 rfl rfl rfl (by kernel_rfl) (by kernel_rfl) 1 (by kernel_rfl) _ (by simp only[cE,et,j4];exact⟨_,rfl,rfl⟩))
  (fun b c=>iB (C:=Hu) (Lt:=fun _=>⟨[],[],0⟩) (fn:=Tryz.f125) (rs:=[.tmp 2]) (a:=()) [.raw (.slice (some b) 0 c)] [.o 56 28 cc] mixed FP Tryz.func125 rfl rfl rfl (by kernel_rfl) (by kernel_rfl) 1 (by kernel_rfl) _ (by simp only[cE,et,j4];exact⟨_,rfl,rfl⟩))
  a (aCE hp) vs hv
noncomputable def P2:cR:=⟨Tryz.prog,[Py,tU],dn [],24,[],[],[],[]⟩
theorem ajy:bp Tryz.prog [Py,tU] [] []:=ak WU (ak xE (aD))
def zP:Nat→LD:=ej [(0,⟨[.list 3 999 56 28 cc,.c 8 (.int .i64),.c 9 (.int .i64)],[],0⟩)]
noncomputable def aei(f:Nat)(a:(List (bn))):Option ((List (bn))):=(aG (P2) zP (aQ Tryz.prog [.tmp 2] [.o 56 28 cc]) f [.code (aC Tryz.f88)] (aV [.rd cc] a):Option (aA [.o 56 28 cc]))
noncomputable def rv(f:Nat)(x:(List (bn))×Int×Int):Option ((List (bn))):=(aG (P2) zP (aQ Tryz.prog [.tmp 2] [.o 56 28 cc]) f (aK Tryz.f88 0) ((zP 0).mk' x):Option (aA [.o 56 28 cc]))
theorem Wo(f:Nat)(l:List (bn)):aei (f+1) l =
  bif xd l then rv f (l,(↑l.length:Int),0)else none:=by kernel_rfl
theorem yK(f:Nat)(out:List (bn))(x8:Int)(x9:Int):rv (f+1) (out,x8,x9) =
  bif decide (x9<x8)then bif decide (0≤x9)&&decide (x9<(↑out.length:Int))then bif af (out.getD x9.toNat zq3).2.2.2.2.2.2.2.2.2.2.2.2.2.2.2.2.2.2.2.2.1 then bif decide (0≤x9)&&decide (x9<(↑out.length:Int))then rv f (out.set x9.toNat (out.getD x9.toNat zq3),x8,IntKind.i64.wrap (x9+1))else none else none else none else some out:=by kernel_rfl
noncomputable def rG:List (bn)→((List (bn))×Int×Nat)→(List (bn))
 | [],(out,x8,x9)=>out
 | uu::rest,(out,x8,x9)=>rG rest (out.set (↑x9:Int).toNat uu,x8,x9+1)
noncomputable def qD:List (bn)→((List (bn))×Int×Nat)→Bool
 | [],(out,x8,x9)=>true
 | uu::rest,(out,x8,x9)=>af uu.2.2.2.2.2.2.2.2.2.2.2.2.2.2.2.2.2.2.2.2.1&&qD rest (out.set (↑x9:Int).toNat uu,x8,x9+1)
theorem Mp:∀(rest:List (bn)) (out:List (bn)) (x8:Int) (x9:Nat) (hd:out.drop x9=rest) (hn:x8=((out.length:Nat):Int)) (hl:out.length≤1099511627776),cj (fun f=>rv f (out,x8,((x9:Nat):Int))) (qD rest (out,x8,x9)) (rG rest (out,x8,x9))
 | [],out,x8,x9,hd,hn,hl=>ah (fun f=>(yK f _ _ _).trans (by simp only[iR hn (aY hd),cB,aCw,aCu,aCn,aCq,aCx]<;>rfl)) ae
 | uu::rest,out,x8,x9,hd,hn,hl=>ah (fun f=>(yK f _ _ _).trans (by simp only[iO hn (ag hd),bl (ag hd),aI hd,aM (ag hd) hl,aR (ag hd),cB,aCw,aCu,aCn,aCq,aCx]<;>rfl)) (aE (Mp rest _ _ _ (by first | exact aq hd | exact drop_set hd | exact au (drop_set hd)) (by first | exact hn | simpa using hn) (by first | exact hl | simpa using hl)))
noncomputable def O4:(List (bn))→(List (bn))
 | l=>rG l (l,(↑l.length:Int),0)
noncomputable def Ox:(List (bn))→Bool
 | l=>xd l&&(decide (l.length≤1099511627776)&&qD l (l,(↑l.length:Int),0))
theorem Vd:∀a:(List (bn)),cj (fun f=>aei f a) (Ox a) (O4 a)
 | l=>ah (fun f=>Wo f _) (aE (bC fun hh=>Mp _ _ _ _ rfl (by first | rfl | simp) (aCE hh)))
theorem N8(n:Int):∀(r:List bn) (out:List bn) (k:Nat),out.drop k=r→(∀e∈r,af (Ax e)=true)→rG r (out,n,k)=out∧qD r (out,n,k)=true
 | [],out,k,h,hl=>⟨rfl,rfl⟩
 | u::r,out,k,h,hl=>by
  obtain⟨i1,i2⟩:=N8 n r out (k+1) (aq h) (fun e he=>hl e (aCQ _ he));have h1:af u.2.2.2.2.2.2.2.2.2.2.2.2.2.2.2.2.2.2.2.2.1=true:=hl u (aCK ..);simp only[rG,qD,oL h,i1,i2,h1];exact⟨trivial,rfl⟩
theorem apW:∀a,fN a=true→Ox a=true:=fun a h=>by
 have:=uD h;simp only[Ox,(N8 _ a a 0 rfl (fun e he=>lC h he)).2,aCT,aCs];exact⟨aCm (by omega),aCm (by omega)⟩
theorem apX:∀a,fN a=true→O4 a=a:=fun a h=>by
 simp only[O4,(N8 _ a a 0 rfl (fun e he=>lC h he)).1]
abbrev ab3:=bm Vd apW apX
noncomputable def aqo:db:=⟨88,[.rd cc],[.o 56 28 cc],fun a=>(fN:(List (bn))→Bool) a,fun a=>(fun a=>a:(List (bn))→(List (bn))) a⟩
theorem W7:aqo.Ok Tryz.prog:=eB (C:=P2) (Lt:=zP) (rs:=[.tmp 2]) mixed ajy Tryz.func88 rfl rfl rfl (by kernel_rfl) (by kernel_rfl) ab3
noncomputable def afI:cR:=⟨Tryz.prog,[nL,nJ],dn [],38,[],[],[],[]⟩
theorem aiR:bp Tryz.prog [nL,nJ] [] []:=ak tR (ak tQ (aD))
def Sb:Nat→LD:=ej []
noncomputable def adm(f:Nat)(a:bn×bn):Option (Bool):=(aG (afI) Sb (aQ Tryz.prog [.tmp 4] [.v (.bool)]) f [.code (aC Tryz.f66)] (aV [.g cc,.g cc] a):Option (aA [.v (.bool)]))
theorem VH(f:Nat)(a:bn)(b:bn):adm (f+1) (a,b) =
  bif a.1 == b.1&&(a.2.1 == b.2.1&&(a.2.2.1 == b.2.2.1&&true))then bif a.2.2.2.1 == b.2.2.2.1&&(a.2.2.2.2.1 == b.2.2.2.2.1&&(a.2.2.2.2.2.1 == b.2.2.2.2.2.1&&(a.2.2.2.2.2.2.1 == b.2.2.2.2.2.2.1&&(a.2.2.2.2.2.2.2.1 == b.2.2.2.2.2.2.2.1&&(a.2.2.2.2.2.2.2.2.1 == b.2.2.2.2.2.2.2.2.1&&(a.2.2.2.2.2.2.2.2.2.1 == b.2.2.2.2.2.2.2.2.2.1&&(a.2.2.2.2.2.2.2.2.2.2.1 == b.2.2.2.2.2.2.2.2.2.2.1&&(a.2.2.2.2.2.2.2.2.2.2.2.1 == b.2.2.2.2.2.2.2.2.2.2.2.1&&(a.2.2.2.2.2.2.2.2.2.2.2.2.1 == b.2.2.2.2.2.2.2.2.2.2.2.2.1&&(a.2.2.2.2.2.2.2.2.2.2.2.2.2.1 == b.2.2.2.2.2.2.2.2.2.2.2.2.2.1&&(a.2.2.2.2.2.2.2.2.2.2.2.2.2.2.1 == b.2.2.2.2.2.2.2.2.2.2.2.2.2.2.1&&true)))))))))))then bif a.2.2.2.2.2.2.2.2.2.2.2.2.2.2.2.1 == b.2.2.2.2.2.2.2.2.2.2.2.2.2.2.2.1 then bif a.2.2.2.2.2.2.2.2.2.2.2.2.2.2.2.2.1 == b.2.2.2.2.2.2.2.2.2.2.2.2.2.2.2.2.1 then bif af a.2.2.2.2.2.2.2.2.2.2.2.2.2.2.2.2.2.2.2.2.1 then some (decide (a.2.2.2.2.2.2.2.2.2.2.2.2.2.2.2.2.2=b.2.2.2.2.2.2.2.2.2.2.2.2.2.2.2.2.2))else none else some false else some false else some false else some false:=by kernel_rfl
noncomputable def G3:(bn×bn)→Bool
 | (a,b)=>bif a.1 == b.1&&(a.2.1 == b.2.1&&(a.2.2.1 == b.2.2.1&&true))then bif a.2.2.2.1 == b.2.2.2.1&&(a.2.2.2.2.1 == b.2.2.2.2.1&&(a.2.2.2.2.2.1 == b.2.2.2.2.2.1&&(a.2.2.2.2.2.2.1 == b.2.2.2.2.2.2.1&&(a.2.2.2.2.2.2.2.1 == b.2.2.2.2.2.2.2.1&&(a.2.2.2.2.2.2.2.2.1 == b.2.2.2.2.2.2.2.2.1&&(a.2.2.2.2.2.2.2.2.2.1 == b.2.2.2.2.2.2.2.2.2.1&&(a.2.2.2.2.2.2.2.2.2.2.1 == b.2.2.2.2.2.2.2.2.2.2.1&&(a.2.2.2.2.2.2.2.2.2.2.2.1 == b.2.2.2.2.2.2.2.2.2.2.2.1&&(a.2.2.2.2.2.2.2.2.2.2.2.2.1 == b.2.2.2.2.2.2.2.2.2.2.2.2.1&&(a.2.2.2.2.2.2.2.2.2.2.2.2.2.1 == b.2.2.2.2.2.2.2.2.2.2.2.2.2.1&&(a.2.2.2.2.2.2.2.2.2.2.2.2.2.2.1 == b.2.2.2.2.2.2.2.2.2.2.2.2.2.2.1&&true)))))))))))then bif a.2.2.2.2.2.2.2.2.2.2.2.2.2.2.2.1 == b.2.2.2.2.2.2.2.2.2.2.2.2.2.2.2.1 then bif a.2.2.2.2.2.2.2.2.2.2.2.2.2.2.2.2.1 == b.2.2.2.2.2.2.2.2.2.2.2.2.2.2.2.2.1 then decide (a.2.2.2.2.2.2.2.2.2.2.2.2.2.2.2.2.2=b.2.2.2.2.2.2.2.2.2.2.2.2.2.2.2.2.2)else false else false else false else false
noncomputable def GB:(bn×bn)→Bool
 | (a,b)=>bif a.1 == b.1&&(a.2.1 == b.2.1&&(a.2.2.1 == b.2.2.1&&true))then bif a.2.2.2.1 == b.2.2.2.1&&(a.2.2.2.2.1 == b.2.2.2.2.1&&(a.2.2.2.2.2.1 == b.2.2.2.2.2.1&&(a.2.2.2.2.2.2.1 == b.2.2.2.2.2.2.1&&(a.2.2.2.2.2.2.2.1 == b.2.2.2.2.2.2.2.1&&(a.2.2.2.2.2.2.2.2.1 == b.2.2.2.2.2.2.2.2.1&&(a.2.2.2.2.2.2.2.2.2.1 == b.2.2.2.2.2.2.2.2.2.1&&(a.2.2.2.2.2.2.2.2.2.2.1 == b.2.2.2.2.2.2.2.2.2.2.1&&(a.2.2.2.2.2.2.2.2.2.2.2.1 == b.2.2.2.2.2.2.2.2.2.2.2.1&&(a.2.2.2.2.2.2.2.2.2.2.2.2.1 == b.2.2.2.2.2.2.2.2.2.2.2.2.1&&(a.2.2.2.2.2.2.2.2.2.2.2.2.2.1 == b.2.2.2.2.2.2.2.2.2.2.2.2.2.1&&(a.2.2.2.2.2.2.2.2.2.2.2.2.2.2.1 == b.2.2.2.2.2.2.2.2.2.2.2.2.2.2.1&&true)))))))))))then bif a.2.2.2.2.2.2.2.2.2.2.2.2.2.2.2.1 == b.2.2.2.2.2.2.2.2.2.2.2.2.2.2.2.1 then bif a.2.2.2.2.2.2.2.2.2.2.2.2.2.2.2.2.1 == b.2.2.2.2.2.2.2.2.2.2.2.2.2.2.2.2.1 then af a.2.2.2.2.2.2.2.2.2.2.2.2.2.2.2.2.2.2.2.2.1 else true else true else true else true
theorem Tz:∀a:bn×bn,cj (fun f=>adm f a) (GB a) (G3 a)
 | (a,b)=>ah (fun f=>VH f _ _) (aw (aw (aw (aw (dA ae) ae) ae) ae) ae)
theorem Dh(a:bn×bn)(h:af (Ax a.1)=true):GB a=true∧G3 a=decide (a.1=a.2):=by
 obtain⟨a,b⟩:=a;have h:af a.2.2.2.2.2.2.2.2.2.2.2.2.2.2.2.2.2.2.2.2.1=true:=h;have e1:(a.1 == b.1&&(a.2.1 == b.2.1&&(a.2.2.1 == b.2.2.1&&true)))=decide (j9 a=j9 b):=id_eq (j9 a) (j9 b);have e2:(a.2.2.2.1 == b.2.2.2.1&&(a.2.2.2.2.1 == b.2.2.2.2.1&&(a.2.2.2.2.2.1 == b.2.2.2.2.2.1&&(a.2.2.2.2.2.2.1 == b.2.2.2.2.2.2.1&&(a.2.2.2.2.2.2.2.1 == b.2.2.2.2.2.2.2.1&&(a.2.2.2.2.2.2.2.2.1 == b.2.2.2.2.2.2.2.2.1&&(a.2.2.2.2.2.2.2.2.2.1 == b.2.2.2.2.2.2.2.2.2.1&&(a.2.2.2.2.2.2.2.2.2.2.1 == b.2.2.2.2.2.2.2.2.2.2.1&&(a.2.2.2.2.2.2.2.2.2.2.2.1 == b.2.2.2.2.2.2.2.2.2.2.2.1&&(a.2.2.2.2.2.2.2.2.2.2.2.2.1 == b.2.2.2.2.2.2.2.2.2.2.2.2.1&&(a.2.2.2.2.2.2.2.2.2.2.2.2.2.1 == b.2.2.2.2.2.2.2.2.2.2.2.2.2.1&&(a.2.2.2.2.2.2.2.2.2.2.2.2.2.2.1 == b.2.2.2.2.2.2.2.2.2.2.2.2.2.2.1&&true))))))))))))=decide (gA a=gA b):=atZ (gA a) (gA b);have e3:(a.2.2.2.2.2.2.2.2.2.2.2.2.2.2.2.1 == b.2.2.2.2.2.2.2.2.2.2.2.2.2.2.2.1)=decide (rrg a=rrg b):=BH _ _;have e4:(a.2.2.2.2.2.2.2.2.2.2.2.2.2.2.2.2.1 == b.2.2.2.2.2.2.2.2.2.2.2.2.2.2.2.2.1)=decide (rwd a=rwd b):=BH _ _;constructor
 ·simp only[GB,e1,e2,e3,e4,h]
  cases decide (j9 a=j9 b)<;>cases decide (gA a=gA b)<;>cases decide (rrg a=rrg b)<;>cases decide (rwd a=rwd b)<;>rfl
 ·rw[arW]
  simp only[G3,e1,e2,e3,e4];cases decide (j9 a=j9 b)<;>cases decide (gA a=gA b)<;>cases decide (rrg a=rrg b)<;>cases decide (rwd a=rwd b)<;>rfl
theorem amH:∀a:bn×bn,af (Ax a.1)=true→GB a=true:=fun a h=>(Dh a h).1
theorem amI:∀a:bn×bn,af (Ax a.1)=true→G3 a=decide (a.1=a.2):=fun a h=>(Dh a h).2
abbrev Yk:=bm Tz amH amI
noncomputable def Pa:db:=⟨66,[.g cc,.g cc],[.v (.bool)],fun a=>(fun a=>af (Ax a.1):bn×bn→Bool) a,fun a=>(fun a=>decide (a.1=a.2):bn×bn→Bool) a⟩
theorem Wz:Pa.Ok Tryz.prog:=eB (C:=afI) (Lt:=Sb) (rs:=[.tmp 4]) mixed aiR Tryz.func66 rfl rfl rfl (by kernel_rfl) (by kernel_rfl) Yk
