/- AI. -/
import Derived.Test.YtfggefeflojnkaaGreatEse
set_option linter.unusedVariables false
namespace Go.AL
open Go.Proofs
abbrev bV:List Ty:=[zI,zI,zI,zI,zI,zI,zI,zI,zI,zI,zI,zI,zI,zI,zI,zI,zI,zI,zI,zI,.sl aE,zI,zI,zI,zI,zI,zI,.bool]
abbrev bR:=Int×Int×Int×Int×Int×Int×Int×Int×Int×Int×Int×Int×Int×Int×Int×Int×Int×Int×Int×Int×(List aj)×Int×Int×Int×Int×Int×Int×Bool
abbrev gJ:List Ty:=[zI,zI,zI,zI]
abbrev tm:=Int×Int×Int×Int
abbrev dH:List Ty:=sF
abbrev dv:=Int×Int
abbrev aEa:List Ty:=[zI,zI,zI,zI,zI,zI,zI,zI,zI,zI,zI,zI]
abbrev SCl:=Int×Int×Int×Int×Int×Int×Int×Int×Int×Int×Int×Int
abbrev bl:List Ty:=[.sl bg,.sl bV,.sl gJ,.sl sF,.sl aF,.sl aE]
abbrev ay:=(List aL)×(List bR)×(List tm)×(List Rg)×(List ag)×(List aj)
abbrev tP:List Ty:=[zI,zI,.bool]
abbrev eB:=Int×Int×Bool
noncomputable def Ht:cX:=zC [] (dE [(6,([(0,[]),(1,[]),(2,[]),(3,[]),(4,[]),(5,[]),(6,[]),(7,[]),(8,[])],[(17,25)]))]) 26
def vC:Nat→LD:=eO [(0,⟨[.rd 0 aE,.rd 1 aE,.c 5 (zI)],[],0⟩)]
noncomputable def QX(f:Nat)(a:(List aj)×(List aj)):Option Bool:=aG Ht vC (zK [.tmp 4] [.v .bool]) f [.code (aB Tryz.f37)] (aQ [.rd aE,.rd aE] a)
noncomputable def rE(f:Nat)(x:(List aj)×(List aj)×Int):Option Bool:=aG Ht vC (zK [.tmp 4] [.v .bool]) f (aV Tryz.f37 0) ((vC 0).mk' x)
theorem N9(f:Nat)(a b:List aj):QX (f+1) (a,b) =
  bif(↑a.length:Int) != (↑b.length:Int)then some false else rE f (a,b,0):=by kernel_rfl
theorem vK(f:Nat)(a b:List aj)(i:Int):rE (f+1) (a,b,i) =
  bif decide (i<(↑a.length:Int))then bif decide (0≤i)&&decide (i<(↑a.length:Int))then bif decide (0≤i)&&decide (i<(↑b.length:Int))then bif !((a.getD i.toNat (0,0,0)).1 == (b.getD i.toNat (0,0,0)).1&&((a.getD i.toNat (0,0,0)).2.1 == (b.getD i.toNat (0,0,0)).2.1&&((a.getD i.toNat (0,0,0)).2.2 == (b.getD i.toNat (0,0,0)).2.2&&true)))then some false else rE f (a,b,IntKind.i64.wrap (i+1))else none else none else some true:=by kernel_rfl
noncomputable def xz:List aj→((List aj)×(List aj)×Nat)→Bool
 | [],(a,b,i)=>true
 | uu::rest,(a,b,i)=>bif !(uu.1 == (b.getD (↑i:Int).toNat (0,0,0)).1&&(uu.2.1 == (b.getD (↑i:Int).toNat (0,0,0)).2.1&&(uu.2.2 == (b.getD (↑i:Int).toNat (0,0,0)).2.2&&true)))then false else xz rest (a,b,i+1)
noncomputable def xt:List aj→((List aj)×(List aj)×Nat)→Bool
 | [],(a,b,i)=>true
 | uu::rest,(a,b,i)=>decide ((↑i:Int)<(↑b.length:Int))&&bif !(uu.1 == (b.getD (↑i:Int).toNat (0,0,0)).1&&(uu.2.1 == (b.getD (↑i:Int).toNat (0,0,0)).2.1&&(uu.2.2 == (b.getD (↑i:Int).toNat (0,0,0)).2.2&&true)))then true else xt rest (a,b,i+1)
theorem E9:∀(rest a b:List aj) (i:Nat) (hd:a.drop i=rest) (hl:a.length≤1099511627776),de (fun f=>rE f (a,b,((i:Nat):Int))) (xt rest (a,b,i)) (xz rest (a,b,i))
 | [],a,b,i,hd,hl=>ai (fun f=>(vK f _ _ _).trans (by simp only[fA (bT hd),fW,azP,azI]<;>rfl)) ae
 | uu::rest,a,b,i,hd,hl=>ai (fun f=>(vK f _ _ _).trans (by simp only[cK (ak hd),bC hd,bk (ak hd) hl,fW,azQ,azP,azH]<;>rfl)) (aI (ao ae (E9 rest _ _ _ (aH hd) hl)))
noncomputable def G9:((List aj)×(List aj))→Bool
 | (a,b)=>bif(↑a.length:Int) != (↑b.length:Int)then false else xz a (a,b,0)
noncomputable def GP:((List aj)×(List aj))→Bool
 | (a,b)=>bif(↑a.length:Int) != (↑b.length:Int)then true else decide (a.length≤1099511627776)&&xt a (a,b,0)
theorem Ms:∀a:(List aj)×(List aj),de (fun f=>QX f a) (GP a) (G9 a)
 | (a,b)=>ai (fun f=>N9 f _ _) (ao ae (bL fun hh=>E9 _ _ _ _ rfl (azZ hh)))
theorem afh:∀a:List aj×List aj,decide (a.2=[])=true→GP a=true:=fun a h=>by
 obtain⟨a,b⟩:=a;have h:b=[]:=azZ h;subst h;simp only[GP,zp];cases a with
 | nil=>rfl
 | cons x l=>simp
theorem afi:∀a:List aj×List aj,decide (a.2=[])=true→G9 a=decide (a.1=a.2):=fun a h=>by
 obtain⟨a,b⟩:=a;have h:b=[]:=azZ h;subst h;simp only[G9,zp];cases a with
 | nil=>rfl
 | cons x l=>simp
noncomputable def RY:dn:=⟨37,[.rd aE,.rd aE],[.v .bool],fun a:(List aj)×(List aj)=>decide (a.2=[]),fun a:(List aj)×(List aj)=>decide (a.1=a.2)⟩
theorem OE:zO RY:=fl Ht vC [.tmp 4] mixed (aC) Tryz.func37 (bp Ms afh afi)
noncomputable def Sf:cX:=zC [RY] (dE []) 24
noncomputable def QU(f:Nat)(a:cu×cu):Option Bool:=aG Sf (eO []) (zK [.tmp 4] [.v .bool]) f [.code (aB Tryz.f21)] (aQ [.g gA,.g gA] a)
theorem N6(f:Nat)(a b:cu):QU (f+1) (a,b) =
  bif a.1 == b.1&&(a.2.1 == b.2.1&&(a.2.2.1 == b.2.2.1&&true))then bif a.2.2.2.2.1 == b.2.2.2.2.1&&(a.2.2.2.2.2.1 == b.2.2.2.2.2.1&&(a.2.2.2.2.2.2.1 == b.2.2.2.2.2.2.1&&(a.2.2.2.2.2.2.2.1 == b.2.2.2.2.2.2.2.1&&(a.2.2.2.2.2.2.2.2.1 == b.2.2.2.2.2.2.2.2.1&&(a.2.2.2.2.2.2.2.2.2.1 == b.2.2.2.2.2.2.2.2.2.1&&(a.2.2.2.2.2.2.2.2.2.2 == b.2.2.2.2.2.2.2.2.2.2&&true))))))then bif decide (b.2.2.2.1=[])then some (decide (a.2.2.2.1=b.2.2.2.1))else none else some false else some false:=by kernel_rfl
noncomputable def RJ:(cu×cu)→Bool
 | (a,b)=>bif a.1 == b.1&&(a.2.1 == b.2.1&&(a.2.2.1 == b.2.2.1&&true))then bif a.2.2.2.2.1 == b.2.2.2.2.1&&(a.2.2.2.2.2.1 == b.2.2.2.2.2.1&&(a.2.2.2.2.2.2.1 == b.2.2.2.2.2.2.1&&(a.2.2.2.2.2.2.2.1 == b.2.2.2.2.2.2.2.1&&(a.2.2.2.2.2.2.2.2.1 == b.2.2.2.2.2.2.2.2.1&&(a.2.2.2.2.2.2.2.2.2.1 == b.2.2.2.2.2.2.2.2.2.1&&(a.2.2.2.2.2.2.2.2.2.2 == b.2.2.2.2.2.2.2.2.2.2&&true))))))then decide (a.2.2.2.1=b.2.2.2.1)else false else false
noncomputable def GN:(cu×cu)→Bool
 | (a,b)=>bif a.1 == b.1&&(a.2.1 == b.2.1&&(a.2.2.1 == b.2.2.1&&true))then bif a.2.2.2.2.1 == b.2.2.2.2.1&&(a.2.2.2.2.2.1 == b.2.2.2.2.2.1&&(a.2.2.2.2.2.2.1 == b.2.2.2.2.2.2.1&&(a.2.2.2.2.2.2.2.1 == b.2.2.2.2.2.2.2.1&&(a.2.2.2.2.2.2.2.2.1 == b.2.2.2.2.2.2.2.2.1&&(a.2.2.2.2.2.2.2.2.2.1 == b.2.2.2.2.2.2.2.2.2.1&&(a.2.2.2.2.2.2.2.2.2.2 == b.2.2.2.2.2.2.2.2.2.2&&true))))))then decide (b.2.2.2.1=[])else true else true
theorem Mq:∀a:cu×cu,de (fun f=>QU f a) (GN a) (RJ a)
 | (a,b)=>ai (fun f=>N6 f _ _) (ao (ao (cS ae) ae) ae)
theorem afc:∀a:cu×cu,decide (a.2.2.2.2.1=[])=true→GN a=true:=fun a h=>by
 simp only[GN];grind
theorem afd:∀a:cu×cu,decide (a.2.2.2.2.1=[])=true→RJ a=decide (a.1=a.2):=fun a h=>PO a.1 a.2
noncomputable def Hk:dn:=⟨21,[.g gA,.g gA],[.v .bool],fun a:cu×cu=>decide (a.2.2.2.2.1=[]),fun a:cu×cu=>decide (a.1=a.2)⟩
theorem OB:zO Hk:=fl Sf (eO []) [.tmp 4] mixed (ah OE (aC)) Tryz.func21 (bp Mq afc afd)
instance awk:DecidableEq SCl:=@instDecidableEqProd Int _ _ (@instDecidableEqProd Int _ _ (@instDecidableEqProd Int _ _ (@instDecidableEqProd Int _ _ (@instDecidableEqProd Int _ _ (@instDecidableEqProd Int _ _ (@instDecidableEqProd Int _ _ (@instDecidableEqProd Int _ _ (@instDecidableEqProd Int _ _ inferInstance))))))))
theorem aC6(a b:SCl):(a.1 == b.1&&(a.2.1 == b.2.1&&(a.2.2.1 == b.2.2.1&&(a.2.2.2.1 == b.2.2.2.1&&(a.2.2.2.2.1 == b.2.2.2.2.1&&(a.2.2.2.2.2.1 == b.2.2.2.2.2.1&&(a.2.2.2.2.2.2.1 == b.2.2.2.2.2.2.1&&(a.2.2.2.2.2.2.2.1 == b.2.2.2.2.2.2.2.1&&(a.2.2.2.2.2.2.2.2.1 == b.2.2.2.2.2.2.2.2.1&&(a.2.2.2.2.2.2.2.2.2.1 == b.2.2.2.2.2.2.2.2.2.1&&(a.2.2.2.2.2.2.2.2.2.2.1 == b.2.2.2.2.2.2.2.2.2.2.1&&(a.2.2.2.2.2.2.2.2.2.2.2 == b.2.2.2.2.2.2.2.2.2.2.2&&true))))))))))))=decide (a=b):=by
 grind
def tZ(r:bR):aj:=(r.1,r.2.1,r.2.2.1)
def sQ(r:bR):SCl:=(r.2.2.2.1,r.2.2.2.2.1,r.2.2.2.2.2.1,r.2.2.2.2.2.2.1,r.2.2.2.2.2.2.2.1,r.2.2.2.2.2.2.2.2.1,r.2.2.2.2.2.2.2.2.2.1,r.2.2.2.2.2.2.2.2.2.2.1,r.2.2.2.2.2.2.2.2.2.2.2.1,r.2.2.2.2.2.2.2.2.2.2.2.2.1,r.2.2.2.2.2.2.2.2.2.2.2.2.2.1,r.2.2.2.2.2.2.2.2.2.2.2.2.2.2.1)
def rrg(r:bR):Int:=r.2.2.2.2.2.2.2.2.2.2.2.2.2.2.2.1
def rwd(r:bR):Int:=r.2.2.2.2.2.2.2.2.2.2.2.2.2.2.2.2.1
def Xk(r:bR):cu:=(r.2.2.2.2.2.2.2.2.2.2.2.2.2.2.2.2.2.1,r.2.2.2.2.2.2.2.2.2.2.2.2.2.2.2.2.2.2.1,r.2.2.2.2.2.2.2.2.2.2.2.2.2.2.2.2.2.2.2.1,r.2.2.2.2.2.2.2.2.2.2.2.2.2.2.2.2.2.2.2.2.1,r.2.2.2.2.2.2.2.2.2.2.2.2.2.2.2.2.2.2.2.2.2.1,r.2.2.2.2.2.2.2.2.2.2.2.2.2.2.2.2.2.2.2.2.2.2.1,r.2.2.2.2.2.2.2.2.2.2.2.2.2.2.2.2.2.2.2.2.2.2.2.1,r.2.2.2.2.2.2.2.2.2.2.2.2.2.2.2.2.2.2.2.2.2.2.2.2.1,r.2.2.2.2.2.2.2.2.2.2.2.2.2.2.2.2.2.2.2.2.2.2.2.2.2.1,r.2.2.2.2.2.2.2.2.2.2.2.2.2.2.2.2.2.2.2.2.2.2.2.2.2.2.1,r.2.2.2.2.2.2.2.2.2.2.2.2.2.2.2.2.2.2.2.2.2.2.2.2.2.2.2)
def apm(i:aj)(k:SCl)(g w:Int)(n:cu):bR:=(i.1,i.2.1,i.2.2,k.1,k.2.1,k.2.2.1,k.2.2.2.1,k.2.2.2.2.1,k.2.2.2.2.2.1,k.2.2.2.2.2.2.1,k.2.2.2.2.2.2.2.1,k.2.2.2.2.2.2.2.2.1,k.2.2.2.2.2.2.2.2.2.1,k.2.2.2.2.2.2.2.2.2.2.1,k.2.2.2.2.2.2.2.2.2.2.2,g,w,n.1,n.2.1,n.2.2.1,n.2.2.2.1,n.2.2.2.2.1,n.2.2.2.2.2.1,n.2.2.2.2.2.2.1,n.2.2.2.2.2.2.2.1,n.2.2.2.2.2.2.2.2.1,n.2.2.2.2.2.2.2.2.2.1,n.2.2.2.2.2.2.2.2.2.2)
instance awi:DecidableEq bR:=@instDecidableEqProd Int _ _ (@instDecidableEqProd Int _ _ (@instDecidableEqProd Int _ _ (@instDecidableEqProd Int _ _ (@instDecidableEqProd Int _ _ (@instDecidableEqProd Int _ _ (@instDecidableEqProd Int _ _ (@instDecidableEqProd Int _ _ (@instDecidableEqProd Int _ _ (@instDecidableEqProd Int _ _ (@instDecidableEqProd Int _ _ (@instDecidableEqProd Int _ _ (@instDecidableEqProd Int _ _ (@instDecidableEqProd Int _ _ (@instDecidableEqProd Int _ _ (@instDecidableEqProd Int _ _ (@instDecidableEqProd Int _ _ (@instDecidableEqProd Int _ _ (@instDecidableEqProd Int _ _ (@instDecidableEqProd Int _ _ (@instDecidableEqProd (List aj) _ _ (@instDecidableEqProd Int _ _ (@instDecidableEqProd Int _ _ (@instDecidableEqProd Int _ _ (@instDecidableEqProd Int _ _ (@instDecidableEqProd Int _ _ inferInstance)))))))))))))))))))))))))
theorem azy(a b:bR):decide (a=b)=(decide (tZ a=tZ b)&&(decide (sQ a=sQ b)&&(decide (rrg a=rrg b)&&(decide (rwd a=rwd b)&&decide (Xk a=Xk b))))):=by
 rw[aBM];simp only[azF,azM];constructor
 ·grind
 ·rintro⟨h1,h2,h3,h4,h5⟩
  obtain⟨a0,a1,a2,a3,a4,a5,a6,a7,a8,a9,a10,a11,a12,a13,a14,a15,a16,a17,a18,a19,a20,a21,a22,a23,a24,a25,a26,a27⟩:=a;obtain⟨b0,b1,b2,b3,b4,b5,b6,b7,b8,b9,b10,b11,b12,b13,b14,b15,b16,b17,b18,b19,b20,b21,b22,b23,b24,b25,b26,b27⟩:=b;simp only[tZ,sQ,rrg,rwd,Xk,azY]at h1 h2 h3 h4 h5;grind
def Pu(r:bR):List aj:=r.2.2.2.2.2.2.2.2.2.2.2.2.2.2.2.2.2.2.2.2.1
def ke(l:List bR):Bool:=decide (l.length≤68719476736)&&l.all fun r=>af (Pu r)
theorem Bj{l:List bR}(h:ke l=true):l.length≤68719476736:=by
 simp only[ke,azF,azM]at h;exact h.1
theorem uq{l:List bR}(h:ke l=true){s:bR}(hs:s∈l):af (Pu s)=true:=by
 simp only[ke,azF]at h;grind
noncomputable def ad7:cX:=zC [ni] (dE []) 8
noncomputable def abG(f:Nat)(a:bR):Option bR:=aG ad7 (eO []) (zK [.cell 2 56] [.g bV]) f [.code (aB Tryz.f86)] (aQ [.g bV] a)
theorem U1(f:Nat)(r:bR):abG (f+1) r =
  bif af r.2.2.2.2.2.2.2.2.2.2.2.2.2.2.2.2.2.2.2.2.1 then some r else none:=by kernel_rfl
noncomputable def acI:bR→bR
 | r=>r
noncomputable def aaW:bR→Bool
 | r=>af r.2.2.2.2.2.2.2.2.2.2.2.2.2.2.2.2.2.2.2.2.1
theorem Ti:∀a:bR,de (fun f=>abG f a) (aaW a) (acI a)
 | r=>ai (fun f=>U1 f _) (cS ae)
theorem akU:∀a:bR,af (Pu a)=true→aaW a=true:=fun a h=>h
theorem akV:∀a:bR,af (Pu a)=true→acI a=a:=fun a h=>rfl
noncomputable def adl:dn:=⟨86,[.g bV],[.g bV],fun a:bR=>af (Pu a),fun a:bR=>a⟩
theorem VB:zO adl:=fl ad7 (eO []) [.cell 2 56] mixed (ah gR (aC)) Tryz.func86 (bp Ti akU akV)
noncomputable def OW:cX:=zC [adl] (dE []) 20
def Ac:Nat→LD:=eO [(0,⟨[.rd 0 bV,.list 3 999 56 28 bV,.c 4 (zI)],[],0⟩)]
noncomputable def abF(f:Nat)(a:(List bR)):Option ((List bR)):=aG OW Ac (zK [.tmp 2] [.o 56 28 bV]) f [.code (aB Tryz.f52)] (aQ [.rd bV] a)
noncomputable def vR(f:Nat)(x:(List bR)×(List bR)×Int):Option ((List bR)):=aG OW Ac (zK [.tmp 2] [.o 56 28 bV]) f (aV Tryz.f52 0) ((Ac 0).mk' x)
theorem U0(f:Nat)(l:List bR):abF (f+1) l =
  vR f (l,[],0):=by kernel_rfl
theorem yn(f:Nat)(l out:List bR)(i:Int):vR (f+1) (l,out,i) =
  bif decide (i<(↑l.length:Int))then bif decide (0≤i)&&decide (i<(↑l.length:Int))then bif af (Pu (l.getD i.toNat zq3))then bif decide ((out.length+[l.getD i.toNat zq3].length)*240≤140737488355328)then vR f (l,out++[l.getD i.toNat zq3],IntKind.i64.wrap (i+1))else none else none else none else some out:=by kernel_rfl
noncomputable def lW:List bR→((List bR)×(List bR)×Nat)→(List bR)
 | [],(l,out,i)=>out
 | uu::rest,(l,out,i)=>lW rest (l,out++[uu],i+1)
noncomputable def qk:List bR→((List bR)×(List bR)×Nat)→Bool
 | [],(l,out,i)=>true
 | uu::rest,(l,out,i)=>af (Pu uu)&&(decide ((out.length+[uu].length)*240≤140737488355328)&&qk rest (l,out++[uu],i+1))
theorem LX:∀(rest l out:List bR) (i:Nat) (hd:l.drop i=rest) (hl:l.length≤1099511627776),de (fun f=>vR f (l,out,((i:Nat):Int))) (qk rest (l,out,i)) (lW rest (l,out,i))
 | [],l,out,i,hd,hl=>ai (fun f=>(yn f _ _ _).trans (by simp only[fA (bT hd),fW,azP,azI]<;>rfl)) ae
 | uu::rest,l,out,i,hd,hl=>ai (fun f=>(yn f _ _ _).trans (by simp only[cK (ak hd),bC hd,bk (ak hd) hl,fW,azQ,azH]<;>rfl)) (aI (aI (LX rest _ _ _ (aH hd) hl)))
noncomputable def Ow:(List bR)→(List bR)
 | l=>lW l (l,[],0)
noncomputable def N0:(List bR)→Bool
 | l=>decide (l.length≤1099511627776)&&qk l (l,[],0)
theorem Th:∀a:(List bR),de (fun f=>abF f a) (N0 a) (Ow a)
 | l=>ai (fun f=>U0 f _) (bL fun hh=>LX _ _ _ _ rfl (azZ hh))
theorem MG(l:List bR):∀(r out:List bR) (k:Nat),(∀e∈r,af (Pu e)=true)→out.length+r.length≤68719476736→lW r (l,out,k)=out++r∧qk r (l,out,k)=true
 | [],out,k,h,hl=>⟨by simp[lW],rfl⟩
 | u::r,out,k,h,hl=>by
  obtain⟨i1,i2⟩:=MG l r (out++[u]) (k+1) (fun e he=>h e (az6 _ he)) (by grind);have h1:af (Pu u)=true:=h u (az1 ..);simp only[azL]at hl;simp only[lW,qk,i1,i2,h1];grind
theorem akS:∀a,ke a=true→N0 a=true:=fun a h=>by
 have:=Bj h;simp only[N0,(MG a a [] 0 (fun e he=>uq h he) (by grind)).2,aAt];grind
theorem akT:∀a,ke a=true→Ow a=a:=fun a h=>by
 simp only[Ow,(MG a a [] 0 (fun e he=>uq h he) (by grind[Bj])).1,aAs]
noncomputable def adk:dn:=⟨52,[.rd bV],[.o 56 28 bV],ke,fun a:(List bR)=>a⟩
theorem VA:zO adk:=fl OW Ac [.tmp 2] mixed (ah VB (aC)) Tryz.func52 (bp Th akS akT)
noncomputable def Hy:cX:=zC [] (dE []) 8
theorem Gj:jh Tryz.prog []:=aC
theorem ani(l:List bR):(aG Hy (fun _=>⟨[],[],0⟩) (zK [.tmp 2] [.o 56 28 bV]) 1 [.code (aB Tryz.f125)] (aQ [.rd bV] l):Option (eC [.o 56 28 bV]))=bif Decidable.decide (0<l.length)&&Bool.true then bif Decidable.decide ((([]:List Nat).length+l.length)*(bytesOf Tryz.prog 56)≤140737488355328)then some l else none else none:=by kernel_rfl
noncomputable def adn:dn:=⟨125,[.rd bV],[.o 56 28 bV],fun a=>wP (a:List bR),fun a=>(a:List bR)⟩
theorem VD:adn.Ok Tryz.prog:=fun a hp vs hv=>B3 (τ:=bV) (t:=56) (es:=28)
  (fun a h0 h1 vs hv=>iI (C:=Hy) (Lt:=fun _=>⟨[],[],0⟩) (fn:=Tryz.f125) (rs:=[.tmp 2]) [.rd bV] [.o 56 28 bV] mixed Gj Tryz.func125 rfl rfl rfl (by kernel_rfl) (by kernel_rfl) 1 ((ani a).trans (xX h0 h1 (by decide +kernel))) vs hv)
  (iI (C:=Hy) (Lt:=fun _=>⟨[],[],0⟩) (fn:=Tryz.f125) (rs:=[.tmp 2]) (a:=()) [.raw (.slice none 0 0)] [.o 56 28 bV] mixed Gj Tryz.func125 rfl rfl rfl (by kernel_rfl) (by kernel_rfl) 1 (by kernel_rfl) _ (by simp only[bY,ed,lZ];exact⟨_,rfl,rfl⟩))
  (fun b c=>iI (C:=Hy) (Lt:=fun _=>⟨[],[],0⟩) (fn:=Tryz.f125) (rs:=[.tmp 2]) (a:=()) [.raw (.slice (some b) 0 c)] [.o 56 28 bV] mixed Gj Tryz.func125 rfl rfl rfl (by kernel_rfl) (by kernel_rfl) 1 (by kernel_rfl) _ (by simp only[bY,ed,lZ];exact⟨_,rfl,rfl⟩))
  a (azZ hp) vs hv
noncomputable def O3:cX:=zC [adn,CY] (dE []) 24
def Ak:Nat→LD:=eO [(0,⟨[.list 3 999 56 28 bV,.c 8 (zI),.c 9 (zI)],[],0⟩)]
noncomputable def acf(f:Nat)(a:(List bR)):Option ((List bR)):=aG O3 Ak (zK [.tmp 2] [.o 56 28 bV]) f [.code (aB Tryz.f88)] (aQ [.rd bV] a)
noncomputable def vZ(f:Nat)(x:(List bR)×Int×Int):Option ((List bR)):=aG O3 Ak (zK [.tmp 2] [.o 56 28 bV]) f (aV Tryz.f88 0) ((Ak 0).mk' x)
theorem Vl(f:Nat)(l:List bR):acf (f+1) l =
  bif wP l then vZ f (l,(↑l.length:Int),0)else none:=by kernel_rfl
theorem yB(f:Nat)(out:List bR)(x8 x9:Int):vZ (f+1) (out,x8,x9) =
  bif decide (x9<x8)then bif decide (0≤x9)&&decide (x9<(↑out.length:Int))then bif af (out.getD x9.toNat zq3).2.2.2.2.2.2.2.2.2.2.2.2.2.2.2.2.2.2.2.2.1 then bif decide (0≤x9)&&decide (x9<(↑out.length:Int))then vZ f (out.set x9.toNat (out.getD x9.toNat zq3),x8,IntKind.i64.wrap (x9+1))else none else none else none else some out:=by kernel_rfl
noncomputable def qM:List bR→((List bR)×Int×Nat)→(List bR)
 | [],(out,x8,x9)=>out
 | uu::rest,(out,x8,x9)=>qM rest (out.set (↑x9:Int).toNat uu,x8,x9+1)
noncomputable def qo:List bR→((List bR)×Int×Nat)→Bool
 | [],(out,x8,x9)=>true
 | uu::rest,(out,x8,x9)=>af uu.2.2.2.2.2.2.2.2.2.2.2.2.2.2.2.2.2.2.2.2.1&&qo rest (out.set (↑x9:Int).toNat uu,x8,x9+1)
theorem L0:∀(rest out:List bR) (x8:Int) (x9:Nat) (hd:out.drop x9=rest) (hn:x8=((out.length:Nat):Int)) (hl:out.length≤1099511627776),de (fun f=>vZ f (out,x8,((x9:Nat):Int))) (qo rest (out,x8,x9)) (qM rest (out,x8,x9))
 | [],out,x8,x9,hd,hn,hl=>ai (fun f=>(yB f _ _ _).trans (by simp only[iZ hn (bT hd),fW,azP,azI]<;>rfl)) ae
 | uu::rest,out,x8,x9,hd,hn,hl=>ai (fun f=>(yB f _ _ _).trans (by simp only[iW hn (ak hd),cK (ak hd),bC hd,bk (ak hd) hl,fW,azQ,azH]<;>rfl)) (aI (L0 rest _ _ _ (by first | exact aH hd | exact drop_set hd | exact bB (drop_set hd)) (by grind) (by grind)))
noncomputable def Oz:(List bR)→(List bR)
 | l=>qM l (l,(↑l.length:Int),0)
noncomputable def N4:(List bR)→Bool
 | l=>wP l&&(decide (l.length≤1099511627776)&&qo l (l,(↑l.length:Int),0))
theorem Up:∀a:(List bR),de (fun f=>acf f a) (N4 a) (Oz a)
 | l=>ai (fun f=>Vl f _) (aI (bL fun hh=>L0 _ _ _ _ rfl (by grind) (azZ hh)))
theorem NS(n:Int):∀(r out:List bR) (k:Nat),out.drop k=r→(∀e∈r,af (Pu e)=true)→qM r (out,n,k)=out∧qo r (out,n,k)=true
 | [],out,k,h,hl=>⟨rfl,rfl⟩
 | u::r,out,k,h,hl=>by
  obtain⟨i1,i2⟩:=NS n r out (k+1) (aH h) (fun e he=>hl e (az6 _ he));have h1:af u.2.2.2.2.2.2.2.2.2.2.2.2.2.2.2.2.2.2.2.2.1=true:=hl u (az1 ..);grind[qM,qo,tW]
theorem amZ:∀a,ke a=true→N4 a=true:=fun a h=>by
 have:=Bj h;simp only[N4,(NS _ a a 0 rfl (fun e he=>uq h he)).2,aAt,azF];exact⟨azC (by omega),azC (by omega)⟩
theorem am0:∀a,ke a=true→Oz a=a:=fun a h=>by
 grind[Oz,NS,uq]
noncomputable def anv:dn:=⟨88,[.rd bV],[.o 56 28 bV],ke,fun a:(List bR)=>a⟩
theorem VP:zO anv:=fl O3 Ak [.tmp 2] mixed (ah VD (ah xA (aC))) Tryz.func88 (bp Up amZ am0)
noncomputable def avY:cX:=zC [Hm,Hk] (dE []) 38
noncomputable def au5(f:Nat)(a:bR×bR):Option Bool:=aG avY (eO []) (zK [.tmp 4] [.v .bool]) f [.code (aB Tryz.f66)] (aQ [.g bV,.g bV] a)
theorem asT(f:Nat)(a b:bR):au5 (f+1) (a,b) =
  bif a.1 == b.1&&(a.2.1 == b.2.1&&(a.2.2.1 == b.2.2.1&&true))then bif a.2.2.2.1 == b.2.2.2.1&&(a.2.2.2.2.1 == b.2.2.2.2.1&&(a.2.2.2.2.2.1 == b.2.2.2.2.2.1&&(a.2.2.2.2.2.2.1 == b.2.2.2.2.2.2.1&&(a.2.2.2.2.2.2.2.1 == b.2.2.2.2.2.2.2.1&&(a.2.2.2.2.2.2.2.2.1 == b.2.2.2.2.2.2.2.2.1&&(a.2.2.2.2.2.2.2.2.2.1 == b.2.2.2.2.2.2.2.2.2.1&&(a.2.2.2.2.2.2.2.2.2.2.1 == b.2.2.2.2.2.2.2.2.2.2.1&&(a.2.2.2.2.2.2.2.2.2.2.2.1 == b.2.2.2.2.2.2.2.2.2.2.2.1&&(a.2.2.2.2.2.2.2.2.2.2.2.2.1 == b.2.2.2.2.2.2.2.2.2.2.2.2.1&&(a.2.2.2.2.2.2.2.2.2.2.2.2.2.1 == b.2.2.2.2.2.2.2.2.2.2.2.2.2.1&&(a.2.2.2.2.2.2.2.2.2.2.2.2.2.2.1 == b.2.2.2.2.2.2.2.2.2.2.2.2.2.2.1&&true)))))))))))then bif a.2.2.2.2.2.2.2.2.2.2.2.2.2.2.2.1 == b.2.2.2.2.2.2.2.2.2.2.2.2.2.2.2.1 then bif a.2.2.2.2.2.2.2.2.2.2.2.2.2.2.2.2.1 == b.2.2.2.2.2.2.2.2.2.2.2.2.2.2.2.2.1 then bif af a.2.2.2.2.2.2.2.2.2.2.2.2.2.2.2.2.2.2.2.2.1 then some (decide (a.2.2.2.2.2.2.2.2.2.2.2.2.2.2.2.2.2=b.2.2.2.2.2.2.2.2.2.2.2.2.2.2.2.2.2))else none else some false else some false else some false else some false:=by kernel_rfl
noncomputable def aqm:(bR×bR)→Bool
 | (a,b)=>bif a.1 == b.1&&(a.2.1 == b.2.1&&(a.2.2.1 == b.2.2.1&&true))then bif a.2.2.2.1 == b.2.2.2.1&&(a.2.2.2.2.1 == b.2.2.2.2.1&&(a.2.2.2.2.2.1 == b.2.2.2.2.2.1&&(a.2.2.2.2.2.2.1 == b.2.2.2.2.2.2.1&&(a.2.2.2.2.2.2.2.1 == b.2.2.2.2.2.2.2.1&&(a.2.2.2.2.2.2.2.2.1 == b.2.2.2.2.2.2.2.2.1&&(a.2.2.2.2.2.2.2.2.2.1 == b.2.2.2.2.2.2.2.2.2.1&&(a.2.2.2.2.2.2.2.2.2.2.1 == b.2.2.2.2.2.2.2.2.2.2.1&&(a.2.2.2.2.2.2.2.2.2.2.2.1 == b.2.2.2.2.2.2.2.2.2.2.2.1&&(a.2.2.2.2.2.2.2.2.2.2.2.2.1 == b.2.2.2.2.2.2.2.2.2.2.2.2.1&&(a.2.2.2.2.2.2.2.2.2.2.2.2.2.1 == b.2.2.2.2.2.2.2.2.2.2.2.2.2.1&&(a.2.2.2.2.2.2.2.2.2.2.2.2.2.2.1 == b.2.2.2.2.2.2.2.2.2.2.2.2.2.2.1&&true)))))))))))then bif a.2.2.2.2.2.2.2.2.2.2.2.2.2.2.2.1 == b.2.2.2.2.2.2.2.2.2.2.2.2.2.2.2.1 then bif a.2.2.2.2.2.2.2.2.2.2.2.2.2.2.2.2.1 == b.2.2.2.2.2.2.2.2.2.2.2.2.2.2.2.2.1 then decide (a.2.2.2.2.2.2.2.2.2.2.2.2.2.2.2.2.2=b.2.2.2.2.2.2.2.2.2.2.2.2.2.2.2.2.2)else false else false else false else false
noncomputable def apY:(bR×bR)→Bool
 | (a,b)=>bif a.1 == b.1&&(a.2.1 == b.2.1&&(a.2.2.1 == b.2.2.1&&true))then bif a.2.2.2.1 == b.2.2.2.1&&(a.2.2.2.2.1 == b.2.2.2.2.1&&(a.2.2.2.2.2.1 == b.2.2.2.2.2.1&&(a.2.2.2.2.2.2.1 == b.2.2.2.2.2.2.1&&(a.2.2.2.2.2.2.2.1 == b.2.2.2.2.2.2.2.1&&(a.2.2.2.2.2.2.2.2.1 == b.2.2.2.2.2.2.2.2.1&&(a.2.2.2.2.2.2.2.2.2.1 == b.2.2.2.2.2.2.2.2.2.1&&(a.2.2.2.2.2.2.2.2.2.2.1 == b.2.2.2.2.2.2.2.2.2.2.1&&(a.2.2.2.2.2.2.2.2.2.2.2.1 == b.2.2.2.2.2.2.2.2.2.2.2.1&&(a.2.2.2.2.2.2.2.2.2.2.2.2.1 == b.2.2.2.2.2.2.2.2.2.2.2.2.1&&(a.2.2.2.2.2.2.2.2.2.2.2.2.2.1 == b.2.2.2.2.2.2.2.2.2.2.2.2.2.1&&(a.2.2.2.2.2.2.2.2.2.2.2.2.2.2.1 == b.2.2.2.2.2.2.2.2.2.2.2.2.2.2.1&&true)))))))))))then bif a.2.2.2.2.2.2.2.2.2.2.2.2.2.2.2.1 == b.2.2.2.2.2.2.2.2.2.2.2.2.2.2.2.1 then bif a.2.2.2.2.2.2.2.2.2.2.2.2.2.2.2.2.1 == b.2.2.2.2.2.2.2.2.2.2.2.2.2.2.2.2.1 then af a.2.2.2.2.2.2.2.2.2.2.2.2.2.2.2.2.2.2.2.2.1 else true else true else true else true
theorem asm:∀a:bR×bR,de (fun f=>au5 f a) (apY a) (aqm a)
 | (a,b)=>ai (fun f=>asT f _ _) (ao (ao (ao (ao (cS ae) ae) ae) ae) ae)
theorem apo(a:bR×bR)(h:af (Pu a.1)=true):apY a=true∧aqm a=decide (a.1=a.2):=by
 obtain⟨a,b⟩:=a;have h:af a.2.2.2.2.2.2.2.2.2.2.2.2.2.2.2.2.2.2.2.2.1=true:=h;have e1:(a.1 == b.1&&(a.2.1 == b.2.1&&(a.2.2.1 == b.2.2.1&&true)))=decide (tZ a=tZ b):=id_eq (tZ a) (tZ b);have e2:(a.2.2.2.1 == b.2.2.2.1&&(a.2.2.2.2.1 == b.2.2.2.2.1&&(a.2.2.2.2.2.1 == b.2.2.2.2.2.1&&(a.2.2.2.2.2.2.1 == b.2.2.2.2.2.2.1&&(a.2.2.2.2.2.2.2.1 == b.2.2.2.2.2.2.2.1&&(a.2.2.2.2.2.2.2.2.1 == b.2.2.2.2.2.2.2.2.1&&(a.2.2.2.2.2.2.2.2.2.1 == b.2.2.2.2.2.2.2.2.2.1&&(a.2.2.2.2.2.2.2.2.2.2.1 == b.2.2.2.2.2.2.2.2.2.2.1&&(a.2.2.2.2.2.2.2.2.2.2.2.1 == b.2.2.2.2.2.2.2.2.2.2.2.1&&(a.2.2.2.2.2.2.2.2.2.2.2.2.1 == b.2.2.2.2.2.2.2.2.2.2.2.2.1&&(a.2.2.2.2.2.2.2.2.2.2.2.2.2.1 == b.2.2.2.2.2.2.2.2.2.2.2.2.2.1&&(a.2.2.2.2.2.2.2.2.2.2.2.2.2.2.1 == b.2.2.2.2.2.2.2.2.2.2.2.2.2.2.1&&true))))))))))))=decide (sQ a=sQ b):=aC6 (sQ a) (sQ b);have e3:(a.2.2.2.2.2.2.2.2.2.2.2.2.2.2.2.1 == b.2.2.2.2.2.2.2.2.2.2.2.2.2.2.2.1)=decide (rrg a=rrg b):=xm _ _;have e4:(a.2.2.2.2.2.2.2.2.2.2.2.2.2.2.2.2.1 == b.2.2.2.2.2.2.2.2.2.2.2.2.2.2.2.2.1)=decide (rwd a=rwd b):=xm _ _;grind[apY,tZ,sQ,rrg,rwd,azy,aqm]
theorem axM:∀a:bR×bR,af (Pu a.1)=true→apY a=true:=fun a h=>(apo a h).1
theorem axN:∀a:bR×bR,af (Pu a.1)=true→aqm a=decide (a.1=a.2):=fun a h=>(apo a h).2
noncomputable def avD:dn:=⟨66,[.g bV,.g bV],[.v .bool],fun a:bR×bR=>af (Pu a.1),fun a:bR×bR=>decide (a.1=a.2)⟩
theorem atl:zO avD:=fl avY (eO []) [.tmp 4] mixed (ah OC (ah OB (aC))) Tryz.func66 (bp asm axM axN)
