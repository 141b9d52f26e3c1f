/- AI. -/
import Derived.Test.YtfggefeflojnkaaGreatEse
set_option linter.unusedSimpArgs false
set_option linter.unusedVariables false
open Go.IntKind (i64 u64)
namespace Go.AL
open Go.Proofs
abbrev bV:List Ty:=[zI,zI,zI,zI,zI,zI,zI,zI,zI,zI,zI,zI,zI,zI,zI,zI,zI,zI,zI,zI,.sl aE,zI,zI,zI,zI,zI,zI,.bool]
abbrev bR:=Int×Int×Int×Int×Int×Int×Int×Int×Int×Int×Int×Int×Int×Int×Int×Int×Int×Int×Int×Int×(List aj)×Int×Int×Int×Int×Int×Int×Bool
abbrev gJ:List Ty:=[zI,zI,zI,zI]
abbrev tm:=Int×Int×Int×Int
abbrev dH:List Ty:=sF
abbrev dv:=Int×Int
abbrev SCl:=Int×Int×Int×Int×Int×Int×Int×Int×Int×Int×Int×Int
abbrev bl:List Ty:=[.sl bg,.sl bV,.sl gJ,.sl sF,.sl aF,.sl aE]
abbrev ay:=(List aL)×(List bR)×(List tm)×(List Rg)×(List ag)×(List aj)
abbrev tP:List Ty:=[zI,zI,.bool]
abbrev eB:=Int×Int×Bool
noncomputable def Ht:cX:=zC [] (dE [(6,([(0,[]),(1,[]),(2,[]),(3,[]),(4,[]),(5,[]),(6,[]),(7,[]),(8,[])],[(17,25)]))]) 26
def vC:Nat→LD:=eO [(0,⟨[.rd 0 aE,.rd 1 aE,.c 5 (zI)],[],0⟩)]
noncomputable def QX(f:Nat)(a:(List aj)×(List aj)):Option Bool:=aG Ht vC (zK [.tmp 4] [.v .bool]) f [.code (aB Tryz.f37)] (aQ [.rd aE,.rd aE] a)
noncomputable def rE(f:Nat)(x:(List aj)×(List aj)×Int):Option Bool:=aG Ht vC (zK [.tmp 4] [.v .bool]) f (aV Tryz.f37 0) ((vC 0).mk' x)
theorem N9(f:Nat)(a:List aj)(b:List aj):QX (f+1) (a,b) =
  bif(↑a.length:Int) != (↑b.length:Int)then some false else rE f (a,b,0):=by kernel_rfl
theorem vK(f:Nat)(a:List aj)(b:List aj)(i:Int):rE (f+1) (a,b,i) =
  bif decide (i<(↑a.length:Int))then bif decide (0≤i)&&decide (i<(↑a.length:Int))then bif decide (0≤i)&&decide (i<(↑b.length:Int))then bif !((a.getD i.toNat (0,0,0)).1 == (b.getD i.toNat (0,0,0)).1&&((a.getD i.toNat (0,0,0)).2.1 == (b.getD i.toNat (0,0,0)).2.1&&((a.getD i.toNat (0,0,0)).2.2 == (b.getD i.toNat (0,0,0)).2.2&&true)))then some false else rE f (a,b,i64.wrap (i+1))else none else none else some true:=by kernel_rfl
noncomputable def xz:List aj→((List aj)×(List aj)×Nat)→Bool
 | [],(a,b,i)=>true
 | uu::rest,(a,b,i)=>bif !(uu.1 == (b.getD (↑i:Int).toNat (0,0,0)).1&&(uu.2.1 == (b.getD (↑i:Int).toNat (0,0,0)).2.1&&(uu.2.2 == (b.getD (↑i:Int).toNat (0,0,0)).2.2&&true)))then false else xz rest (a,b,i+1)
noncomputable def xt:List aj→((List aj)×(List aj)×Nat)→Bool
 | [],(a,b,i)=>true
 | uu::rest,(a,b,i)=>decide ((↑i:Int)<(↑b.length:Int))&&bif !(uu.1 == (b.getD (↑i:Int).toNat (0,0,0)).1&&(uu.2.1 == (b.getD (↑i:Int).toNat (0,0,0)).2.1&&(uu.2.2 == (b.getD (↑i:Int).toNat (0,0,0)).2.2&&true)))then true else xt rest (a,b,i+1)
theorem E9:∀(rest:List aj) (a:List aj) (b:List aj) (i:Nat) (hd:a.drop i=rest) (hl:a.length≤1099511627776),de (fun f=>rE f (a,b,((i:Nat):Int))) (xt rest (a,b,i)) (xz rest (a,b,i))
 | [],a,b,i,hd,hl=>ai (fun f=>(vK f _ _ _).trans (by simp only[fA (bT hd),fW,azP,azI]<;>rfl)) ae
 | uu::rest,a,b,i,hd,hl=>ai (fun f=>(vK f _ _ _).trans (by simp only[cK (ak hd),bC hd,bk (ak hd) hl,fW,azQ,azP,azH]<;>rfl)) (aI (ao ae (E9 rest _ _ _ (aH hd) hl)))
noncomputable def G9:((List aj)×(List aj))→Bool
 | (a,b)=>bif(↑a.length:Int) != (↑b.length:Int)then false else xz a (a,b,0)
noncomputable def GP:((List aj)×(List aj))→Bool
 | (a,b)=>bif(↑a.length:Int) != (↑b.length:Int)then true else decide (a.length≤1099511627776)&&xt a (a,b,0)
theorem Ms:∀a:(List aj)×(List aj),de (fun f=>QX f a) (GP a) (G9 a)
 | (a,b)=>ai (fun f=>N9 f _ _) (ao ae (bL fun hh=>E9 _ _ _ _ rfl (azZ hh)))
theorem afh:∀a:List aj×List aj,decide (a.2=[])=true→GP a=true:=fun a h=>by
 obtain⟨a,b⟩:=a;have h:b=[]:=azZ h;subst h;simp only[GP,zp];cases a with
 | nil=>rfl
 | cons x l=>simp
theorem afi:∀a:List aj×List aj,decide (a.2=[])=true→G9 a=decide (a.1=a.2):=fun a h=>by
 obtain⟨a,b⟩:=a;have h:b=[]:=azZ h;subst h;simp only[G9,zp];cases a with
 | nil=>rfl
 | cons x l=>simp
noncomputable def RY:dn:=⟨37,[.rd aE,.rd aE],[.v .bool],fun a:(List aj)×(List aj)=>decide (a.2=[]),fun a:(List aj)×(List aj)=>decide (a.1=a.2)⟩
theorem OE:zO RY:=fl Ht vC [.tmp 4] mixed (aC) Tryz.func37 (bp Ms afh afi)
noncomputable def Sf:cX:=zC [RY] (dE []) 24
noncomputable def QU(f:Nat)(a:cu×cu):Option Bool:=aG Sf (eO []) (zK [.tmp 4] [.v .bool]) f [.code (aB Tryz.f21)] (aQ [.g gA,.g gA] a)
theorem N6(f:Nat)(a:cu)(b:cu):QU (f+1) (a,b) =
  bif a.1 == b.1&&(a.2.1 == b.2.1&&(a.2.2.1 == b.2.2.1&&true))then bif a.2.2.2.2.1 == b.2.2.2.2.1&&(a.2.2.2.2.2.1 == b.2.2.2.2.2.1&&(a.2.2.2.2.2.2.1 == b.2.2.2.2.2.2.1&&(a.2.2.2.2.2.2.2.1 == b.2.2.2.2.2.2.2.1&&(a.2.2.2.2.2.2.2.2.1 == b.2.2.2.2.2.2.2.2.1&&(a.2.2.2.2.2.2.2.2.2.1 == b.2.2.2.2.2.2.2.2.2.1&&(a.2.2.2.2.2.2.2.2.2.2 == b.2.2.2.2.2.2.2.2.2.2&&true))))))then bif decide (b.2.2.2.1=[])then some (decide (a.2.2.2.1=b.2.2.2.1))else none else some false else some false:=by kernel_rfl
noncomputable def RJ:(cu×cu)→Bool
 | (a,b)=>bif a.1 == b.1&&(a.2.1 == b.2.1&&(a.2.2.1 == b.2.2.1&&true))then bif a.2.2.2.2.1 == b.2.2.2.2.1&&(a.2.2.2.2.2.1 == b.2.2.2.2.2.1&&(a.2.2.2.2.2.2.1 == b.2.2.2.2.2.2.1&&(a.2.2.2.2.2.2.2.1 == b.2.2.2.2.2.2.2.1&&(a.2.2.2.2.2.2.2.2.1 == b.2.2.2.2.2.2.2.2.1&&(a.2.2.2.2.2.2.2.2.2.1 == b.2.2.2.2.2.2.2.2.2.1&&(a.2.2.2.2.2.2.2.2.2.2 == b.2.2.2.2.2.2.2.2.2.2&&true))))))then decide (a.2.2.2.1=b.2.2.2.1)else false else false
noncomputable def GN:(cu×cu)→Bool
 | (a,b)=>bif a.1 == b.1&&(a.2.1 == b.2.1&&(a.2.2.1 == b.2.2.1&&true))then bif a.2.2.2.2.1 == b.2.2.2.2.1&&(a.2.2.2.2.2.1 == b.2.2.2.2.2.1&&(a.2.2.2.2.2.2.1 == b.2.2.2.2.2.2.1&&(a.2.2.2.2.2.2.2.1 == b.2.2.2.2.2.2.2.1&&(a.2.2.2.2.2.2.2.2.1 == b.2.2.2.2.2.2.2.2.1&&(a.2.2.2.2.2.2.2.2.2.1 == b.2.2.2.2.2.2.2.2.2.1&&(a.2.2.2.2.2.2.2.2.2.2 == b.2.2.2.2.2.2.2.2.2.2&&true))))))then decide (b.2.2.2.1=[])else true else true
theorem Mq:∀a:cu×cu,de (fun f=>QU f a) (GN a) (RJ a)
 | (a,b)=>ai (fun f=>N6 f _ _) (ao (ao (cS ae) ae) ae)
theorem afc:∀a:cu×cu,decide (a.2.2.2.2.1=[])=true→GN a=true:=fun a h=>by
 simp only[GN];exact GB (GB h)
theorem afd:∀a:cu×cu,decide (a.2.2.2.2.1=[])=true→RJ a=decide (a.1=a.2):=fun a h=>PO a.1 a.2
noncomputable def Hk:dn:=⟨21,[.g gA,.g gA],[.v .bool],fun a:cu×cu=>decide (a.2.2.2.2.1=[]),fun a:cu×cu=>decide (a.1=a.2)⟩
theorem OB:zO Hk:=fl Sf (eO []) [.tmp 4] mixed (ah OE (aC)) Tryz.func21 (bp Mq afc afd)
instance awk:DecidableEq SCl:=@instDecidableEqProd Int _ _ (@instDecidableEqProd Int _ _ (@instDecidableEqProd Int _ _ (@instDecidableEqProd Int _ _ (@instDecidableEqProd Int _ _ (@instDecidableEqProd Int _ _ (@instDecidableEqProd Int _ _ (@instDecidableEqProd Int _ _ (@instDecidableEqProd Int _ _ inferInstance))))))))
def tZ(r:bR):aj:=(r.1,r.2.1,r.2.2.1)
def sQ(r:bR):SCl:=(r.2.2.2.1,r.2.2.2.2.1,r.2.2.2.2.2.1,r.2.2.2.2.2.2.1,r.2.2.2.2.2.2.2.1,r.2.2.2.2.2.2.2.2.1,r.2.2.2.2.2.2.2.2.2.1,r.2.2.2.2.2.2.2.2.2.2.1,r.2.2.2.2.2.2.2.2.2.2.2.1,r.2.2.2.2.2.2.2.2.2.2.2.2.1,r.2.2.2.2.2.2.2.2.2.2.2.2.2.1,r.2.2.2.2.2.2.2.2.2.2.2.2.2.2.1)
def Xk(r:bR):cu:=(r.2.2.2.2.2.2.2.2.2.2.2.2.2.2.2.2.2.1,r.2.2.2.2.2.2.2.2.2.2.2.2.2.2.2.2.2.2.1,r.2.2.2.2.2.2.2.2.2.2.2.2.2.2.2.2.2.2.2.1,r.2.2.2.2.2.2.2.2.2.2.2.2.2.2.2.2.2.2.2.2.1,r.2.2.2.2.2.2.2.2.2.2.2.2.2.2.2.2.2.2.2.2.2.1,r.2.2.2.2.2.2.2.2.2.2.2.2.2.2.2.2.2.2.2.2.2.2.1,r.2.2.2.2.2.2.2.2.2.2.2.2.2.2.2.2.2.2.2.2.2.2.2.1,r.2.2.2.2.2.2.2.2.2.2.2.2.2.2.2.2.2.2.2.2.2.2.2.2.1,r.2.2.2.2.2.2.2.2.2.2.2.2.2.2.2.2.2.2.2.2.2.2.2.2.2.1,r.2.2.2.2.2.2.2.2.2.2.2.2.2.2.2.2.2.2.2.2.2.2.2.2.2.2.1,r.2.2.2.2.2.2.2.2.2.2.2.2.2.2.2.2.2.2.2.2.2.2.2.2.2.2.2)
def apm(i:aj)(k:SCl)(g w:Int)(n:cu):bR:=(i.1,i.2.1,i.2.2,k.1,k.2.1,k.2.2.1,k.2.2.2.1,k.2.2.2.2.1,k.2.2.2.2.2.1,k.2.2.2.2.2.2.1,k.2.2.2.2.2.2.2.1,k.2.2.2.2.2.2.2.2.1,k.2.2.2.2.2.2.2.2.2.1,k.2.2.2.2.2.2.2.2.2.2.1,k.2.2.2.2.2.2.2.2.2.2.2,g,w,n.1,n.2.1,n.2.2.1,n.2.2.2.1,n.2.2.2.2.1,n.2.2.2.2.2.1,n.2.2.2.2.2.2.1,n.2.2.2.2.2.2.2.1,n.2.2.2.2.2.2.2.2.1,n.2.2.2.2.2.2.2.2.2.1,n.2.2.2.2.2.2.2.2.2.2)
instance awi:DecidableEq bR:=@instDecidableEqProd Int _ _ (@instDecidableEqProd Int _ _ (@instDecidableEqProd Int _ _ (@instDecidableEqProd Int _ _ (@instDecidableEqProd Int _ _ (@instDecidableEqProd Int _ _ (@instDecidableEqProd Int _ _ (@instDecidableEqProd Int _ _ (@instDecidableEqProd Int _ _ (@instDecidableEqProd Int _ _ (@instDecidableEqProd Int _ _ (@instDecidableEqProd Int _ _ (@instDecidableEqProd Int _ _ (@instDecidableEqProd Int _ _ (@instDecidableEqProd Int _ _ (@instDecidableEqProd Int _ _ (@instDecidableEqProd Int _ _ (@instDecidableEqProd Int _ _ (@instDecidableEqProd Int _ _ (@instDecidableEqProd Int _ _ (@instDecidableEqProd (List aj) _ _ (@instDecidableEqProd Int _ _ (@instDecidableEqProd Int _ _ (@instDecidableEqProd Int _ _ (@instDecidableEqProd Int _ _ (@instDecidableEqProd Int _ _ inferInstance)))))))))))))))))))))))))
def Pu(r:bR):List aj:=r.2.2.2.2.2.2.2.2.2.2.2.2.2.2.2.2.2.2.2.2.1
def ke(l:List bR):Bool:=decide (l.length≤68719476736)&&l.all fun r=>af (Pu r)
theorem Bj{l:List bR}(h:ke l=true):l.length≤68719476736:=by
 simp only[ke,azF,azM]at h;exact h.1
theorem uq{l:List bR}(h:ke l=true){s:bR}(hs:s∈l):af (Pu s)=true:=by
 simp only[ke,azF]at h;exact azU.1 h.2 s hs
noncomputable def ad7:cX:=zC [ni] (dE []) 8
noncomputable def abG(f:Nat)(a:bR):Option bR:=aG ad7 (eO []) (zK [.cell 2 56] [.g bV]) f [.code (aB Tryz.f86)] (aQ [.g bV] a)
theorem U1(f:Nat)(r:bR):abG (f+1) r =
  bif af r.2.2.2.2.2.2.2.2.2.2.2.2.2.2.2.2.2.2.2.2.1 then some r else none:=by kernel_rfl
noncomputable def acI:bR→bR
 | r=>r
noncomputable def aaW:bR→Bool
 | r=>af r.2.2.2.2.2.2.2.2.2.2.2.2.2.2.2.2.2.2.2.2.1
theorem Ti:∀a:bR,de (fun f=>abG f a) (aaW a) (acI a)
 | r=>ai (fun f=>U1 f _) (cS ae)
theorem akU:∀a:bR,af (Pu a)=true→aaW a=true:=fun a h=>h
theorem akV:∀a:bR,af (Pu a)=true→acI a=a:=fun a h=>rfl
noncomputable def adl:dn:=⟨86,[.g bV],[.g bV],fun a:bR=>af (Pu a),fun a:bR=>a⟩
theorem VB:zO adl:=fl ad7 (eO []) [.cell 2 56] mixed (ah gR (aC)) Tryz.func86 (bp Ti akU akV)
noncomputable def OW:cX:=zC [adl] (dE []) 20
def Ac:Nat→LD:=eO [(0,⟨[.rd 0 bV,.list 3 999 56 28 bV,.c 4 (zI)],[],0⟩)]
noncomputable def abF(f:Nat)(a:(List bR)):Option ((List bR)):=aG OW Ac (zK [.tmp 2] [.o 56 28 bV]) f [.code (aB Tryz.f52)] (aQ [.rd bV] a)
noncomputable def vR(f:Nat)(x:(List bR)×(List bR)×Int):Option ((List bR)):=aG OW Ac (zK [.tmp 2] [.o 56 28 bV]) f (aV Tryz.f52 0) ((Ac 0).mk' x)
theorem U0(f:Nat)(l:List bR):abF (f+1) l =
  vR f (l,[],0):=by kernel_rfl
theorem yn(f:Nat)(l:List bR)(out:List bR)(i:Int):vR (f+1) (l,out,i) =
  bif decide (i<(↑l.length:Int))then bif decide (0≤i)&&decide (i<(↑l.length:Int))then bif af (Pu (l.getD i.toNat zq3))then bif decide ((out.length+[l.getD i.toNat zq3].length)*240≤140737488355328)then vR f (l,out++[l.getD i.toNat zq3],i64.wrap (i+1))else none else none else none else some out:=by kernel_rfl
noncomputable def lW:List bR→((List bR)×(List bR)×Nat)→(List bR)
 | [],(l,out,i)=>out
 | uu::rest,(l,out,i)=>lW rest (l,out++[uu],i+1)
noncomputable def qk:List bR→((List bR)×(List bR)×Nat)→Bool
 | [],(l,out,i)=>true
 | uu::rest,(l,out,i)=>af (Pu uu)&&(decide ((out.length+[uu].length)*240≤140737488355328)&&qk rest (l,out++[uu],i+1))
theorem LX:∀(rest:List bR) (l:List bR) (out:List bR) (i:Nat) (hd:l.drop i=rest) (hl:l.length≤1099511627776),de (fun f=>vR f (l,out,((i:Nat):Int))) (qk rest (l,out,i)) (lW rest (l,out,i))
 | [],l,out,i,hd,hl=>ai (fun f=>(yn f _ _ _).trans (by simp only[fA (bT hd),fW,azP,azI]<;>rfl)) ae
 | uu::rest,l,out,i,hd,hl=>ai (fun f=>(yn f _ _ _).trans (by simp only[cK (ak hd),bC hd,bk (ak hd) hl,fW,azQ,azH]<;>rfl)) (aI (aI (LX rest _ _ _ (aH hd) hl)))
noncomputable def Ow:(List bR)→(List bR)
 | l=>lW l (l,[],0)
noncomputable def N0:(List bR)→Bool
 | l=>decide (l.length≤1099511627776)&&qk l (l,[],0)
theorem Th:∀a:(List bR),de (fun f=>abF f a) (N0 a) (Ow a)
 | l=>ai (fun f=>U0 f _) (bL fun hh=>LX _ _ _ _ rfl (azZ hh))
theorem MG(l:List bR):∀(r out:List bR) (k:Nat),(∀e∈r,af (Pu e)=true)→out.length+r.length≤68719476736→lW r (l,out,k)=out++r∧qk r (l,out,k)=true
 | [],out,k,h,hl=>⟨by simp[lW],rfl⟩
 | u::r,out,k,h,hl=>by
  obtain⟨i1,i2⟩:=MG l r (out++[u]) (k+1) (fun e he=>h e (az6 _ he)) (by simp at hl ⊢;omega);have h1:af (Pu u)=true:=h u (az1 ..);simp only[azL]at hl;simp only[lW,qk,i1,i2,h1];exact⟨by simp,by simp only[azL,az2,aAt,azP,azM];omega⟩
theorem akS:∀a,ke a=true→N0 a=true:=fun a h=>by
 have:=Bj h;simp only[N0,(MG a a [] 0 (fun e he=>uq h he) (by simpa using this)).2,aAt];exact azC (by omega)
theorem akT:∀a,ke a=true→Ow a=a:=fun a h=>by
 simp only[Ow,(MG a a [] 0 (fun e he=>uq h he) (by simpa using Bj h)).1,aAs]
noncomputable def adk:dn:=⟨52,[.rd bV],[.o 56 28 bV],ke,fun a:(List bR)=>a⟩
theorem VA:zO adk:=fl OW Ac [.tmp 2] mixed (ah VB (aC)) Tryz.func52 (bp Th akS akT)
noncomputable def Hy:cX:=zC [] (dE []) 8
theorem Gj:jh Tryz.prog []:=aC
theorem ani(l:List bR):(aG Hy (fun _=>⟨[],[],0⟩) (zK [.tmp 2] [.o 56 28 bV]) 1 [.code (aB Tryz.f125)] (aQ [.rd bV] l):Option (eC [.o 56 28 bV]))=bif Decidable.decide (0<l.length)&&Bool.true then bif Decidable.decide ((([]:List Nat).length+l.length)*(bytesOf Tryz.prog 56)≤140737488355328)then some l else none else none:=by kernel_rfl
noncomputable def adn:dn:=⟨125,[.rd bV],[.o 56 28 bV],fun a=>wP (a:List bR),fun a=>(a:List bR)⟩
theorem VD:adn.Ok Tryz.prog:=fun a hp vs hv=>B3 (τ:=bV) (t:=56) (es:=28)
  (fun a h0 h1 vs hv=>iI (C:=Hy) (Lt:=fun _=>⟨[],[],0⟩) (fn:=Tryz.f125) (rs:=[.tmp 2]) [.rd bV] [.o 56 28 bV] mixed Gj Tryz.func125 rfl rfl rfl (by kernel_rfl) (by kernel_rfl) 1 ((ani a).trans (xX h0 h1 (by decide +kernel))) vs hv)
  (iI (C:=Hy) (Lt:=fun _=>⟨[],[],0⟩) (fn:=Tryz.f125) (rs:=[.tmp 2]) (a:=()) [.raw (.slice none 0 0)] [.o 56 28 bV] mixed Gj Tryz.func125 rfl rfl rfl (by kernel_rfl) (by kernel_rfl) 1 (by kernel_rfl) _ (by simp only[bY,ed,lZ];exact⟨_,rfl,rfl⟩))
  (fun b c=>iI (C:=Hy) (Lt:=fun _=>⟨[],[],0⟩) (fn:=Tryz.f125) (rs:=[.tmp 2]) (a:=()) [.raw (.slice (some b) 0 c)] [.o 56 28 bV] mixed Gj Tryz.func125 rfl rfl rfl (by kernel_rfl) (by kernel_rfl) 1 (by kernel_rfl) _ (by simp only[bY,ed,lZ];exact⟨_,rfl,rfl⟩))
  a (azZ hp) vs hv
noncomputable def O3:cX:=zC [adn,CY] (dE []) 24
def Ak:Nat→LD:=eO [(0,⟨[.list 3 999 56 28 bV,.c 8 (zI),.c 9 (zI)],[],0⟩)]
noncomputable def acf(f:Nat)(a:(List bR)):Option ((List bR)):=aG O3 Ak (zK [.tmp 2] [.o 56 28 bV]) f [.code (aB Tryz.f88)] (aQ [.rd bV] a)
noncomputable def vZ(f:Nat)(x:(List bR)×Int×Int):Option ((List bR)):=aG O3 Ak (zK [.tmp 2] [.o 56 28 bV]) f (aV Tryz.f88 0) ((Ak 0).mk' x)
theorem Vl(f:Nat)(l:List bR):acf (f+1) l =
  bif wP l then vZ f (l,(↑l.length:Int),0)else none:=by kernel_rfl
theorem yB(f:Nat)(out:List bR)(x8:Int)(x9:Int):vZ (f+1) (out,x8,x9) =
  bif decide (x9<x8)then bif decide (0≤x9)&&decide (x9<(↑out.length:Int))then bif af (out.getD x9.toNat zq3).2.2.2.2.2.2.2.2.2.2.2.2.2.2.2.2.2.2.2.2.1 then bif decide (0≤x9)&&decide (x9<(↑out.length:Int))then vZ f (out.set x9.toNat (out.getD x9.toNat zq3),x8,i64.wrap (x9+1))else none else none else none else some out:=by kernel_rfl
noncomputable def qM:List bR→((List bR)×Int×Nat)→(List bR)
 | [],(out,x8,x9)=>out
 | uu::rest,(out,x8,x9)=>qM rest (out.set (↑x9:Int).toNat uu,x8,x9+1)
noncomputable def qo:List bR→((List bR)×Int×Nat)→Bool
 | [],(out,x8,x9)=>true
 | uu::rest,(out,x8,x9)=>af uu.2.2.2.2.2.2.2.2.2.2.2.2.2.2.2.2.2.2.2.2.1&&qo rest (out.set (↑x9:Int).toNat uu,x8,x9+1)
theorem L0:∀(rest:List bR) (out:List bR) (x8:Int) (x9:Nat) (hd:out.drop x9=rest) (hn:x8=((out.length:Nat):Int)) (hl:out.length≤1099511627776),de (fun f=>vZ f (out,x8,((x9:Nat):Int))) (qo rest (out,x8,x9)) (qM rest (out,x8,x9))
 | [],out,x8,x9,hd,hn,hl=>ai (fun f=>(yB f _ _ _).trans (by simp only[iZ hn (bT hd),fW,azP,azI]<;>rfl)) ae
 | uu::rest,out,x8,x9,hd,hn,hl=>ai (fun f=>(yB f _ _ _).trans (by simp only[iW hn (ak hd),cK (ak hd),bC hd,bk (ak hd) hl,fW,azQ,azH]<;>rfl)) (aI (L0 rest _ _ _ (by first | exact aH hd | exact drop_set hd | exact bB (drop_set hd)) (by first | exact hn | simpa using hn) (by first | exact hl | simpa using hl)))
noncomputable def Oz:(List bR)→(List bR)
 | l=>qM l (l,(↑l.length:Int),0)
noncomputable def N4:(List bR)→Bool
 | l=>wP l&&(decide (l.length≤1099511627776)&&qo l (l,(↑l.length:Int),0))
theorem Up:∀a:(List bR),de (fun f=>acf f a) (N4 a) (Oz a)
 | l=>ai (fun f=>Vl f _) (aI (bL fun hh=>L0 _ _ _ _ rfl (by first | rfl | simp) (azZ hh)))
theorem NS(n:Int):∀(r:List bR) (out:List bR) (k:Nat),out.drop k=r→(∀e∈r,af (Pu e)=true)→qM r (out,n,k)=out∧qo r (out,n,k)=true
 | [],out,k,h,hl=>⟨rfl,rfl⟩
 | u::r,out,k,h,hl=>by
  obtain⟨i1,i2⟩:=NS n r out (k+1) (aH h) (fun e he=>hl e (az6 _ he));have h1:af u.2.2.2.2.2.2.2.2.2.2.2.2.2.2.2.2.2.2.2.2.1=true:=hl u (az1 ..);simp only[qM,qo,tW h,i1,i2,h1];exact⟨trivial,rfl⟩
theorem amZ:∀a,ke a=true→N4 a=true:=fun a h=>by
 have:=Bj h;simp only[N4,(NS _ a a 0 rfl (fun e he=>uq h he)).2,aAt,azF];exact⟨azC (by omega),azC (by omega)⟩
theorem am0:∀a,ke a=true→Oz a=a:=fun a h=>by
 simp only[Oz,(NS _ a a 0 rfl (fun e he=>uq h he)).1]
noncomputable def anv:dn:=⟨88,[.rd bV],[.o 56 28 bV],ke,fun a:(List bR)=>a⟩
theorem VP:zO anv:=fl O3 Ak [.tmp 2] mixed (ah VD (ah xA (aC))) Tryz.func88 (bp Up amZ am0)
open Go.Proofs
noncomputable def aiu:cX:=zC [] (dE []) 8
noncomputable def aih(f:Nat)(a:eB):Option Rg:=aG aiu (eO []) (zK [.cell 2 72] [.g sF]) f [.code (aB Tryz.f64)] (aQ [.g tP] a)
theorem agJ(f:Nat)(r:eB):aih (f+1) r =
  some (r.1,r.2.1):=by kernel_rfl
noncomputable def aim:eB→Rg
 | r=>(r.1,r.2.1)
noncomputable def aid:eB→Bool
 | r=>true
theorem agD:∀a:eB,de (fun f=>aih f a) (aid a) (aim a)
 | r=>ai (fun f=>agJ f _) ae
theorem apT:∀a:eB,(fun _=>true) a=true→aid a=true:=fun a _=>rfl
theorem apY:∀a:eB,(fun _=>true) a=true→aim a=(a.1,a.2.1):=fun a _=>rfl
noncomputable def air:dn:=⟨64,[.g tP],[.g sF],fun _=>true,fun a:eB=>(a.1,a.2.1)⟩
theorem ag2:zO air:=fl aiu (eO []) [.cell 2 72] mixed (aC) Tryz.func64 (bp agD apT apY)
def rgI(l:List eB)(r:Rg):Int:=bu (fun g=>contains ((g.1,g.2.1),r)) l 0
noncomputable def aiw:cX:=zC [air,R6] (dE [(4,([(0,[]),(1,[]),(2,[]),(3,[]),(5,[]),(4,[]),(6,[])],[(12,18)]))]) 20
def agq:Nat→LD:=eO [(0,⟨[.rd 0 tP,.box 3 3 72 2 sF,.c 5 (zI)],[],0⟩)]
noncomputable def apC(f:Nat)(a:(List eB)×Rg):Option Int:=aG aiw agq (zK [.tmp 4] [.v zI]) f [.code (aB Tryz.f22)] (aQ [.rd tP,.g sF] a)
noncomputable def aeE(f:Nat)(x:(List eB)×Rg×Int):Option Int:=aG aiw agq (zK [.tmp 4] [.v zI]) f (aV Tryz.f22 0) ((agq 0).mk' x)
theorem aii(f:Nat)(l:List eB)(r:Rg):apC (f+1) (l,r) =
  aeE f (l,r,0):=by kernel_rfl
theorem afw(f:Nat)(l:List eB)(r:Rg)(i:Int):aeE (f+1) (l,r,i) =
  bif decide (i<(↑l.length:Int))then bif decide (0≤i)&&decide (i<(↑l.length:Int))then bif contains (((l.getD i.toNat (0,0,false)).1,(l.getD i.toNat (0,0,false)).2.1),r)then some i else aeE f (l,r,i64.wrap (i+1))else none else some (-1):=by kernel_rfl
noncomputable def aeD:List eB→((List eB)×Rg×Nat)→Int
 | [],(l,r,i)=>-1
 | uu::rest,(l,r,i)=>bif contains ((uu.1,uu.2.1),r)then(↑i:Int)else aeD rest (l,r,i+1)
noncomputable def aeA:List eB→((List eB)×Rg×Nat)→Bool
 | [],(l,r,i)=>true
 | uu::rest,(l,r,i)=>bif contains ((uu.1,uu.2.1),r)then true else aeA rest (l,r,i+1)
theorem agC:∀(rest:List eB) (l:List eB) (r:Rg) (i:Nat) (hd:l.drop i=rest) (hl:l.length≤1099511627776),de (fun f=>aeE f (l,r,((i:Nat):Int))) (aeA rest (l,r,i)) (aeD rest (l,r,i))
 | [],l,r,i,hd,hl=>ai (fun f=>(afw f _ _ _).trans (by simp only[fA (bT hd),fW,azP,azI]<;>rfl)) ae
 | uu::rest,l,r,i,hd,hl=>ai (fun f=>(afw f _ _ _).trans (by simp only[cK (ak hd),bC hd,bk (ak hd) hl,fW,azQ,azH]<;>rfl)) (ao ae (agC rest _ _ _ (aH hd) hl))
noncomputable def ain:((List eB)×Rg)→Int
 | (l,r)=>aeD l (l,r,0)
noncomputable def aie:((List eB)×Rg)→Bool
 | (l,r)=>decide (l.length≤1099511627776)&&aeA l (l,r,0)
theorem ahC:∀a:(List eB)×Rg,de (fun f=>apC f a) (aie a) (ain a)
 | (l,r)=>ai (fun f=>aii f _ _) (bL fun hh=>agC _ _ _ _ rfl (azZ hh))
theorem ahH(l:List eB)(rr:Rg):∀(r:List eB) (k:Nat),aeD r (l,rr,k)=bu (fun g=>contains ((g.1,g.2.1),rr)) r k∧aeA r (l,rr,k)=true
 | [],k=>⟨rfl,rfl⟩
 | u::r,k=>by
  obtain⟨i1,i2⟩:=ahH l rr r (k+1);simp only[aeD,aeA,bu,i1,i2];constructor<;>(cases contains ((u.1,u.2.1),rr)<;>rfl)
theorem asb:∀a:List eB×Rg,af a.1=true→aie a=true:=fun a h=>by simp only[aie,(ahH _ _ _ _).2,aAt];exact h
theorem asc:∀a:List eB×Rg,af a.1=true→ain a=rgI a.1 a.2:=fun a h=>by simp only[ain,(ahH _ _ _ _).1];rfl
noncomputable def ait:dn:=⟨22,[.rd tP,.g sF],[.v zI],fun a:(List eB)×Rg=>af a.1,fun a:(List eB)×Rg=>rgI a.1 a.2⟩
theorem ais:zO ait:=fl aiw agq [.tmp 4] mixed (ah ag2 (ah OM (aC))) Tryz.func22 (bp ahC asb asc)
def rgP(l:List eB)(r:Rg):Int×Bool:=bif decide (rgI l r≥0)then(rgI l r,true)else(0,false)
noncomputable def aeb:cX:=zC [adM] (dE []) 24
def G2:Nat→LD:=eO [(0,⟨[.box 3 3 72 2 sF,.rd 8 tP,.c 9 (zI),.c 10 (zI)],[],0⟩)]
noncomputable def ai9(f:Nat)(a:(List eB)×Rg):Option (Int×Bool):=aG aeb G2 (zK [.tmp 4,.tmp 5] [.v zI,.v .bool]) f [.code (aB Tryz.f59)] (aQ [.rd tP,.g sF] a)
noncomputable def Ar(f:Nat)(x:Rg×(List eB)×Int×Int):Option (Int×Bool):=aG aeb G2 (zK [.tmp 4,.tmp 5] [.v zI,.v .bool]) f (aV Tryz.f59 0) ((G2 0).mk' x)
theorem abL(f:Nat)(l:List eB)(r:Rg):ai9 (f+1) (l,r) =
  Ar f (r,l,(↑l.length:Int),0):=by kernel_rfl
theorem CN(f:Nat)(r:Rg)(x8:List eB)(x9:Int)(dB:Int):Ar (f+1) (r,x8,x9,dB) =
  bif decide (dB<x9)then bif decide (0≤dB)&&decide (dB<(↑x8.length:Int))then bif contains (((x8.getD dB.toNat (0,0,false)).1,(x8.getD dB.toNat (0,0,false)).2.1),r)then some (dB,true)else Ar f (r,x8,x9,i64.wrap (dB+1))else none else some (0,false):=by kernel_rfl
noncomputable def wa:List eB→(Rg×(List eB)×Int×Nat)→Int×Bool
 | [],(r,x8,x9,dB)=>(0,false)
 | uu::rest,(r,x8,x9,dB)=>bif contains ((uu.1,uu.2.1),r)then((↑dB:Int),true)else wa rest (r,x8,x9,dB+1)
noncomputable def vv:List eB→(Rg×(List eB)×Int×Nat)→Bool
 | [],(r,x8,x9,dB)=>true
 | uu::rest,(r,x8,x9,dB)=>bif contains ((uu.1,uu.2.1),r)then true else vv rest (r,x8,x9,dB+1)
theorem Sw:∀(rest:List eB) (r:Rg) (x8:List eB) (x9:Int) (dB:Nat) (hd:x8.drop dB=rest) (hn:x9=((x8.length:Nat):Int)) (hl:x8.length≤1099511627776),de (fun f=>Ar f (r,x8,x9,((dB:Nat):Int))) (vv rest (r,x8,x9,dB)) (wa rest (r,x8,x9,dB))
 | [],r,x8,x9,dB,hd,hn,hl=>ai (fun f=>(CN f _ _ _ _).trans (by simp only[iZ hn (bT hd),fW,azP,azI]<;>rfl)) ae
 | uu::rest,r,x8,x9,dB,hd,hn,hl=>ai (fun f=>(CN f _ _ _ _).trans (by simp only[iW hn (ak hd),cK (ak hd),bC hd,bk (ak hd) hl,fW,azQ,azH]<;>rfl)) (ao ae (Sw rest _ _ _ _ (aH hd) (by first | exact hn | simpa using hn) hl))
noncomputable def acK:((List eB)×Rg)→Int×Bool
 | (l,r)=>wa l (r,l,(↑l.length:Int),0)
noncomputable def aaZ:((List eB)×Rg)→Bool
 | (l,r)=>decide (l.length≤1099511627776)&&vv l (r,l,(↑l.length:Int),0)
theorem XK:∀a:(List eB)×Rg,de (fun f=>ai9 f a) (aaZ a) (acK a)
 | (l,r)=>ai (fun f=>abL f _ _) (bL fun hh=>Sw _ _ _ _ _ rfl (by first | rfl | simp) (azZ hh))
theorem XL(l:List eB)(n:Int)(rr:Rg):∀(r:List eB) (k:Nat),wa r (rr,l,n,k)=(bif decide (bu (fun g=>contains ((g.1,g.2.1),rr)) r k≥0)then(bu (fun g=>contains ((g.1,g.2.1),rr)) r k,true)else(0,false))∧vv r (rr,l,n,k)=true
 | [],k=>⟨rfl,rfl⟩
 | u::r,k=>by
  obtain⟨i1,i2⟩:=XL l n rr r (k+1);simp only[wa,vv,bu,i1,i2];rcases Bool.eq_false_or_eq_true (contains ((u.1,u.2.1),rr))with hc | hc
  ·simp only[hc,azH,azC (show((k:Nat):Int)≥0 by omega),and_self]
  ·simp only[hc,azI]
   exact⟨rfl,trivial⟩
theorem ao2:∀a:List eB×Rg,af a.1=true→aaZ a=true:=fun a h=>by simp only[aaZ,(XL _ _ _ _ _).2,aAt];exact h
theorem ao3:∀a:List eB×Rg,af a.1=true→acK a=rgP a.1 a.2:=fun a h=>by simp only[acK,(XL _ _ _ _ _).1];rfl
noncomputable def art:dn:=⟨59,[.rd tP,.g sF],[.v zI,.v .bool],fun a:(List eB)×Rg=>af a.1,fun a:(List eB)×Rg=>rgP a.1 a.2⟩
theorem adr:zO art:=fl aeb G2 [.tmp 4,.tmp 5] mixed (ah VO (aC)) Tryz.func59 (bp XK ao2 ao3)
open Go.Proofs
open Go.Proofs
abbrev Jp:List Ty:=[zI,.sl [zI],.sl [zI]]
abbrev jf:=Int×(List Int)×(List Int)
abbrev eG:List Ty:=[zI,zI,.sl [zI],.sl [zI],.sl bg,.sl bV,.sl gJ,.sl dH,.sl aF,.sl aE,.bool,zI,.sl [zI],.sl [zI],.sl bg,.sl bV,.sl gJ,.sl dH,.sl aF,.sl aE]
abbrev cC:=Int×Int×(List Int)×(List Int)×(List aL)×(List bR)×(List tm)×(List dv)×(List ag)×(List aj)×Bool×Int×(List Int)×(List Int)×(List aL)×(List bR)×(List tm)×(List dv)×(List ag)×(List aj)
def qf:List aj→aj→List aj
 | [],id=>[id]
 | u::r,id=>bif cw (u,id)then u::qf r id else bif decide (u=id)then u::r else id::u::r
theorem Lj(id:aj):∀r:List aj,(qf r id).length≤r.length+1
 | []=>azJ _
 | u::r=>by
  have:=Lj id r;simp only[qf];cases cw (u,id)<;>cases decide (u=id)<;>simp only[azH,azI,azL]<;>omega
def nY(s:aL):aL:=Ys (snd s) (Ju s) (0,0,0)
def oe(l:List aL)(d:List aj):List aL:=d.foldl (fun l id=>(tS (l,id)).1) l
theorem Pm{l:List aL}(id:aj)(h:ct l=true):ct (tS (l,id)).1=true:=by
 refine uo (by simpa [tS]using fD h) fun s hs=>?_
 obtain⟨x,hx,rfl⟩:=az4.1 (show s∈l.map (nw id)from hs);show af (nw id x).2.2.2.1=true;unfold nw;cases sH id x
 ·exact gk h hx
 ·rfl
def Fq(l:List aL)(r:bR):Bool:=decide (0≤(sQ r).2.1)&&(decide ((sQ r).2.1<(l.length:Nat))&&(!cB (l.getD (sQ r).2.1.toNat iR)&&decide (xH (l.getD (sQ r).2.1.toNat iR)=jm (Xk r))))
def ij(h:aj→Bool)(l:List aL)(r:bR)(d:List aj)(m:List Int):Int×Bool:=
 bif decide ((sQ r).1=6)then(0,cJ (tZ r) d)
 else bif decide ((sQ r).1=4)then(bif h ((tZ r).1,(tZ r).2.1,0)then(0,true)else(10,Fq l r&&!cJ (sQ r).2.2.2.1 m))
 else(0,false)
def jL(all:List ay)(id:aj):Bool:=all.any fun s=>s.1.any (ZC id)
def uB(a b:dv):Bool:=decide (a.1<b.1)
theorem XT:qt uB:=⟨fun a b h=>by simp only[uB,azM,aB6]at *;omega,fun a b c h1 h2=>by simp only[uB,aB6]at *;omega⟩
open Go.Proofs
abbrev rR(r:cC):List tm:=r.2.2.2.2.2.2.1
def aX(l:List cC):List aj:=l.foldl (fun o r=>(rR r).foldl (fun o m=>qf o m.2) o) []
def xe(l:List cC):Bool:=decide (l.length≤100)&&l.all fun r=>decide ((rR r).length≤1000)
theorem KO:∀(m:List tm) (o:List aj),(m.foldl (fun o m=>qf o m.2) o).length≤o.length+m.length
 | [],o=>azJ _
 | x::m,o=>by
  have h1:=KO m (qf o x.2);have h2:=Lj x.2 o;simp only[aAN,azL];omega
def og(h:aj→Bool)(d:List aj)(m:List Int):List bR→List aL→List bR→List dv→List aL×List bR×List dv
 | [],l,left,an=>(l,left,an)
 | r::q,l,left,an=>bif(ij h l r d m).2 then og h d m q (ny (l,(tZ r).2.1)) left (an++[((tZ r).2.1,(ij h l r d m).1)])else og h d m q l (left++[r]) an
def sJ(h:aj→Bool)(d:List aj)(m:List Int)(s:ay):ay:=((og h d m s.2.1 s.1 [] []).1,(og h d m s.2.1 s.1 [] []).2.1,s.2.2.1,ca uB (og h d m s.2.1 s.1 [] []).2.2,s.2.2.2.2)
theorem PD{l:List aL}(op:Int)(h:ct l=true):ct (ny (l,op))=true:=by
 refine uo (by simpa [ny]using fD h) fun s hs=>?_
 obtain⟨x,hx,rfl⟩:=az4.1 (show s∈l.map (mg op)from hs);show af (mg op x).2.2.2.1=true;unfold mg;have h2:af x.2.2.2.1=true:=gk h hx;cases decide (Ju x=op)
 ·exact h2
 ·exact h2
def iK(e:ag):Rg:=(e.2.2.2.2.2.2.2.1,e.2.2.2.2.2.2.2.2.1)
def iG(rs:List eB)(ow:List Int)(c:Int)(e:ag):Bool:=decide (0≤rgI rs (iK e))&&(decide (rgI rs (iK e)<(ow.length:Nat))&&decide (ow.getD (rgI rs (iK e)).toNat 0=c))
def XS(rs:List eB)(ow:List Int)(c:Int):List (ay×Int)→List ag→List ag
 | [],out=>out
 | (s,m)::r,out=>XS rs ow c r (((jQ (s.1,m)).filter (iG rs ow c)).foldl (fun s x=>cA cj x s) out)
theorem Ei:∀(l out:List ag),(l.foldl (fun s x=>cA cj x s) out).length=out.length+l.length
 | [],out=>rfl
 | x::l,out=>by rw[aAN,Ei l,oJ,azL];omega
theorem BY(l:List aL)(c:Int):(jQ (l,c)).length≤l.length:=by
 have h1:=KG c l 0;have h2:=Ei (wZ c l 0) [];show(ca cj (wZ c l 0)).length≤_;unfold ca;rw[h2];simpa using h1
def MR(a:List eB×List ay×Int×jf):List ag:=XS a.1 a.2.2.2.2.2 (a.2.2.2.2.1.getD a.2.2.1.toNat 0) (a.2.1.zip a.2.2.2.2.1) []
open Go.Proofs
def iU(au:Int)(ab:List cC)(d:List aj)(c:Int):ay:=
 bif decide (bu (fun q=>decide (q.1=c)) ab 0<0)then(List.replicate (max au 0).toNat iR,[],[],[],[],d)
 else((oe (ab.getD (bu (fun q=>decide (q.1=c)) ab 0).toNat zq5).2.2.2.2.1 d).map nY,(ab.getD (bu (fun q=>decide (q.1=c)) ab 0).toNat zq5).2.2.2.2.2.1,[],[],[],d)
def AZ(r:cC):Bool:=ct r.2.2.2.2.1&&(decide (r.2.2.2.2.1.length≤1000000)&&(ke r.2.2.2.2.2.1&&decide (r.2.2.2.2.2.1.length≤1000000)))
theorem zg(h:aj→Bool)(d:List aj)(m:List Int):∀(q:List bR) (l:List aL) (left:List bR) (an:List dv),ct l=true→ct (og h d m q l left an).1=true∧(og h d m q l left an).1.length=l.length
 | [],l,left,an,hl=>⟨hl,rfl⟩
 | r::q,l,left,an,hl=>by
  simp only[og];cases (ij h l r d m).2
  ·exact zg h d m q l _ an hl
  ·obtain⟨h1,h2⟩:=zg h d m q (ny (l,(tZ r).2.1)) left (an++[((tZ r).2.1,(ij h l r d m).1)]) (PD _ hl)
   exact⟨h1,h2.trans (by simp[ny])⟩
def SK(s:ay):Bool:=ct s.1&&(decide (s.1.length≤1000000)&&decide (s.2.1.length≤1000000))
theorem WT{h:aj→Bool}{d:List aj}{m:List Int}{s:ay}(hs:SK s=true):ct (sJ h d m s).1=true∧(sJ h d m s).1.length≤1000000:=by
 simp only[SK,azF,azM]at hs;obtain⟨h1,h2⟩:=zg h d m s.2.1 s.1 [] [] hs.1;exact⟨h1,by show(og h d m s.2.1 s.1 [] []).1.length≤_;omega⟩
def BZ(rs:List eB)(v:jf)(all:List ay):List ay→Nat→List ay
 | [],_=>[]
 | s::r,k=>(s.1,s.2.1,s.2.2.1,s.2.2.2.1,MR (rs,all,((k:Nat):Int),v),s.2.2.2.2.2)::BZ rs v all r (k+1)
theorem KH(rs:List eB)(v:jf)(all:List ay):∀(r:List ay) (k:Nat),(BZ rs v all r k).length=r.length
 | [],k=>rfl
 | s::r,k=>by simp only[BZ,azL,KH rs v all r]
theorem KJ(rs:List eB)(v:jf)(all:List ay):∀(r:List ay) (k:Nat),(BZ rs v all r k).map (·.1)=r.map (·.1)
 | [],k=>rfl
 | s::r,k=>by simp only[BZ,aAy,KJ rs v all r]
def FG(a:List eB×Int×List cC×jf):Bool:=xe a.2.2.1&&((a.2.2.1.all AZ)&&(decide (a.2.1≤1000000)&&(af a.1&&decide (a.2.2.2.2.1.length≤100))))
def gi(a:List eB×Int×List cC×jf):List ay:=
 (fun o=>(fun o2=>BZ a.1 a.2.2.2 o2 o2 0) (o.map (sJ (jL o) (aX a.2.2.1) a.2.2.2.2.1))) (a.2.2.2.2.1.map (iU a.2.1 a.2.2.1 (aX a.2.2.1)))
theorem oU(l:List cC)(h:xe l=true):(aX l).length≤100000:=by
 simp only[xe,azF,azM]at h;have key:∀(r:List cC) (o:List aj),(∀x∈r,(rR x).length≤1000)→(r.foldl (fun o r=>(rR r).foldl (fun o m=>qf o m.2) o) o).length≤o.length+1000*r.length:=by
  intro r;induction r with
  | nil=>intro o _;simp
  | cons x r ih=>
   intro o hx;have h1:=KO (rR x) o;have h2:=hx x (az1 ..);have h3:=ih ((rR x).foldl (fun o m=>qf o m.2) o) (fun y hy=>hx y (az6 _ hy));simp only[aAN,azL];omega
 have:=key l [] (fun x hx=>by have:=azU.1 h.2 x hx;simpa using this);simp only[az2]at this;show(aX l).length≤_;unfold aX;omega
theorem MB{au:Int}{ab:List cC}{d:List aj}(hs:au≤1000000)(hp:∀r∈ab,AZ r=true)(c:Int):SK (iU au ab d c)=true:=by
 have hsw:∀(d:List aj) (l:List aL),ct l=true→ct (oe l d)=true∧(oe l d).length=l.length:=by
  intro d;induction d with
  | nil=>intro l h;exact⟨h,rfl⟩
  | cons x d ih=>
   intro l h;obtain⟨h1,h2⟩:=ih (tS (l,x)).1 (Pm x h);exact⟨h1,h2.trans (by simp[tS])⟩
 have hul:∀l:List aL,ct l=true→ct (l.map nY)=true:=fun l h=>uo (by simpa using fD h) fun s hs=>by
  obtain⟨x,hx,rfl⟩:=az4.1 hs;have h2:af x.2.2.2.1=true:=gk h hx;exact h2
 by_cases h0:bu (fun q=>decide (q.1=c)) ab 0<0
 ·simp only[iU,azC h0,azH,SK,azF,azM]
  refine⟨uo (by simp;omega) fun s hs=>?_,by simp;omega,by simp⟩;rw[(aBH.1 hs).2];rfl
 ·have bO:bu (fun q:cC=>decide (q.1=c)) ab 0<0+(ab.length:Nat):=jO _ ab 0 (aBl 0)
  have hm:=hp (ab.getD (bu (fun q=>decide (q.1=c)) ab 0).toNat zq5) (by
   rw[aAm,azS (by omega)];exact aBC _)
  simp only[AZ,azF,azM]at hm;obtain⟨h1,h2⟩:=hsw d _ hm.1;simp only[iU,azK h0,azI,SK,azF,azM];exact⟨hul _ h1,by rw[aA7,h2];exact hm.2.1,hm.2.2.2⟩
open Go.Proofs
def vf:aj→List aj→List aj
 | _,[]=>[]
 | x,y::r=>bif decide (y=x)then vf x r else y::vf y r
def nD:List aj→List aj
 | []=>[]
 | x::r=>x::vf x r
def yK(a b:aj):Bool:=cw (a,b)
theorem ao8:qt yK:=⟨fun a b h=>BA h,fun a b c h1 h2=>by
 unfold yK at *;cases h:cw (c,a)with
 | false=>rfl
 | true=>
  by_cases hab:a=b
  ·subst hab;rw[h]at h2;cases h2
  ·have:=mn h1 (fun e=>hab e.symm)
   rw[jG h this]at h2;cases h2⟩
def Asc(l:List aj):Prop:=l.Pairwise fun a b=>cw (a,b)=true
theorem Asc.eq:∀{a b:List aj},Asc a→Asc b→(∀x,x∈a↔x∈b)→a=b
 | [],[],_,_,_=>rfl
 | [],y::b,_,_,h=>absurd ((h y).2 az1) (by simp)
 | x::a,[],_,_,h=>absurd ((h x).1 az1) (by simp)
 | x::a,y::b,ha,hb,h=>by
  have ha':=aAq.1 ha;have gW:=aAq.1 hb;have uH:x=y:=by
   rcases azW.1 ((h x).1 az1)with e | e
   ·exact e
   ·rcases azW.1 ((h y).2 az1)with e2 | e2
    ·exact e2.symm
    ·have h1:=ha'.1 y e2
     have h2:=gW.1 x e;rw[BA h1]at h2;cases h2
  subst uH;rw[Asc.eq ha'.2 gW.2 fun z=>?_];have:=h z;simp only[azW]at this;constructor
  ·intro hz
   rcases this.1 (.inr hz)with e | e
   ·subst e;have:=ha'.1 z hz;rw[im]at this;cases this
   ·exact e
  ·intro hz
   rcases this.2 (.inr hz)with e | e
   ·subst e;have:=gW.1 z hz;rw[im]at this;cases this
   ·exact e
theorem Bq(id:aj):∀(l:List aj) (x:aj),x∈qf l id↔x=id∨x∈l
 | [],x=>by simp[qf]
 | u::r,x=>by
  have ih:=Bq id r x;simp only[qf];cases cw (u,id)with
  | true=>simp only[azH,azW,ih];constructor<;>(intro h;rcases h with h | h | h<;>simp[h])
  | false=>
   by_cases hu:u=id
   ·rw[azC hu];simp only[azH,azI,azW,hu];constructor
    ·exact .inr
    ·rintro(h | h)
     ·exact .inl h
     ·exact h
   ·rw[azK hu];simp only[azI,azW]
theorem K5(id:aj):∀l:List aj,Asc l→Asc (qf l id)
 | [],_=>List.pairwise_singleton _ _
 | u::r,h=>by
  have h':=aAq.1 h;simp only[qf];cases hl:cw (u,id)with
  | true=>
   refine aAq.2 ⟨fun x hx=>?_,K5 id r h'.2⟩;rcases(Bq id r x).1 hx with rfl | hx
   ·exact hl
   ·exact h'.1 x hx
  | false=>
   by_cases hu:u=id
   ·rw[azC hu];exact h
   ·rw[azK hu]
    have h1:=mn hl hu;refine aAq.2 ⟨fun x hx=>?_,h⟩;rcases azW.1 hx with rfl | hx
    ·exact h1
    ·exact jG h1 (h'.1 x hx)
theorem K4:∀(l o:List aj),Asc o→Asc (l.foldl qf o)
 | [],o,h=>h
 | x::l,o,h=>K4 l _ (K5 x o h)
theorem Bo:∀(l o:List aj) (x:aj),x∈l.foldl qf o↔x∈o∨x∈l
 | [],o,x=>by simp
 | y::l,o,x=>by
  rw[aAN,Bo l,Bq,azW];constructor
  ·rintro((h | h) | h)<;>simp[h]
  ·rintro(h | h | h)<;>simp[h]
theorem Bp:∀(l:List aj) (x z:aj),(z=x∨z∈vf x l)↔(z=x∨z∈l)
 | [],x,z=>by simp[vf]
 | y::r,x,z=>by
  simp only[vf];by_cases h:y=x
  ·rw[azC h]
   subst h;rw[azH,Bp r y z,azW];constructor
   ·rintro(h | h)<;>simp[h]
   ·rintro(h | h | h)<;>simp[h]
  ·rw[azK h,azI,azW,azW]
   have:=Bp r y z;constructor
   ·rintro(h | h)
    ·exact .inl h
    ·exact .inr (this.1 h)
   ·rintro(h | h)
    ·exact .inl h
    ·exact .inr (this.2 h)
theorem CA:∀(l:List aj) (x:aj),dD yK (x::l)→Asc (x::vf x l)
 | [],x,_=>List.pairwise_singleton _ _
 | y::r,x,h=>by
  have h1:=aAq.1 h;have h2:=aAq.1 h1.2;simp only[vf];by_cases hy:y=x
  ·rw[azC hy]
   subst hy;exact CA r y h1.2
  ·rw[azK hy,azI]
   have h3:=CA r y h1.2;have uH:cw (x,y)=true:=mn (h1.1 y az1) hy;refine aAq.2 ⟨fun z hz=>?_,h3⟩;rcases azW.1 hz with rfl | hz
   ·exact uH
   ·exact jG uH ((aAq.1 h3).1 z hz)
theorem aai(l:List aj):nD (ca yK l)=l.foldl qf []:=by
 have hs:=jy ao8 l;have hp:=lb (lt:=yK) l;refine Asc.eq ?_ (K4 l [] .nil) fun x=>?_
 ·cases hq:ca yK l with
  | nil=>exact .nil
  | cons x r=>rw[hq]at hs;exact CA r x hs
 ·rw[Bo]
  cases hq:ca yK l with
  | nil=>
   rw[hq]at hp;have:l=[]:=hp.symm.eq_nil;subst this;simp[nD]
  | cons y r=>
   rw[hq]at hp;rw[← hp.mem_iff];simp only[nD,azW,aB4,false_or];exact Bp r y x
def allM(l:List cC):List aj:=l.flatMap fun r=>(rR r).map (·.2)
theorem KN(l:List cC):aX l=(allM l).foldl qf []:=by
 unfold aX allM;generalize ([]:List aj)=o;induction l generalizing o with
 | nil=>rfl
 | cons r l ih=>
  rw[aAN,aBO,aBU,ih]
  congr 1
  rw[List.foldl_map]
theorem Gk(l:List cC):nD (ca yK (allM l))=aX l:=by rw[aai,KN]
