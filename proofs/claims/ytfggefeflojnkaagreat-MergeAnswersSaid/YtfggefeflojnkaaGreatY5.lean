/- By an AI agent. -/
import Derived.Test.YtfggefeflojnkaaGreatEse
set_option linter.unusedSimpArgs false
set_option linter.unusedVariables false
set_option linter.unusedSectionVars false
open Go.IntKind (i64 u64)
namespace Go.AL
open Go.Proofs
abbrev bV:List Ty:=[zI,zI,zI,zI,zI,zI,zI,zI,zI,zI,zI,zI,zI,zI,zI,zI,zI,zI,zI,zI,.sl aE,zI,zI,zI,zI,zI,zI,.bool]
abbrev bR:=Int×Int×Int×Int×Int×Int×Int×Int×Int×Int×Int×Int×Int×Int×Int×Int×Int×Int×Int×Int×(List aj)×Int×Int×Int×Int×Int×Int×Bool
abbrev gJ:List Ty:=[zI,zI,zI,zI]
abbrev tm:=Int×Int×Int×Int
abbrev dH:List Ty:=sF
abbrev dv:=Int×Int
abbrev SCl:=Int×Int×Int×Int×Int×Int×Int×Int×Int×Int×Int×Int
abbrev bl:List Ty:=[.sl bg,.sl bV,.sl gJ,.sl sF,.sl aF,.sl aE]
abbrev ay:=(List aL)×(List bR)×(List tm)×(List Rg)×(List ag)×(List aj)
abbrev tP:List Ty:=[zI,zI,.bool]
abbrev eB:=Int×Int×Bool
instance awk:DecidableEq SCl:=@instDecidableEqProd Int _ _ (@instDecidableEqProd Int _ _ (@instDecidableEqProd Int _ _ (@instDecidableEqProd Int _ _ (@instDecidableEqProd Int _ _ (@instDecidableEqProd Int _ _ (@instDecidableEqProd Int _ _ (@instDecidableEqProd Int _ _ (@instDecidableEqProd Int _ _ inferInstance))))))))
def tZ(r:bR):aj:=(r.1,r.2.1,r.2.2.1)
def sQ(r:bR):SCl:=(r.2.2.2.1,r.2.2.2.2.1,r.2.2.2.2.2.1,r.2.2.2.2.2.2.1,r.2.2.2.2.2.2.2.1,r.2.2.2.2.2.2.2.2.1,r.2.2.2.2.2.2.2.2.2.1,r.2.2.2.2.2.2.2.2.2.2.1,r.2.2.2.2.2.2.2.2.2.2.2.1,r.2.2.2.2.2.2.2.2.2.2.2.2.1,r.2.2.2.2.2.2.2.2.2.2.2.2.2.1,r.2.2.2.2.2.2.2.2.2.2.2.2.2.2.1)
def Xk(r:bR):cu:=(r.2.2.2.2.2.2.2.2.2.2.2.2.2.2.2.2.2.1,r.2.2.2.2.2.2.2.2.2.2.2.2.2.2.2.2.2.2.1,r.2.2.2.2.2.2.2.2.2.2.2.2.2.2.2.2.2.2.2.1,r.2.2.2.2.2.2.2.2.2.2.2.2.2.2.2.2.2.2.2.2.1,r.2.2.2.2.2.2.2.2.2.2.2.2.2.2.2.2.2.2.2.2.2.1,r.2.2.2.2.2.2.2.2.2.2.2.2.2.2.2.2.2.2.2.2.2.2.1,r.2.2.2.2.2.2.2.2.2.2.2.2.2.2.2.2.2.2.2.2.2.2.2.1,r.2.2.2.2.2.2.2.2.2.2.2.2.2.2.2.2.2.2.2.2.2.2.2.2.1,r.2.2.2.2.2.2.2.2.2.2.2.2.2.2.2.2.2.2.2.2.2.2.2.2.2.1,r.2.2.2.2.2.2.2.2.2.2.2.2.2.2.2.2.2.2.2.2.2.2.2.2.2.2.1,r.2.2.2.2.2.2.2.2.2.2.2.2.2.2.2.2.2.2.2.2.2.2.2.2.2.2.2)
def apm(i:aj)(k:SCl)(g w:Int)(n:cu):bR:=(i.1,i.2.1,i.2.2,k.1,k.2.1,k.2.2.1,k.2.2.2.1,k.2.2.2.2.1,k.2.2.2.2.2.1,k.2.2.2.2.2.2.1,k.2.2.2.2.2.2.2.1,k.2.2.2.2.2.2.2.2.1,k.2.2.2.2.2.2.2.2.2.1,k.2.2.2.2.2.2.2.2.2.2.1,k.2.2.2.2.2.2.2.2.2.2.2,g,w,n.1,n.2.1,n.2.2.1,n.2.2.2.1,n.2.2.2.2.1,n.2.2.2.2.2.1,n.2.2.2.2.2.2.1,n.2.2.2.2.2.2.2.1,n.2.2.2.2.2.2.2.2.1,n.2.2.2.2.2.2.2.2.2.1,n.2.2.2.2.2.2.2.2.2.2)
instance awi:DecidableEq bR:=@instDecidableEqProd Int _ _ (@instDecidableEqProd Int _ _ (@instDecidableEqProd Int _ _ (@instDecidableEqProd Int _ _ (@instDecidableEqProd Int _ _ (@instDecidableEqProd Int _ _ (@instDecidableEqProd Int _ _ (@instDecidableEqProd Int _ _ (@instDecidableEqProd Int _ _ (@instDecidableEqProd Int _ _ (@instDecidableEqProd Int _ _ (@instDecidableEqProd Int _ _ (@instDecidableEqProd Int _ _ (@instDecidableEqProd Int _ _ (@instDecidableEqProd Int _ _ (@instDecidableEqProd Int _ _ (@instDecidableEqProd Int _ _ (@instDecidableEqProd Int _ _ (@instDecidableEqProd Int _ _ (@instDecidableEqProd Int _ _ (@instDecidableEqProd (List aj) _ _ (@instDecidableEqProd Int _ _ (@instDecidableEqProd Int _ _ (@instDecidableEqProd Int _ _ (@instDecidableEqProd Int _ _ (@instDecidableEqProd Int _ _ inferInstance)))))))))))))))))))))))))
def Pu(r:bR):List aj:=r.2.2.2.2.2.2.2.2.2.2.2.2.2.2.2.2.2.2.2.2.1
def ke(l:List bR):Bool:=decide (l.length≤68719476736)&&l.all fun r=>af (Pu r)
theorem Bj{l:List bR}(h:ke l=true):l.length≤68719476736:=by
 simp only[ke,azF,azM]at h;exact h.1
theorem uq{l:List bR}(h:ke l=true){s:bR}(hs:s∈l):af (Pu s)=true:=by
 simp only[ke,azF]at h;exact azU.1 h.2 s hs
noncomputable def ad7:cX:=zC [ni] (dE []) 8
def Rm:Nat→LD:=eO []
noncomputable def abG(f:Nat)(a:bR):Option (bR):=aG (ad7) Rm (zK [.cell 2 56] [.g bV]) f [.code (aB Tryz.f86)] (aQ [.g bV] a)
theorem U1(f:Nat)(r:bR):abG (f+1) r =
  bif af r.2.2.2.2.2.2.2.2.2.2.2.2.2.2.2.2.2.2.2.2.1 then some r else none:=by kernel_rfl
noncomputable def acI:bR→bR
 | r=>r
noncomputable def aaW:bR→Bool
 | r=>af r.2.2.2.2.2.2.2.2.2.2.2.2.2.2.2.2.2.2.2.2.1
theorem Ti:∀a:bR,de (fun f=>abG f a) (aaW a) (acI a)
 | r=>ai (fun f=>U1 f _) (cS ae)
theorem akU:∀a:bR,af (Pu a)=true→aaW a=true:=fun a h=>h
theorem akV:∀a:bR,af (Pu a)=true→acI a=a:=fun a h=>rfl
noncomputable def adl:dn:=⟨86,[.g bV],[.g bV],fun a:bR=>af (Pu a),fun a:bR=>a⟩
theorem VB:zO adl:=fl ad7 Rm [.cell 2 56] mixed (ah gR (aC)) Tryz.func86 (bp Ti akU akV)
noncomputable def OW:cX:=zC [adl] (dE []) 20
def Ac:Nat→LD:=eO [(0,⟨[.rd 0 bV,.list 3 999 56 28 bV,.c 4 (zI)],[],0⟩)]
noncomputable def abF(f:Nat)(a:(List (bR))):Option ((List (bR))):=aG (OW) Ac (zK [.tmp 2] [.o 56 28 bV]) f [.code (aB Tryz.f52)] (aQ [.rd bV] a)
noncomputable def vR(f:Nat)(x:(List (bR))×(List (bR))×Int):Option ((List (bR))):=aG (OW) Ac (zK [.tmp 2] [.o 56 28 bV]) f (aV Tryz.f52 0) ((Ac 0).mk' x)
theorem U0(f:Nat)(l:List (bR)):abF (f+1) l =
  vR f (l,[],0):=by kernel_rfl
theorem yn(f:Nat)(l:List (bR))(out:List (bR))(i:Int):vR (f+1) (l,out,i) =
  bif decide (i<(↑l.length:Int))then bif decide (0≤i)&&decide (i<(↑l.length:Int))then bif af (Pu (l.getD i.toNat zq3))then bif decide ((out.length+[l.getD i.toNat zq3].length)*240≤140737488355328)then vR f (l,out++[l.getD i.toNat zq3],i64.wrap (i+1))else none else none else none else some out:=by kernel_rfl
noncomputable def lW:List (bR)→((List (bR))×(List (bR))×Nat)→(List (bR))
 | [],(l,out,i)=>out
 | uu::rest,(l,out,i)=>lW rest (l,out++[uu],i+1)
noncomputable def qk:List (bR)→((List (bR))×(List (bR))×Nat)→Bool
 | [],(l,out,i)=>true
 | uu::rest,(l,out,i)=>af (Pu uu)&&(decide ((out.length+[uu].length)*240≤140737488355328)&&qk rest (l,out++[uu],i+1))
theorem LX:∀(rest:List (bR)) (l:List (bR)) (out:List (bR)) (i:Nat) (hd:l.drop i=rest) (hl:l.length≤1099511627776),de (fun f=>vR f (l,out,((i:Nat):Int))) (qk rest (l,out,i)) (lW rest (l,out,i))
 | [],l,out,i,hd,hl=>ai (fun f=>(yn f _ _ _).trans (by simp only[fA (bT hd),fW,azQ,azP,azH,azI,azX]<;>rfl)) ae
 | uu::rest,l,out,i,hd,hl=>ai (fun f=>(yn f _ _ _).trans (by simp only[cK (ak hd),bC hd,bk (ak hd) hl,bH (ak hd),fW,azQ,azP,azH,azI,azX]<;>rfl)) (aI (aI (LX rest _ _ _ (aH hd) hl)))
noncomputable def Ow:(List (bR))→(List (bR))
 | l=>lW l (l,[],0)
noncomputable def N0:(List (bR))→Bool
 | l=>decide (l.length≤1099511627776)&&qk l (l,[],0)
theorem Th:∀a:(List (bR)),de (fun f=>abF f a) (N0 a) (Ow a)
 | l=>ai (fun f=>U0 f _) (bL fun hh=>LX _ _ _ _ rfl (azZ hh))
theorem MG(l:List bR):∀(r out:List bR) (k:Nat),(∀e∈r,af (Pu e)=true)→out.length+r.length≤68719476736→lW r (l,out,k)=out++r∧qk r (l,out,k)=true
 | [],out,k,h,hl=>⟨by simp[lW],rfl⟩
 | u::r,out,k,h,hl=>by
  obtain⟨i1,i2⟩:=MG l r (out++[u]) (k+1) (fun e he=>h e (az6 _ he)) (by simp at hl ⊢;omega);have h1:af (Pu u)=true:=h u (az1 ..);simp only[azL]at hl;simp only[lW,qk,i1,i2,h1];exact⟨by simp,by simp only[azL,az2,aAt,azP,azM];omega⟩
theorem akS:∀a,ke a=true→N0 a=true:=fun a h=>by
 have:=Bj h;simp only[N0,(MG a a [] 0 (fun e he=>uq h he) (by simpa using this)).2,aAt];exact azC (by omega)
theorem akT:∀a,ke a=true→Ow a=a:=fun a h=>by
 simp only[Ow,(MG a a [] 0 (fun e he=>uq h he) (by simpa using Bj h)).1,aAs]
noncomputable def adk:dn:=⟨52,[.rd bV],[.o 56 28 bV],ke,fun a:(List (bR))=>a⟩
theorem VA:zO adk:=fl OW Ac [.tmp 2] mixed (ah VB (aC)) Tryz.func52 (bp Th akS akT)
noncomputable def Hy:cX:=zC [] (dE []) 8
theorem Gj:jh Tryz.prog []:=aC
theorem ani(l:List (bR)):(aG Hy (fun _=>⟨[],[],0⟩) (zK [.tmp 2] [.o 56 28 bV]) 1 [.code (aB Tryz.f125)] (aQ [.rd bV] l):Option (eC [.o 56 28 bV]))=bif Decidable.decide (0<l.length)&&Bool.true then bif Decidable.decide ((([]:List Nat).length+l.length)*(bytesOf Tryz.prog 56)≤140737488355328)then some l else none else none:=by kernel_rfl
noncomputable def adn:dn:=⟨125,[.rd bV],[.o 56 28 bV],fun a=>wP (a:List (bR)),fun a=>(a:List (bR))⟩
theorem VD:adn.Ok Tryz.prog:=fun a hp vs hv=>B3 (τ:=bV) (t:=56) (es:=28)
  (fun a h0 h1 vs hv=>iI (C:=Hy) (Lt:=fun _=>⟨[],[],0⟩) (fn:=Tryz.f125) (rs:=[.tmp 2]) [.rd bV] [.o 56 28 bV] mixed Gj Tryz.func125 rfl rfl rfl (by kernel_rfl) (by kernel_rfl) 1 ((ani a).trans (xX h0 h1 (by decide +kernel))) vs hv)
  (iI (C:=Hy) (Lt:=fun _=>⟨[],[],0⟩) (fn:=Tryz.f125) (rs:=[.tmp 2]) (a:=()) [.raw (.slice none 0 0)] [.o 56 28 bV] mixed Gj Tryz.func125 rfl rfl rfl (by kernel_rfl) (by kernel_rfl) 1 (by kernel_rfl) _ (by simp only[bY,ed,lZ];exact⟨_,rfl,rfl⟩))
  (fun b c=>iI (C:=Hy) (Lt:=fun _=>⟨[],[],0⟩) (fn:=Tryz.f125) (rs:=[.tmp 2]) (a:=()) [.raw (.slice (some b) 0 c)] [.o 56 28 bV] mixed Gj Tryz.func125 rfl rfl rfl (by kernel_rfl) (by kernel_rfl) 1 (by kernel_rfl) _ (by simp only[bY,ed,lZ];exact⟨_,rfl,rfl⟩))
  a (azZ hp) vs hv
noncomputable def O3:cX:=zC [adn,CY] (dE []) 24
def Ak:Nat→LD:=eO [(0,⟨[.list 3 999 56 28 bV,.c 8 (zI),.c 9 (zI)],[],0⟩)]
noncomputable def acf(f:Nat)(a:(List (bR))):Option ((List (bR))):=aG (O3) Ak (zK [.tmp 2] [.o 56 28 bV]) f [.code (aB Tryz.f88)] (aQ [.rd bV] a)
noncomputable def vZ(f:Nat)(x:(List (bR))×Int×Int):Option ((List (bR))):=aG (O3) Ak (zK [.tmp 2] [.o 56 28 bV]) f (aV Tryz.f88 0) ((Ak 0).mk' x)
theorem Vl(f:Nat)(l:List (bR)):acf (f+1) l =
  bif wP l then vZ f (l,(↑l.length:Int),0)else none:=by kernel_rfl
theorem yB(f:Nat)(out:List (bR))(x8:Int)(x9:Int):vZ (f+1) (out,x8,x9) =
  bif decide (x9<x8)then bif decide (0≤x9)&&decide (x9<(↑out.length:Int))then bif af (out.getD x9.toNat zq3).2.2.2.2.2.2.2.2.2.2.2.2.2.2.2.2.2.2.2.2.1 then bif decide (0≤x9)&&decide (x9<(↑out.length:Int))then vZ f (out.set x9.toNat (out.getD x9.toNat zq3),x8,i64.wrap (x9+1))else none else none else none else some out:=by kernel_rfl
noncomputable def qM:List (bR)→((List (bR))×Int×Nat)→(List (bR))
 | [],(out,x8,x9)=>out
 | uu::rest,(out,x8,x9)=>qM rest (out.set (↑x9:Int).toNat uu,x8,x9+1)
noncomputable def qo:List (bR)→((List (bR))×Int×Nat)→Bool
 | [],(out,x8,x9)=>true
 | uu::rest,(out,x8,x9)=>af uu.2.2.2.2.2.2.2.2.2.2.2.2.2.2.2.2.2.2.2.2.1&&qo rest (out.set (↑x9:Int).toNat uu,x8,x9+1)
theorem L0:∀(rest:List (bR)) (out:List (bR)) (x8:Int) (x9:Nat) (hd:out.drop x9=rest) (hn:x8=((out.length:Nat):Int)) (hl:out.length≤1099511627776),de (fun f=>vZ f (out,x8,((x9:Nat):Int))) (qo rest (out,x8,x9)) (qM rest (out,x8,x9))
 | [],out,x8,x9,hd,hn,hl=>ai (fun f=>(yB f _ _ _).trans (by simp only[iZ hn (bT hd),fW,azQ,azP,azH,azI,azX]<;>rfl)) ae
 | uu::rest,out,x8,x9,hd,hn,hl=>ai (fun f=>(yB f _ _ _).trans (by simp only[iW hn (ak hd),cK (ak hd),bC hd,bk (ak hd) hl,bH (ak hd),fW,azQ,azP,azH,azI,azX]<;>rfl)) (aI (L0 rest _ _ _ (by first | exact aH hd | exact drop_set hd | exact bB (drop_set hd)) (by first | exact hn | simpa using hn) (by first | exact hl | simpa using hl)))
noncomputable def Oz:(List (bR))→(List (bR))
 | l=>qM l (l,(↑l.length:Int),0)
noncomputable def N4:(List (bR))→Bool
 | l=>wP l&&(decide (l.length≤1099511627776)&&qo l (l,(↑l.length:Int),0))
theorem Up:∀a:(List (bR)),de (fun f=>acf f a) (N4 a) (Oz a)
 | l=>ai (fun f=>Vl f _) (aI (bL fun hh=>L0 _ _ _ _ rfl (by first | rfl | simp) (azZ hh)))
theorem NS(n:Int):∀(r:List bR) (out:List bR) (k:Nat),out.drop k=r→(∀e∈r,af (Pu e)=true)→qM r (out,n,k)=out∧qo r (out,n,k)=true
 | [],out,k,h,hl=>⟨rfl,rfl⟩
 | u::r,out,k,h,hl=>by
  obtain⟨i1,i2⟩:=NS n r out (k+1) (aH h) (fun e he=>hl e (az6 _ he));have h1:af u.2.2.2.2.2.2.2.2.2.2.2.2.2.2.2.2.2.2.2.2.1=true:=hl u (az1 ..);simp only[qM,qo,tW h,i1,i2,h1];exact⟨trivial,rfl⟩
theorem amZ:∀a,ke a=true→N4 a=true:=fun a h=>by
 have:=Bj h;simp only[N4,(NS _ a a 0 rfl (fun e he=>uq h he)).2,aAt,azF];exact⟨azC (by omega),azC (by omega)⟩
theorem am0:∀a,ke a=true→Oz a=a:=fun a h=>by
 simp only[Oz,(NS _ a a 0 rfl (fun e he=>uq h he)).1]
noncomputable def anv:dn:=⟨88,[.rd bV],[.o 56 28 bV],ke,fun a:(List (bR))=>a⟩
theorem VP:zO anv:=fl O3 Ak [.tmp 2] mixed (ah VD (ah xA (aC))) Tryz.func88 (bp Up amZ am0)
noncomputable def aio:cX:=zC [] (dE [(4,([(0,[]),(1,[]),(2,[]),(3,[]),(4,[]),(5,[]),(6,[])],[(12,18)]))]) 20
def agi:Nat→LD:=eO [(0,⟨[.rd 0 bV,.box 3 3 48 3 aE,.c 5 (zI)],[],0⟩)]
noncomputable def anW(f:Nat)(a:(List (bR))×aj):Option (Int):=aG (aio) agi (zK [.tmp 4] [.v (zI)]) f [.code (aB Tryz.f27)] (aQ [.rd bV,.g aE] a)
noncomputable def afE(f:Nat)(x:(List (bR))×aj×Int):Option (Int):=aG (aio) agi (zK [.tmp 4] [.v (zI)]) f (aV Tryz.f27 0) ((agi 0).mk' x)
theorem aif(f:Nat)(l:List (bR))(id:aj):anW (f+1) (l,id) =
  afE f (l,id,0):=by kernel_rfl
theorem agh(f:Nat)(l:List (bR))(id:aj)(i:Int):afE (f+1) (l,id,i) =
  bif decide (i<(↑l.length:Int))then bif decide (0≤i)&&decide (i<(↑l.length:Int))then bif(l.getD i.toNat zq3).1 == id.1&&((l.getD i.toNat zq3).2.1 == id.2.1&&((l.getD i.toNat zq3).2.2.1 == id.2.2&&true))then some i else afE f (l,id,i64.wrap (i+1))else none else some (-1):=by kernel_rfl
noncomputable def aeC:List (bR)→((List (bR))×aj×Nat)→Int
 | [],(l,id,i)=>-1
 | uu::rest,(l,id,i)=>bif uu.1 == id.1&&(uu.2.1 == id.2.1&&(uu.2.2.1 == id.2.2&&true))then(↑i:Int)else aeC rest (l,id,i+1)
noncomputable def aey:List (bR)→((List (bR))×aj×Nat)→Bool
 | [],(l,id,i)=>true
 | uu::rest,(l,id,i)=>bif uu.1 == id.1&&(uu.2.1 == id.2.1&&(uu.2.2.1 == id.2.2&&true))then true else aey rest (l,id,i+1)
theorem agB:∀(rest:List (bR)) (l:List (bR)) (id:aj) (i:Nat) (hd:l.drop i=rest) (hl:l.length≤1099511627776),de (fun f=>afE f (l,id,((i:Nat):Int))) (aey rest (l,id,i)) (aeC rest (l,id,i))
 | [],l,id,i,hd,hl=>ai (fun f=>(agh f _ _ _).trans (by simp only[fA (bT hd),fW,azQ,azP,azH,azI,azX]<;>rfl)) ae
 | uu::rest,l,id,i,hd,hl=>ai (fun f=>(agh f _ _ _).trans (by simp only[cK (ak hd),bC hd,bk (ak hd) hl,bH (ak hd),fW,azQ,azP,azH,azI,azX]<;>rfl)) (ao ae (agB rest _ _ _ (aH hd) hl))
noncomputable def aij:((List (bR))×aj)→Int
 | (l,id)=>aeC l (l,id,0)
noncomputable def ahY:((List (bR))×aj)→Bool
 | (l,id)=>decide (l.length≤1099511627776)&&aey l (l,id,0)
theorem ahS:∀a:(List (bR))×aj,de (fun f=>anW f a) (ahY a) (aij a)
 | (l,id)=>ai (fun f=>aif f _ _) (bL fun hh=>agB _ _ _ _ rfl (azZ hh))
theorem ahU(l:List bR)(id:aj):∀(r:List bR) (k:Nat),aeC r (l,id,k)=bu (fun q=>decide (tZ q=id)) r k∧aey r (l,id,k)=true
 | [],k=>⟨rfl,rfl⟩
 | u::r,k=>by
  obtain⟨i1,i2⟩:=ahU l id r (k+1);have e:(u.1 == id.1&&(u.2.1 == id.2.1&&(u.2.2.1 == id.2.2&&true)))=decide (tZ u=id):=id_eq (tZ u) id;simp only[aeC,aey,bu,e,i1,i2];constructor<;>(cases decide (tZ u=id)<;>rfl)
theorem asr:∀a:List bR×aj,af a.1=true→ahY a=true:=fun a h=>by simp only[ahY,(ahU _ _ _ _).2,aAt];exact h
theorem asA:∀a:List bR×aj,af a.1=true→aij a=bu (fun q=>decide (tZ q=a.2)) a.1 0:=fun a h=>by simp only[aij,(ahU _ _ _ _).1];rfl
noncomputable def aim:dn:=⟨27,[.rd bV,.g aE],[.v (zI)],fun a:(List (bR))×aj=>af a.1,fun a:(List (bR))×aj=>bu (fun q=>decide (tZ q=a.2)) a.1 0⟩
theorem aik:zO aim:=fl aio agi [.tmp 4] mixed (aC) Tryz.func27 (bp ahS asr asA)
open Go.Proofs
def rgI(l:List eB)(r:Rg):Int:=bu (fun g=>contains ((g.1,g.2.1),r)) l 0
def rgP(l:List eB)(r:Rg):Int×Bool:=bif decide (rgI l r≥0)then(rgI l r,true)else(0,false)
noncomputable def aeb:cX:=zC [adM] (dE []) 24
def G2:Nat→LD:=eO [(0,⟨[.box 3 3 72 2 sF,.rd 8 tP,.c 9 (zI),.c 10 (zI)],[],0⟩)]
noncomputable def ai9(f:Nat)(a:(List (eB))×Rg):Option (Int×Bool):=aG (aeb) G2 (zK [.tmp 4,.tmp 5] [.v (zI),.v (.bool)]) f [.code (aB Tryz.f59)] (aQ [.rd tP,.g sF] a)
noncomputable def Ar(f:Nat)(x:Rg×(List (eB))×Int×Int):Option (Int×Bool):=aG (aeb) G2 (zK [.tmp 4,.tmp 5] [.v (zI),.v (.bool)]) f (aV Tryz.f59 0) ((G2 0).mk' x)
theorem abL(f:Nat)(l:List (eB))(r:Rg):ai9 (f+1) (l,r) =
  Ar f (r,l,(↑l.length:Int),0):=by kernel_rfl
theorem CN(f:Nat)(r:Rg)(x8:List (eB))(x9:Int)(dB:Int):Ar (f+1) (r,x8,x9,dB) =
  bif decide (dB<x9)then bif decide (0≤dB)&&decide (dB<(↑x8.length:Int))then bif contains (((x8.getD dB.toNat (0,0,false)).1,(x8.getD dB.toNat (0,0,false)).2.1),r)then some (dB,true)else Ar f (r,x8,x9,i64.wrap (dB+1))else none else some (0,false):=by kernel_rfl
noncomputable def wa:List (eB)→(Rg×(List (eB))×Int×Nat)→Int×Bool
 | [],(r,x8,x9,dB)=>(0,false)
 | uu::rest,(r,x8,x9,dB)=>bif contains ((uu.1,uu.2.1),r)then((↑dB:Int),true)else wa rest (r,x8,x9,dB+1)
noncomputable def vv:List (eB)→(Rg×(List (eB))×Int×Nat)→Bool
 | [],(r,x8,x9,dB)=>true
 | uu::rest,(r,x8,x9,dB)=>bif contains ((uu.1,uu.2.1),r)then true else vv rest (r,x8,x9,dB+1)
theorem Sw:∀(rest:List (eB)) (r:Rg) (x8:List (eB)) (x9:Int) (dB:Nat) (hd:x8.drop dB=rest) (hn:x9=((x8.length:Nat):Int)) (hl:x8.length≤1099511627776),de (fun f=>Ar f (r,x8,x9,((dB:Nat):Int))) (vv rest (r,x8,x9,dB)) (wa rest (r,x8,x9,dB))
 | [],r,x8,x9,dB,hd,hn,hl=>ai (fun f=>(CN f _ _ _ _).trans (by simp only[iZ hn (bT hd),fW,azQ,azP,azH,azI,azX]<;>rfl)) ae
 | uu::rest,r,x8,x9,dB,hd,hn,hl=>ai (fun f=>(CN f _ _ _ _).trans (by simp only[iW hn (ak hd),cK (ak hd),bC hd,bk (ak hd) hl,bH (ak hd),fW,azQ,azP,azH,azI,azX]<;>rfl)) (ao ae (Sw rest _ _ _ _ (aH hd) (by first | exact hn | simpa using hn) hl))
noncomputable def acK:((List (eB))×Rg)→Int×Bool
 | (l,r)=>wa l (r,l,(↑l.length:Int),0)
noncomputable def aaZ:((List (eB))×Rg)→Bool
 | (l,r)=>decide (l.length≤1099511627776)&&vv l (r,l,(↑l.length:Int),0)
theorem XK:∀a:(List (eB))×Rg,de (fun f=>ai9 f a) (aaZ a) (acK a)
 | (l,r)=>ai (fun f=>abL f _ _) (bL fun hh=>Sw _ _ _ _ _ rfl (by first | rfl | simp) (azZ hh))
theorem XL(l:List eB)(n:Int)(rr:Rg):∀(r:List eB) (k:Nat),wa r (rr,l,n,k)=(bif decide (bu (fun g=>contains ((g.1,g.2.1),rr)) r k≥0)then(bu (fun g=>contains ((g.1,g.2.1),rr)) r k,true)else(0,false))∧vv r (rr,l,n,k)=true
 | [],k=>⟨rfl,rfl⟩
 | u::r,k=>by
  obtain⟨i1,i2⟩:=XL l n rr r (k+1);simp only[wa,vv,bu,i1,i2];rcases Bool.eq_false_or_eq_true (contains ((u.1,u.2.1),rr))with hc | hc
  ·simp only[hc,azH,azC (show((k:Nat):Int)≥0 by omega),and_self]
  ·simp only[hc,azI]
   exact⟨rfl,trivial⟩
theorem ao2:∀a:List eB×Rg,af a.1=true→aaZ a=true:=fun a h=>by simp only[aaZ,(XL _ _ _ _ _).2,aAt];exact h
theorem ao3:∀a:List eB×Rg,af a.1=true→acK a=rgP a.1 a.2:=fun a h=>by simp only[acK,(XL _ _ _ _ _).1];rfl
noncomputable def art:dn:=⟨59,[.rd tP,.g sF],[.v (zI),.v (.bool)],fun a:(List (eB))×Rg=>af a.1,fun a:(List (eB))×Rg=>rgP a.1 a.2⟩
theorem adr:zO art:=fl aeb G2 [.tmp 4,.tmp 5] mixed (ah VO (aC)) Tryz.func59 (bp XK ao2 ao3)
open Go.Proofs
open Go.Proofs
abbrev Jp:List Ty:=[zI,.sl [zI],.sl [zI]]
abbrev jf:=Int×(List (Int))×(List (Int))
abbrev eG:List Ty:=[zI,zI,.sl [zI],.sl [zI],.sl bg,.sl bV,.sl gJ,.sl sF,.sl aF,.sl aE,.bool,zI,.sl [zI],.sl [zI],.sl bg,.sl bV,.sl gJ,.sl sF,.sl aF,.sl aE]
abbrev cC:=Int×Int×(List (Int))×(List (Int))×(List aL)×(List bR)×(List tm)×(List Rg)×(List ag)×(List aj)×Bool×Int×(List (Int))×(List (Int))×(List aL)×(List bR)×(List tm)×(List Rg)×(List ag)×(List aj)
noncomputable def agy:cX:=zC [Hq] (dE [(2,([(0,[]),(1,[]),(2,[]),(3,[]),(4,[]),(5,[]),(6,[]),(7,[]),(8,[]),(9,[]),(10,[]),(11,[])],[(6,17)])),(4,([(0,[]),(1,[]),(2,[]),(3,[]),(4,[]),(5,[]),(6,[]),(7,[]),(8,[]),(9,[]),(10,[]),(11,[])],[(20,31)])),(6,([(0,[]),(1,[]),(2,[]),(4,[3]),(5,[3]),(7,[]),(8,[]),(9,[]),(3,[]),(6,[]),(10,[]),(11,[])],[(4,4),(33,43)]))]) 44
def afw:Nat→LD:=eO [(0,⟨[.c 0 (.sl aE),.box 3 3 48 3 aE,.c 5 (zI)],[],0⟩)]
noncomputable def aih(f:Nat)(a:(List (aj))×aj):Option ((List (aj))):=aG (agy) afw (zK [.tmp 4] [.v (.sl aE)]) f [.code (aB Tryz.f65)] (aQ [.c (.sl aE),.g aE] a)
noncomputable def aeB(f:Nat)(x:(List (aj))×aj×Int):Option ((List (aj))):=aG (agy) afw (zK [.tmp 4] [.v (.sl aE)]) f (aV Tryz.f65 0) ((afw 0).mk' x)
theorem agI(f:Nat)(l:List (aj))(id:aj):aih (f+1) (l,id) =
  aeB f (l,id,0):=by kernel_rfl
theorem aeF(f:Nat)(l:List (aj))(id:aj)(k:Int):aeB (f+1) (l,id,k) =
  bif decide (k<(↑l.length:Int))then bif decide (0≤k)&&decide (k<(↑l.length:Int))then bif cw (l.getD k.toNat (0,0,0),id)then aeB f (l,id,i64.wrap (k+1))else bif decide (k<(↑l.length:Int))then bif decide (0≤k)&&decide (k<(↑l.length:Int))then bif(l.getD k.toNat (0,0,0)).1 == id.1&&((l.getD k.toNat (0,0,0)).2.1 == id.2.1&&((l.getD k.toNat (0,0,0)).2.2 == id.2.2&&true))then some l else bif decide (0≤k)&&decide (k≤(↑l.length:Int))then bif decide (0≤k)&&decide (k≤(↑l.length:Int))then bif decide ((List.take k.toNat l).length*24≤140737488355328)then bif decide (((List.take k.toNat l).length+[id].length)*24≤140737488355328)then bif decide (((List.take k.toNat l++[id]).length+(List.drop k.toNat l).length)*24≤140737488355328)then some (List.take k.toNat l++[id]++List.drop k.toNat l)else none else none else none else none else none else none else bif decide (0≤k)&&decide (k≤(↑l.length:Int))then bif decide (0≤k)&&decide (k≤(↑l.length:Int))then bif decide ((List.take k.toNat l).length*24≤140737488355328)then bif decide (((List.take k.toNat l).length+[id].length)*24≤140737488355328)then bif decide (((List.take k.toNat l++[id]).length+(List.drop k.toNat l).length)*24≤140737488355328)then some (List.take k.toNat l++[id]++List.drop k.toNat l)else none else none else none else none else none else none else bif decide (k<(↑l.length:Int))then bif decide (0≤k)&&decide (k<(↑l.length:Int))then bif(l.getD k.toNat (0,0,0)).1 == id.1&&((l.getD k.toNat (0,0,0)).2.1 == id.2.1&&((l.getD k.toNat (0,0,0)).2.2 == id.2.2&&true))then some l else bif decide (0≤k)&&decide (k≤(↑l.length:Int))then bif decide (0≤k)&&decide (k≤(↑l.length:Int))then bif decide ((List.take k.toNat l).length*24≤140737488355328)then bif decide (((List.take k.toNat l).length+[id].length)*24≤140737488355328)then bif decide (((List.take k.toNat l++[id]).length+(List.drop k.toNat l).length)*24≤140737488355328)then some (List.take k.toNat l++[id]++List.drop k.toNat l)else none else none else none else none else none else none else bif decide (0≤k)&&decide (k≤(↑l.length:Int))then bif decide (0≤k)&&decide (k≤(↑l.length:Int))then bif decide ((List.take k.toNat l).length*24≤140737488355328)then bif decide (((List.take k.toNat l).length+[id].length)*24≤140737488355328)then bif decide (((List.take k.toNat l++[id]).length+(List.drop k.toNat l).length)*24≤140737488355328)then some (List.take k.toNat l++[id]++List.drop k.toNat l)else none else none else none else none else none:=by kernel_rfl
noncomputable def aav:List (aj)→((List (aj))×aj×Nat)→(List (aj))
 | [],(l,id,k)=>bif decide ((↑k:Int)<(↑l.length:Int))then bif(l.getD (↑k:Int).toNat (0,0,0)).1 == id.1&&((l.getD (↑k:Int).toNat (0,0,0)).2.1 == id.2.1&&((l.getD (↑k:Int).toNat (0,0,0)).2.2 == id.2.2&&true))then l else List.take (↑k:Int).toNat l++[id]++List.drop (↑k:Int).toNat l else List.take (↑k:Int).toNat l++[id]++List.drop (↑k:Int).toNat l
 | uu::rest,(l,id,k)=>bif cw (uu,id)then aav rest (l,id,k+1)else bif uu.1 == id.1&&(uu.2.1 == id.2.1&&(uu.2.2 == id.2.2&&true))then l else List.take (↑k:Int).toNat l++[id]++List.drop (↑k:Int).toNat l
noncomputable def b9:List (aj)→((List (aj))×aj×Nat)→Bool
 | [],(l,id,k)=>bif decide ((↑k:Int)<(↑l.length:Int))then decide ((↑k:Int)<(↑l.length:Int))&&bif(l.getD (↑k:Int).toNat (0,0,0)).1 == id.1&&((l.getD (↑k:Int).toNat (0,0,0)).2.1 == id.2.1&&((l.getD (↑k:Int).toNat (0,0,0)).2.2 == id.2.2&&true))then true else decide ((↑k:Int)≤(↑l.length:Int))&&(decide ((↑k:Int)≤(↑l.length:Int))&&(decide ((List.take (↑k:Int).toNat l).length*24≤140737488355328)&&(decide (((List.take (↑k:Int).toNat l).length+[id].length)*24≤140737488355328)&&decide (((List.take (↑k:Int).toNat l++[id]).length+(List.drop (↑k:Int).toNat l).length)*24≤140737488355328))))else decide ((↑k:Int)≤(↑l.length:Int))&&(decide ((↑k:Int)≤(↑l.length:Int))&&(decide ((List.take (↑k:Int).toNat l).length*24≤140737488355328)&&(decide (((List.take (↑k:Int).toNat l).length+[id].length)*24≤140737488355328)&&decide (((List.take (↑k:Int).toNat l++[id]).length+(List.drop (↑k:Int).toNat l).length)*24≤140737488355328))))
 | uu::rest,(l,id,k)=>bif cw (uu,id)then b9 rest (l,id,k+1)else bif uu.1 == id.1&&(uu.2.1 == id.2.1&&(uu.2.2 == id.2.2&&true))then true else decide ((↑k:Int)≤(↑l.length:Int))&&(decide ((↑k:Int)≤(↑l.length:Int))&&(decide ((List.take (↑k:Int).toNat l).length*24≤140737488355328)&&(decide (((List.take (↑k:Int).toNat l).length+[id].length)*24≤140737488355328)&&decide (((List.take (↑k:Int).toNat l++[id]).length+(List.drop (↑k:Int).toNat l).length)*24≤140737488355328))))
theorem agq:∀(rest:List (aj)) (l:List (aj)) (id:aj) (k:Nat) (hd:l.drop k=rest) (hl:l.length≤1099511627776),de (fun f=>aeB f (l,id,((k:Nat):Int))) (b9 rest (l,id,k)) (aav rest (l,id,k))
 | [],l,id,k,hd,hl=>ai (fun f=>(aeF f _ _ _).trans (by simp only[fA (bT hd),fW,azQ,azP,azH,azI,azX]<;>rfl)) (ao (aI (ao ae (aI (aI (aI (aI (cS ae))))))) (aI (aI (aI (aI (cS ae))))))
 | uu::rest,l,id,k,hd,hl=>ai (fun f=>(aeF f _ _ _).trans (by simp only[cK (ak hd),bC hd,bk (ak hd) hl,bH (ak hd),fW,azQ,azP,azH,azI,azX]<;>rfl)) (ao (agq rest _ _ _ (aH hd) hl) (ao ae (aI (aI (aI (aI (cS ae)))))))
noncomputable def agv:((List (aj))×aj)→(List (aj))
 | (l,id)=>aav l (l,id,0)
noncomputable def agu:((List (aj))×aj)→Bool
 | (l,id)=>decide (l.length≤1099511627776)&&b9 l (l,id,0)
theorem agD:∀a:(List (aj))×aj,de (fun f=>aih f a) (agu a) (agv a)
 | (l,id)=>ai (fun f=>agI f _ _) (bL fun hh=>agq _ _ _ _ rfl (azZ hh))
def qf:List aj→aj→List aj
 | [],id=>[id]
 | u::r,id=>bif cw (u,id)then u::qf r id else bif decide (u=id)then u::r else id::u::r
theorem Lj(id:aj):∀r:List aj,(qf r id).length≤r.length+1
 | []=>azJ _
 | u::r=>by
  have:=Lj id r;simp only[qf];cases cw (u,id)<;>cases decide (u=id)<;>simp only[azH,azI,azL]<;>omega
theorem ags(l:List aj)(id:aj)(hl:l.length≤1000000):∀(r:List aj) (k:Nat),l.drop k=r→k≤l.length→aav r (l,id,k)=l.take k++qf r id∧b9 r (l,id,k)=true
 | [],k,h,hk2=>by
  have hk:=bT h;have e1:decide (((k:Nat):Int)<((l.length:Nat):Int))=false:=azK (by omega);simp only[aav,b9,e1,azI,qf,aAn,h,aAc,aAB,true_and];simp only[azF,azM,azG,az5,aAe,azL,az2];omega
 | u::r,k,h,hk2=>by
  have hk:=ak h;obtain⟨i1,i2⟩:=ags l id hl r (k+1) (aH h) (by omega);have t1:=jx h;simp only[aav,b9,i1,i2,qf,id_eq,aAn,h];cases cw (u,id)
  ·cases hd:decide (u=id)
   ·simp only[azI,aAB,aCf,true_and]
    simp only[azF,azM,azG,az5,aAe,azL,az2];have:r.length+1=l.length-k:=by rw[← aAe,h];rfl
    omega
   ·simp only[azH,azI,and_true]
    rw[← h,aAT]
  ·simp only[azH,and_true]
   rw[t1,aAB];rfl
theorem aqu:∀a:List aj×aj,decide (a.1.length≤1000000)=true→agu a=true:=fun a h=>by
 have h:a.1.length≤1000000:=azZ h;simp only[agu,(ags a.1 a.2 h a.1 0 rfl (aAu _)).2,aAt];exact azC (by omega)
theorem aqw:∀a:List aj×aj,decide (a.1.length≤1000000)=true→agv a=qf a.1 a.2:=fun a h=>by
 have h:a.1.length≤1000000:=azZ h;simp only[agv,(ags a.1 a.2 h a.1 0 rfl (aAu _)).1,aBb,aAs]
noncomputable def ain:dn:=⟨65,[.c (.sl aE),.g aE],[.v (.sl aE)],fun a:(List (aj))×aj=>decide (a.1.length≤1000000),fun a:(List (aj))×aj=>qf a.1 a.2⟩
theorem ag2:zO ain:=fl agy afw [.tmp 4] mixed (ah E5 (aC)) Tryz.func65 (bp agD aqu aqw)
def nY(s:aL):aL:=Ys (snd s) (Ju s) (0,0,0)
def oe(l:List aL)(d:List aj):List aL:=d.foldl (fun l id=>(tS (l,id)).1) l
theorem Pm{l:List aL}(id:aj)(h:ct l=true):ct (tS (l,id)).1=true:=by
 refine uo (by simpa [tS]using fD h) fun s hs=>?_
 obtain⟨x,hx,rfl⟩:=az4.1 (show s∈l.map (nw id)from hs);show af (nw id x).2.2.2.1=true;unfold nw;cases sH id x
 ·exact gk h hx
 ·rfl
def Fq(l:List aL)(r:bR):Bool:=decide (0≤(sQ r).2.1)&&(decide ((sQ r).2.1<(l.length:Nat))&&(!cB (l.getD (sQ r).2.1.toNat iR)&&decide (xH (l.getD (sQ r).2.1.toNat iR)=jm (Xk r))))
def ij(h:aj→Bool)(l:List aL)(r:bR)(d:List aj)(m:List Int):Int×Bool:=
 bif decide ((sQ r).1=6)then(0,cJ (tZ r) d)
 else bif decide ((sQ r).1=4)then(bif h ((tZ r).1,(tZ r).2.1,0)then(0,true)else(10,Fq l r&&!cJ (sQ r).2.2.2.1 m))
 else(0,false)
def jL(all:List ay)(id:aj):Bool:=all.any fun s=>s.1.any (ZC id)
def uB(a b:dv):Bool:=decide (a.1<b.1)
theorem XT:qt uB:=⟨fun a b h=>by simp only[uB,azM,aB6]at *;omega,fun a b c h1 h2=>by simp only[uB,aB6]at *;omega⟩
open Go.Proofs
noncomputable def agl:cX:=zC [ain] (dE []) 36
def aev:Nat→LD:=eO [(0,⟨[.rd 0 eG,.c 3 (.sl aE),.c 4 (zI)],[],0⟩),(2,⟨[.rd 0 eG,.c 3 (.sl aE),.c 4 (zI),.c 5 (zI)],[],0⟩)]
noncomputable def aid(f:Nat)(a:(List (cC))):Option ((List (aj))):=aG (agl) aev (zK [.tmp 2] [.v (.sl aE)]) f [.code (aB Tryz.f26)] (aQ [.rd eG] a)
noncomputable def aeu(f:Nat)(x:(List (cC))×(List (aj))×Int):Option ((List (aj))):=aG (agl) aev (zK [.tmp 2] [.v (.sl aE)]) f (aV Tryz.f26 0) ((aev 0).mk' x)
noncomputable def aez(f:Nat)(x:(List (cC))×(List (aj))×Int×Int):Option ((List (aj))):=aG (agl) aev (zK [.tmp 2] [.v (.sl aE)]) f (aV Tryz.f26 2) ((aev 2).mk' x)
theorem agH(f:Nat)(ab:List (cC)):aid (f+1) ab =
  aeu f (ab,[],0):=by kernel_rfl
theorem aeE(f:Nat)(ab:List (cC))(out:List (aj))(i:Int):aeu (f+1) (ab,out,i) =
  bif decide (i<(↑ab.length:Int))then aez f (ab,out,i,0)else some out:=by kernel_rfl
theorem aeD(f:Nat)(ab:List (cC))(out:List (aj))(i:Int)(k:Int):aez (f+1) (ab,out,i,k) =
  bif decide (0≤i)&&decide (i<(↑ab.length:Int))then bif decide (k<(↑(List.length (ab.getD i.toNat zq5).2.2.2.2.2.2.1):Int))then bif decide (0≤i)&&decide (i<(↑ab.length:Int))then bif decide (0≤k)&&decide (k<(↑(List.length (ab.getD i.toNat zq5).2.2.2.2.2.2.1):Int))then bif decide (out.length≤1000000)then aez f (ab,qf out (List.getD (ab.getD i.toNat zq5).2.2.2.2.2.2.1 k.toNat (0,0,0,0)).2,i,i64.wrap (k+1))else none else none else none else aeu f (ab,out,i64.wrap (i+1))else none:=by kernel_rfl
abbrev rR(r:cC):List tm:=r.2.2.2.2.2.2.1
def aX(l:List cC):List aj:=l.foldl (fun o r=>(rR r).foldl (fun o m=>qf o m.2) o) []
def xe(l:List cC):Bool:=decide (l.length≤100)&&l.all fun r=>decide ((rR r).length≤1000)
theorem KO:∀(m:List tm) (o:List aj),(m.foldl (fun o m=>qf o m.2) o).length≤o.length+m.length
 | [],o=>azJ _
 | x::m,o=>by
  have h1:=KO m (qf o x.2);have h2:=Lj x.2 o;simp only[aAN,azL];omega
theorem an0{l p q:List cC}{s:cC}{R:List aj}(hl:l=p++s::q)(hp:p.length≤1000):∀(m pm:List tm) (out:List aj),rR s=pm++m→pm.length+m.length≤1000→out.length+m.length≤1000000→
  (∃f,aeu f (l,m.foldl (fun o m=>qf o m.2) out,((p.length+1:Nat):Int))=some R)→∃f,aez f (l,out,((p.length:Nat):Int),((pm.length:Nat):Int))=some R:=by
 subst hl;intro m;induction m with
 | nil=>
  rintro pm out hm h1 h2 ⟨f,hf⟩;refine⟨f+1,(aeD f _ _ _ _).trans ?_⟩;have hm:s.2.2.2.2.2.2.1=pm++[]:=hm;rw[M9,ZH,fW,hm,alp];simp only[azQ,azH,azI];rw[az (by omega) (by omega)];exact hf
 | cons x m ih=>
  rintro pm out hm h1 h2 hR;simp only[azL]at h1 h2;have h3:=Lj x.2 out;have e:(pm++[x]).length=pm.length+1:=by simp
  obtain⟨f,hf⟩:=ih (pm++[x]) (qf out x.2) (by rw[hm];simp) (by rw[e];omega) (by omega) hR;refine⟨f+1,(aeD f _ _ _ _).trans ?_⟩;have hm:s.2.2.2.2.2.2.1=pm++x::m:=hm;rw[M9,ZH,fW,hm,M9,ZH,fW,azC (show out.length≤1000000 by omega)];simp only[azQ,azH];rw[az (by omega) (by omega)];rw[e]at hf;exact hf
theorem ahC:∀(r p:List cC) (out:List aj),p.length+r.length≤100→(∀x∈r,(rR x).length≤1000)→out.length≤1000*p.length→∃f,aeu f (p++r,out,((p.length:Nat):Int))=some (r.foldl (fun o r=>(rR r).foldl (fun o m=>qf o m.2) o) out)
 | [],p,out,hl,hr,ho=>⟨1,(aeE 0 _ _ _).trans (by rw[alp];rfl)⟩
 | s::r,p,out,hl,hr,ho=>by
  simp only[azL]at hl;have h1:=hr s (az1 ..);have h2:=KO (rR s) out;have e:(p++[s]).length=p.length+1:=by simp
  obtain⟨f,hf⟩:=ahC r (p++[s]) ((rR s).foldl (fun o m=>qf o m.2) out) (by rw[e];omega) (fun x hx=>hr x (az6 _ hx)) (by rw[e];omega);rw[e,aAB,aCf]at hf;obtain⟨g,hg⟩:=an0 (p:=p) (q:=r) (s:=s) rfl (by omega) (rR s) [] out rfl (by simpa using h1) (by omega) ⟨f,hf⟩;refine⟨g+1,(aeE g _ _ _).trans ?_⟩;rw[M9];exact hg
theorem ahA:∀a:List cC,xe a=true→∃f,aid f a=some (aX a):=fun a h=>by
 simp only[xe,azF,azM]at h;obtain⟨f,hf⟩:=ahC a [] [] (by simpa using h.1) (fun x hx=>by have:=azU.1 h.2 x hx;simpa using this) (azJ _);exact⟨f+1,(agH f _).trans hf⟩
noncomputable def agw:dn:=⟨26,[.rd eG],[.v (.sl aE)],xe,aX⟩
theorem agJ:zO agw:=fl agl aev [.tmp 2] mixed (ah ag2 (aC)) Tryz.func26 ahA
def og(h:aj→Bool)(d:List aj)(m:List Int):List bR→List aL→List bR→List dv→List aL×List bR×List dv
 | [],l,left,an=>(l,left,an)
 | r::q,l,left,an=>bif(ij h l r d m).2 then og h d m q (ny (l,(tZ r).2.1)) left (an++[((tZ r).2.1,(ij h l r d m).1)])else og h d m q l (left++[r]) an
def sJ(h:aj→Bool)(d:List aj)(m:List Int)(s:ay):ay:=((og h d m s.2.1 s.1 [] []).1,(og h d m s.2.1 s.1 [] []).2.1,s.2.2.1,ca uB (og h d m s.2.1 s.1 [] []).2.2,s.2.2.2.2)
theorem PD{l:List aL}(op:Int)(h:ct l=true):ct (ny (l,op))=true:=by
 refine uo (by simpa [ny]using fD h) fun s hs=>?_
 obtain⟨x,hx,rfl⟩:=az4.1 (show s∈l.map (mg op)from hs);show af (mg op x).2.2.2.1=true;unfold mg;have h2:af x.2.2.2.1=true:=gk h hx;cases decide (Ju x=op)
 ·exact h2
 ·exact h2
def iK(e:ag):Rg:=(e.2.2.2.2.2.2.2.1,e.2.2.2.2.2.2.2.2.1)
def iG(rs:List eB)(ow:List Int)(c:Int)(e:ag):Bool:=decide (0≤rgI rs (iK e))&&(decide (rgI rs (iK e)<(ow.length:Nat))&&decide (ow.getD (rgI rs (iK e)).toNat 0=c))
def XS(rs:List eB)(ow:List Int)(c:Int):List (ay×Int)→List ag→List ag
 | [],out=>out
 | (s,m)::r,out=>XS rs ow c r (((jQ (s.1,m)).filter (iG rs ow c)).foldl (fun s x=>cA cj x s) out)
theorem Ei:∀(l out:List ag),(l.foldl (fun s x=>cA cj x s) out).length=out.length+l.length
 | [],out=>rfl
 | x::l,out=>by rw[aAN,Ei l,oJ,azL];omega
theorem BY(l:List aL)(c:Int):(jQ (l,c)).length≤l.length:=by
 have h1:=KG c l 0;have h2:=Ei (wZ c l 0) [];show(ca cj (wZ c l 0)).length≤_;unfold ca;rw[h2];simpa using h1
def MR(a:List eB×List ay×Int×jf):List ag:=XS a.1 a.2.2.2.2.2 (a.2.2.2.2.1.getD a.2.2.1.toNat 0) (a.2.1.zip a.2.2.2.2.1) []
