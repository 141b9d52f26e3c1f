/- AI. -/
import Derived.Test.YtfggefeflojnkaaGreatEg5
set_option linter.unusedSimpArgs false
set_option linter.unusedVariables false
namespace Go.AL
open Go.Proofs
theorem T5{α:Type}{p:α→Bool}(l:List α):decide (bu p l 0≥0)=l.any p:=by
 cases h:l.any p
 ·have:=(fR (p:=p) (l:=l) (k:=0) (by omega)).1 (any_false h)
  rw[this];rfl
 ·rcases uT (p:=p) (l:=l) (k:=0) (by omega)with h1 | h1
  ·exact azC h1
  ·obtain⟨x,hx,hp⟩:=aBm.1 h
   have:=(fR (p:=p) (l:=l) (k:=0) (by omega)).2 h1 x hx;rw[hp]at this;cases this
theorem BU{α:Type}{p:α→Bool}:∀(l:List α) (k0:Int) (k:Nat) (u:α) (r:List α),l.drop k=u::r→p u=true→(bu p l k0=k0+(k:Nat)↔(l.take k).any p=false)
 | [],k0,k,u,r,h,hp=>by simp at h
 | x::l,k0,0,u,r,h,hp=>by
  simp only[List.drop_zero,aBw]at h;simp[bu,h.1,hp]
 | x::l,k0,k+1,u,r,h,hp=>by
  simp only[List.drop_succ_cons]at h;have ih:=BU l (k0+1) k u r h hp;simp only[bu,List.take_succ_cons,aBS];cases hx:p x
  ·simp only[azI,aBL];rw[← ih];omega
  ·simp only[azH,Bool.true_or];constructor
   ·intro h;omega
   ·intro h;cases h
open Go.Proofs
noncomputable def OX:cX:=zC [ni] (dE [(6,([(0,[]),(1,[]),(2,[]),(3,[]),(4,[]),(5,[]),(6,[]),(7,[]),(8,[]),(9,[]),(10,[]),(11,[]),(12,[]),(13,[]),(14,[])],[(29,42)]))]) 44
def Ad:Nat→LD:=eO [(0,⟨[.c 0 (.sl aF),.c 1 (zI),.list 5 999 64 15 bg,.c 6 (zI)],[],0⟩)]
noncomputable def abS(f:Nat)(a:(List ag)×Int):Option ((List aL)):=aG OX Ad (zK [.tmp 4] [.o 64 15 bg]) f [.code (aB Tryz.f68)] (aQ [.c (.sl aF),.c zI] a)
noncomputable def lS(f:Nat)(x:(List ag)×Int×(List aL)×Int):Option ((List aL)):=aG OX Ad (zK [.tmp 4] [.o 64 15 bg]) f (aV Tryz.f68 0) ((Ad 0).mk' x)
theorem U8(f:Nat)(l:List ag)(core:Int):abS (f+1) (l,core) =
  lS f (l,core,List.replicate (Int.toNat 12) zq2,0):=by kernel_rfl
theorem yv(f:Nat)(l:List ag)(core:Int)(out:List aL)(i:Int):lS (f+1) (l,core,out,i) =
  bif decide (i<(↑l.length:Int))then bif decide (0≤i)&&decide (i<(↑l.length:Int))then bif(l.getD i.toNat zq1).1 == core then bif decide (0≤i)&&decide (i<(↑l.length:Int))then bif decide ((l.getD i.toNat zq1).2.1<12)then bif decide (0≤i)&&decide (i<(↑l.length:Int))then bif decide (0≤i)&&decide (i<(↑l.length:Int))then bif af (l.getD i.toNat zq1).2.2.2.2.2.1 then bif decide (0≤(l.getD i.toNat zq1).2.1)&&decide ((l.getD i.toNat zq1).2.1<(↑out.length:Int))then lS f (l,core,out.set (Int.toNat (l.getD i.toNat zq1).2.1) ((l.getD i.toNat zq1).2.2.1,(l.getD i.toNat zq1).2.2.2.1,(l.getD i.toNat zq1).2.2.2.2.1,(l.getD i.toNat zq1).2.2.2.2.2.1,(l.getD i.toNat zq1).2.2.2.2.2.2.1,(l.getD i.toNat zq1).2.2.2.2.2.2.2.1,(l.getD i.toNat zq1).2.2.2.2.2.2.2.2.1,(l.getD i.toNat zq1).2.2.2.2.2.2.2.2.2.1,(l.getD i.toNat zq1).2.2.2.2.2.2.2.2.2.2.1,(l.getD i.toNat zq1).2.2.2.2.2.2.2.2.2.2.2.1,(l.getD i.toNat zq1).2.2.2.2.2.2.2.2.2.2.2.2,(out.getD (Int.toNat (l.getD i.toNat zq1).2.1) zq2).2.2.2.2.2.2.2.2.2.2.2),IntKind.i64.wrap (i+1))else none else none else none else none else lS f (l,core,out,IntKind.i64.wrap (i+1))else none else lS f (l,core,out,IntKind.i64.wrap (i+1))else none else some out:=by kernel_rfl
noncomputable def j3:List ag→((List ag)×Int×(List aL)×Nat)→(List aL)
 | [],(l,core,out,i)=>out
 | uu::rest,(l,core,out,i)=>bif uu.1 == core then bif decide (uu.2.1<12)then j3 rest (l,core,out.set (Int.toNat uu.2.1) (uu.2.2.1,uu.2.2.2.1,uu.2.2.2.2.1,uu.2.2.2.2.2.1,uu.2.2.2.2.2.2.1,uu.2.2.2.2.2.2.2.1,uu.2.2.2.2.2.2.2.2.1,uu.2.2.2.2.2.2.2.2.2.1,uu.2.2.2.2.2.2.2.2.2.2.1,uu.2.2.2.2.2.2.2.2.2.2.2.1,uu.2.2.2.2.2.2.2.2.2.2.2.2,(out.getD (Int.toNat uu.2.1) zq2).2.2.2.2.2.2.2.2.2.2.2),i+1)else j3 rest (l,core,out,i+1)else j3 rest (l,core,out,i+1)
noncomputable def jW:List ag→((List ag)×Int×(List aL)×Nat)→Bool
 | [],(l,core,out,i)=>true
 | uu::rest,(l,core,out,i)=>bif uu.1 == core then bif decide (uu.2.1<12)then af uu.2.2.2.2.2.1&&(decide (0≤uu.2.1)&&decide (uu.2.1<(↑out.length:Int))&&jW rest (l,core,out.set (Int.toNat uu.2.1) (uu.2.2.1,uu.2.2.2.1,uu.2.2.2.2.1,uu.2.2.2.2.2.1,uu.2.2.2.2.2.2.1,uu.2.2.2.2.2.2.2.1,uu.2.2.2.2.2.2.2.2.1,uu.2.2.2.2.2.2.2.2.2.1,uu.2.2.2.2.2.2.2.2.2.2.1,uu.2.2.2.2.2.2.2.2.2.2.2.1,uu.2.2.2.2.2.2.2.2.2.2.2.2,(out.getD (Int.toNat uu.2.1) zq2).2.2.2.2.2.2.2.2.2.2.2),i+1))else jW rest (l,core,out,i+1)else jW rest (l,core,out,i+1)
theorem wm:∀(rest l:List ag) (core:Int) (out:List aL) (i:Nat) (hd:l.drop i=rest) (hl:l.length≤1099511627776),de (fun f=>lS f (l,core,out,((i:Nat):Int))) (jW rest (l,core,out,i)) (j3 rest (l,core,out,i))
 | [],l,core,out,i,hd,hl=>ai (fun f=>(yv f _ _ _ _).trans (by simp only[fA (bT hd),fW,azP,azI]<;>rfl)) ae
 | uu::rest,l,core,out,i,hd,hl=>ai (fun f=>(yv f _ _ _ _).trans (by simp only[cK (ak hd),bC hd,bk (ak hd) hl,fW,azQ,azH]<;>rfl)) (ao (ao (aI (aI (wm rest _ _ _ _ (aH hd) hl))) (wm rest _ _ _ _ (aH hd) hl)) (wm rest _ _ _ _ (aH hd) hl))
noncomputable def acO:((List ag)×Int)→(List aL)
 | (l,core)=>j3 l (l,core,List.replicate (Int.toNat 12) zq2,0)
noncomputable def N2:((List ag)×Int)→Bool
 | (l,core)=>decide (l.length≤1099511627776)&&jW l (l,core,List.replicate (Int.toNat 12) zq2,0)
theorem TC:∀a:(List ag)×Int,de (fun f=>abS f a) (N2 a) (acO a)
 | (l,core)=>ai (fun f=>U8 f _ _) (bL fun hh=>wm _ _ _ _ _ rfl (azZ hh))
def gm(core:Int)(out:List aL)(e:ag):List aL:=bif decide (e.1=core)&&decide (e.2.1<12)then out.set e.2.1.toNat (Ys e.2.2 (Ju (out.getD e.2.1.toNat iR)) (nU (out.getD e.2.1.toNat iR)))else out
def M4(a:List ag×Int):List aL:=a.1.foldl (gm a.2) (List.replicate 12 iR)
def oE(a:List ag×Int):Bool:=af a.1&&a.1.all fun e=>decide (0≤e.2.1)&&af e.2.2.2.2.2.1
theorem sV(core:Int)(out:List aL)(e:ag):(gm core out e).length=out.length:=by
 simp only[gm];cases decide (e.1=core)&&decide (e.2.1<12)<;>simp
theorem M3(l:List ag)(core:Int):∀(r:List ag) (out:List aL) (k:Nat),out.length=12→(∀e∈r,0≤e.2.1∧af e.2.2.2.2.2.1=true)→j3 r (l,core,out,k)=r.foldl (gm core) out∧jW r (l,core,out,k)=true
 | [],out,k,h,hr=>⟨rfl,rfl⟩
 | u::r,out,k,h,hr=>by
  obtain⟨h1,h2⟩:=hr u (az1 ..);obtain⟨i1,i2⟩:=M3 l core r (gm core out u) (k+1) (by rw[sV,h]) (fun e he=>hr e (az6 _ he));simp only[j3,jW,xm,aAN,← i1,h2,azP,azC h1];by_cases c1:u.1=core
  ·by_cases c2:u.2.1<12
   ·have e1:gm core out u=out.set u.2.1.toNat (Ys u.2.2 (Ju (out.getD u.2.1.toNat iR)) (nU (out.getD u.2.1.toNat iR))):=by simp only[gm,azC c1,azC c2];rfl
    rw[e1]at i2 ⊢;simp only[azC c1,azC c2,azH,azC (show u.2.1<((out.length:Nat):Int)by omega)];exact⟨rfl,i2⟩
   ·have e1:gm core out u=out:=by simp only[gm,azC c1,azK c2];rfl
    rw[e1]at i2 ⊢;simp only[azC c1,azK c2,azH,azI];exact⟨trivial,i2⟩
  ·have e1:gm core out u=out:=by simp only[gm,azK c1];rfl
   rw[e1]at i2 ⊢;simp only[azK c1,azI];exact⟨trivial,i2⟩
theorem Ef{l:List ag}{c:Int}(h:oE (l,c)=true):l.length≤1099511627776∧∀e∈l,0≤e.2.1∧af e.2.2.2.2.2.1=true:=by
 simp only[oE,azF]at h;refine⟨azZ h.1,fun e he=>?_⟩;have:=azU.1 h.2 e he;simp only[azF,azM]at this;exact this
theorem ali:∀a,oE a=true→N2 a=true:=by
 rintro⟨l,c⟩ h;obtain⟨h1,h2⟩:=Ef h;have:=(M3 l c l (List.replicate 12 iR) 0 rfl h2).2;simp only[N2,azC h1,azP];exact this
theorem alj:∀a,oE a=true→acO a=M4 a:=by
 rintro⟨l,c⟩ h;exact(M3 l c l (List.replicate 12 iR) 0 rfl (Ef h).2).1
noncomputable def OP:dn:=⟨68,[.c (.sl aF),.c zI],[.o 64 15 bg],oE,M4⟩
theorem VG:zO OP:=fl OX Ad [.tmp 4] mixed (ah gR (aC)) Tryz.func68 (bp TC ali alj)
theorem Es(steps:List iz):oE (aD steps,0)=true:=by
 obtain⟨h1,h2⟩:=rj steps;simp only[oE,azF];refine⟨azC (by omega),azU.2 fun e he=>?_⟩;simp only[azF,azM];exact⟨(h1.cs e he).2.1,azC (az0 (h1.path he) (by omega))⟩
