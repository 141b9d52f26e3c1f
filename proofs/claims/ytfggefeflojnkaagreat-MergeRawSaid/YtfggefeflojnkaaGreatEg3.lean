/- By an AI agent. -/
import Derived.Test.YtfggefeflojnkaaGreatEg1
set_option linter.unusedSimpArgs false
set_option linter.unusedVariables false
namespace Go.AL
open Go.Proofs
abbrev aJ:List Ty:=[.int .i64,.int .i64,.int .i64,.int .i64,.int .i64,.sl [.int .i64,.int .i64,.int .i64],.int .i64,.int .i64,.int .i64,.int .i64,.int .i64,.int .i64,.bool]
abbrev ay:=Int×Int×Int×Int×Int×(List (Int×Int×Int))×Int×Int×Int×Int×Int×Int×Bool
def place(a:Int×Int):Int:=bif decide (a.2<1)then 0 else a.1 % a.2
def small(a:Int×Int):Rg:=(place (a.1,p2 (16-(6+place (a.2,11))))*p2 (6+place (a.2,11)),6+place (a.2,11))
theorem zq{a b:Bool}(h:b=true):(bif a then true else b)=true:=by cases a<;>simp[h]
def CJ(a:List Int×Int):Int:=bif decide (a.2<0)then 0 else bif decide (a.2≥((a.1.length:Nat):Int))then 0 else a.1.getD a.2.toNat 0
def eid(e:ay):al:=C0 e.2.2
def Rz(e:ay):List al:=dk e.2.2
def U3(e:ay):oF:=Ur e.2.2
def zg(l:List ay):Bool:=decide (l.length≤1099511627776)&&l.all fun e=>af e.2.2.2.2.2.1
theorem ze{l:List ay}(h:zg l=true):l.length≤1099511627776:=by
 simp only[zg,aCs,aCy]at h;exact h.1
theorem uE{l:List ay}(h:zg l=true){e:ay}(he:e∈l):af e.2.2.2.2.2.1=true:=by
 simp only[zg,aCs]at h;exact aCG.1 h.2 e he
theorem Np{l:List ay}(h1:l.length≤1099511627776)(h2:∀e∈l,af e.2.2.2.2.2.1=true):zg l=true:=by
 simp only[zg,aCs,aCy];exact⟨h1,aCG.2 h2⟩
noncomputable def Hv:cR:=⟨Tryz.prog,[iX],dn [(5,([(0,[]),(1,[]),(2,[]),(3,[]),(4,[]),(5,[]),(6,[]),(7,[]),(8,[]),(9,[]),(10,[]),(11,[]),(12,[]),(13,[]),(14,[]),(15,[]),(16,[]),(17,[]),(18,[]),(19,[]),(20,[])],[(3,3),(11,30)]))],32,[],[],[],[]⟩
theorem abt:bp Tryz.prog [iX] [] []:=ak nR (aD)
def vO:Nat→LD:=ej [(0,⟨[.rd 0 aJ,.list 3 999 69 13 aJ,.c 4 (.int .i64)],[],0⟩)]
noncomputable def R6(f:Nat)(a:(List (ay))):Option ((List (ay))):=(aG (Hv) vO (aQ Tryz.prog [.tmp 2] [.o 69 13 aJ]) f [.code (aC Tryz.f137)] (aV [.rd aJ] a):Option (aA [.o 69 13 aJ]))
noncomputable def mj(f:Nat)(x:(List (ay))×(List (ay))×Int):Option ((List (ay))):=(aG (Hv) vO (aQ Tryz.prog [.tmp 2] [.o 69 13 aJ]) f (aK Tryz.f137 0) ((vO 0).mk' x):Option (aA [.o 69 13 aJ]))
theorem OH(f:Nat)(l:List (ay)):R6 (f+1) l =
  mj f (l,[],0):=by kernel_rfl
theorem wb(f:Nat)(l:List (ay))(out:List (ay))(i:Int):mj (f+1) (l,out,i) =
  bif decide (i<(↑l.length:Int))then bif decide (0≤i)&&decide (i<(↑l.length:Int))then bif decide (0≤i)&&decide (i<(↑l.length:Int))then bif decide (0≤i)&&decide (i<(↑l.length:Int))then bif af (l.getD i.toNat zq1).2.2.2.2.2.1 then bif decide ((out.length+[((l.getD i.toNat zq1).1,(l.getD i.toNat zq1).2.1,(l.getD i.toNat zq1).2.2)].length)*120≤140737488355328)then mj f (l,out++[l.getD i.toNat zq1],IntKind.i64.wrap (i+1))else none else none else none else none else none else some out:=by kernel_rfl
noncomputable def je:List (ay)→((List (ay))×(List (ay))×Nat)→(List (ay))
 | [],(l,out,i)=>out
 | uu::rest,(l,out,i)=>je rest (l,out++[uu],i+1)
noncomputable def l5:List (ay)→((List (ay))×(List (ay))×Nat)→Bool
 | [],(l,out,i)=>true
 | uu::rest,(l,out,i)=>af uu.2.2.2.2.2.1&&(decide ((out.length+1)*120≤140737488355328)&&l5 rest (l,out++[uu],i+1))
theorem EJ:∀(rest:List (ay)) (l:List (ay)) (out:List (ay)) (i:Nat) (hd:l.drop i=rest) (hl:l.length≤1099511627776),cj (fun f=>mj f (l,out,((i:Nat):Int))) (l5 rest (l,out,i)) (je rest (l,out,i))
 | [],l,out,i,hd,hl=>ah (fun f=>(wb f _ _ _).trans (by simp only[bW (aY hd),cB,aCw,aCu,aCn,aCq,aCx]<;>rfl)) ae
 | uu::rest,l,out,i,hd,hl=>ah (fun f=>(wb f _ _ _).trans (by simp only[bl (ag hd),aI hd,aM (ag hd) hl,aR (ag hd),cB,aCw,aCu,aCn,aCq,aCx]<;>rfl)) (aE (aE (EJ rest _ _ _ (by first | exact aq hd | exact drop_set hd | exact au (drop_set hd)) (by first | exact hl | simpa using hl))))
noncomputable def G9:(List (ay))→(List (ay))
 | l=>je l (l,[],0)
noncomputable def GJ:(List (ay))→Bool
 | l=>decide (l.length≤1099511627776)&&l5 l (l,[],0)
theorem M9:∀a:(List (ay)),cj (fun f=>R6 f a) (GJ a) (G9 a)
 | l=>ah (fun f=>OH f _) (bC fun hh=>EJ _ _ _ _ rfl (aCE hh))
theorem Fj(l:List ay):∀(r:List ay) (out:List ay) (k:Nat),(∀e∈r,af e.2.2.2.2.2.1=true)→out.length+r.length≤1099511627776→je r (l,out,k)=out++r∧l5 r (l,out,k)=true
 | [],out,k,h,hl=>⟨by simp[je],rfl⟩
 | u::r,out,k,h,hl=>by
  obtain⟨i1,i2⟩:=Fj l r (out++[u]) (k+1) (fun e he=>h e (aCQ _ he)) (by simp at hl ⊢;omega);have h1:=h u (aCK ..);simp only[je,l5,i1,i2,h1];exact⟨by simp,by simp at hl ⊢;omega⟩
theorem ahC:∀a,zg a=true→GJ a=true:=fun a h=>by
 simp only[GJ,(Fj a a [] 0 (fun e he=>uE h he) (by simpa using ze h)).2,aCT];exact aCm (ze h)
theorem ahD:∀a,zg a=true→G9 a=a:=fun a h=>by
 simp only[G9,(Fj a a [] 0 (fun e he=>uE h he) (by simpa using ze h)).1,aC1]
abbrev Uf:=bm M9 ahC ahD
noncomputable def wC:db:=⟨137,[.rd aJ],[.o 69 13 aJ],fun a=>(zg:(List (ay))→Bool) a,fun a=>(fun a=>a:(List (ay))→(List (ay))) a⟩
theorem Ck:wC.Ok Tryz.prog:=eB (C:=Hv) (Lt:=vO) (rs:=[.tmp 2]) mixed abt Tryz.func137 rfl rfl rfl (by kernel_rfl) (by kernel_rfl) Uf
def aL{α:Type}(p:α→Bool):List α→Int→Int
 | [],_=>-1
 | u::r,k=>bif p u then k else aL p r (k+1)
def rgC(c:oF):Rg:=(c.2.1,c.2.2.1)
def rgE(e:ay):Rg:=rgC (U3 e)
theorem lJ{α:Type}(p:α→Bool):∀(l:List α) (k:Int),0≤k→aL p l k<k+l.length
 | [],k,h=>by simp only[aL,aCB];omega
 | u::r,k,h=>by
  have:=lJ p r (k+1) (by omega);simp only[aL,aCv];cases p u
  ·simp only[aCq];omega
  ·simp only[aCn];omega
theorem rR(a b:al):cf (a,b)=true↔a.1<b.1∨(a.1=b.1∧(a.2.1<b.2.1∨(a.2.1=b.2.1∧a.2.2<b.2.2))):=by
 simp only[cf];by_cases h1:a.1=b.1
 ·by_cases h2:a.2.1=b.2.1
  ·simp[h1,h2]
  ·simp[h1,h2]
 ·simp[h1]
theorem oW(a:al):cf (a,a)=false:=by
 cases h:cf (a,a)with
 | false=>rfl
 | true=>rw[rR]at h;simp only at h;omega
theorem mQ{a b c:al}(h1:cf (a,b)=true)(h2:cf (b,c)=true):cf (a,c)=true:=by
 rw[rR]at *;omega
theorem tk{a b:al}(h:cf (a,b)=false)(ec:a ≠ b):cf (b,a)=true:=by
 have h1:¬ (cf (a,b)=true):=by rw[h];simp
 rw[rR]at h1 ⊢;have h2:¬ (a.1=b.1∧a.2.1=b.2.1∧a.2.2=b.2.2):=fun h=>ec (Prod.ext h.1 (Prod.ext h.2.1 h.2.2))
 omega
theorem A5{a b:al}(h1:cf (a,b)=true):cf (b,a)=false:=by
 cases h:cf (b,a)with
 | false=>rfl
 | true=>have:=mQ h1 h;rw[oW]at this;cases this
theorem jz{α:Type}{p:α→Bool}:∀{l:List α} {k:Int},0≤k→((∀x∈l,p x=false)↔aL p l k = -1)
 | [],k,h=>by simp[aL]
 | u::r,k,h=>by
  have ih:=jz (p:=p) (l:=r) (k:=k+1) (by omega);simp only[aL,aCJ,forall_eq_or_imp];cases hp:p u
  ·simp only[aCq];rw[← ih];simp
  ·simp only[aCn];constructor
   ·intro h;cases h.1
   ·intro h;omega
theorem abh{α:Type}{p:α→Bool}{l:List α}{k:Int}(hk:0≤k):0≤aL p l k∨aL p l k = -1:=by
 by_cases h:∀x∈l,p x=false
 ·exact .inr ((jz hk).1 h)
 ·have:¬ aL p l k = -1:=fun e=>h ((jz hk).2 e)
  left;induction l generalizing k with
  | nil=>simp at h
  | cons u r ih=>
   simp only[aL]at this ⊢;cases hp:p u
   ·rw[hp]at this
    simp only[aCq]at this ⊢;exact ih (by omega) (fun h2=>h (fun x hx=>by
     rcases aCJ.1 hx with rfl | hx
     ·exact hp
     ·exact h2 x hx)) this
   ·simpa using hk
def anc(p e:ay):Prop:=∀k,(Rz e)[k]? = some (eid p)→Rz p=(Rz e).take k∧contains (rgE p,rgE e)=true∧((U3 p).1=1∨arQ (U3 p,U3 e)=true)
structure Vf (m:Int) (l:List ay):Prop where
 node:∀e∈l,ee e.2.2=true
 cs:∀e∈l,(0≤e.1∧e.1<4)∧(0≤e.2.1∧e.2.1<64)
 sorted:l.Pairwise (fun a b=>cf (eid a,eid b)=true)
 ai:∀a∈l,∀b∈l,a.1=b.1→a.2.1=b.2.1→a=b
 aBo:∀a∈l,∀b∈l,atW (U3 a,U3 b)=true
 anc:∀p∈l,∀e∈l,anc p e
 ops:∀e∈l,(eid e).2.1≤m∧∀q∈Rz e,q.2.1≤m
 idc:∀e∈l,(eid e).1=e.1
structure ayJ (src:oF) (l:List oF):Prop where
 ay8:src.1=1
 len:l.length≤8
 bZ:∀c∈l,nT c=true∧contains (rgC src,rgC c)=true
 apart:l.Pairwise (fun a b=>overlaps (rgC a,rgC b)=false)
open Go.Proofs
theorem any_false{α:Type}{p:α→Bool}{l:List α}(h:l.any p=false):∀x∈l,p x=false:=fun x hx=>by
 cases h2:p x with
 | false=>rfl
 | true=>rw[aEf.2 ⟨x,hx,h2⟩]at h;cases h
