/- By an AI agent. -/
import Derived.Test.YtfggefeflojnkaaGreatAlVal
set_option linter.unusedSimpArgs false
set_option linter.unusedVariables false
namespace Go.AL
structure Ev (w0 w:World) (I:Nat→Prop):Prop where
 os:w.os=w0.os
 tape:w.tape=w0.tape
 output:w.output=w0.output
 size:w0.heap.size≤w.heap.size
 block:∀k,k<w0.heap.size→¬ I k→w.heap[k]? = w0.heap[k]?
structure sy where
 P:Nat→Prop
 q:Nat→Prop
 β0:Nat→Option Nat
 len:Nat→Nat
 sv:Nat→Value
structure RB (w0:World) (I:sy) (A0:Nat→Prop) (n:Nat) (s:St) (a:Act) (w:World) (β:Nat→Option Nat) (A:Nat→Prop):Prop where
 defers:a.defers=[]
 size:a.tmps.size=n
 ai:∀i,Rel ⟨w,A,s.h,β⟩ (s.t i) (nU I.sv a i)
 cq:cz ⟨w,A,s.h,β⟩
 a0:∀b,b<w0.heap.size→A0 b→A b
 ev:Ev w0 w I.P
 own:∀o ob b,s.h o=some ob→β o=some b→w0.heap.size≤b∨I.P b
 qn:∀o,I.q o→n≤o∧o<1000
 pin:∀o ob,I.q o→s.h o=some ob→I.len o≤ob.rows.length∧(ob.rows.length=I.len o→β o=I.β0 o∧∀b ct,I.β0 o=some b→w0.heap[b]? = some (.cells ct ob.ty (0,0))→∃cur,w.heap[b]? = some (.cells cur ob.ty (0,0))∧cur.size=ct.size)
def RR(w0:World)(I:sy)(A0:Nat→Prop)(n:Nat)(s:St)(a:Act)(w:World):Prop:=∃β A,RB w0 I A0 n s a w β A
def RRf(w0:World)(I:sy)(A0:Nat→Prop)(n:Nat)(s:St)(a:Act)(w:World)(d:Nat):Prop:=∃β A,RB w0 I A0 n s a w β A∧∀b,β d=some b→w0.heap.size≤b
def St.put(s:St)(d:Option Nat)(v:V):St:=match d with
 | some d=>⟨fun i=>if i=d then v else s.t i,s.h⟩
 | none=>s
theorem XW(a:Act)(d:Option Tmp)(u:Value)(i:Nat)(n:Nat)(hn:a.tmps.size=n)(hd:∀k,d=some k→k<n):
  (a.put d u).tmps.getD i undef=if d=some i then u else a.tmps.getD i undef:=by
 cases d with
 | none=>simp[Act.put]
 | some d=>
  have:=hd d rfl;simp only[Act.put,aCA];by_cases h:d=i
  ·subst h
   simp[aDr,hn,this]
  ·simp[aDr,h]
theorem TE(sv:Nat→Value)(a:Act)(d:Option Tmp)(u:Value)(i:Nat)(n:Nat)(hn:a.tmps.size=n)(hd:∀k,d=some k→k<n):
  nU sv (a.put d u) i=if d=some i then u else nU sv a i:=by
 have hs:(a.put d u).tmps.size=a.tmps.size:=by cases d<;>simp[Act.put]
 have ht:=XW a d u i n hn hd;by_cases h:d=some i
 ·have h1:=hd i h
  rw[aCr h]at ht ⊢;rw[JQ (.inr (by rw[hs,hn];exact h1)),ht]
 ·rw[aCo h]at ht ⊢
  unfold nU;rw[ht,hs]
theorem RB.step{w0:World}{I:sy}{A0:Nat→Prop}{n:Nat}{s:St}{a:Act}{w:World}{β:Nat→Option Nat}{A:Nat→Prop}(R:RB w0 I A0 n s a w β A)
  (w':World) (β':Nat→Option Nat) (A':Nat→Prop) (h':Nat→Option Ob) (K:Nat→Bool)
  (S:Step ⟨w,A,s.h,β⟩ ⟨w',A',h',β'⟩) (hk:∀p,K p=false→rz ⟨w,A,s.h,β⟩ ⟨w',A',h',β'⟩ p) (aZ:cz ⟨w',A',h',β'⟩)
  (ha0:∀b,b<w0.heap.size→A0 b→A' b) (bL:Ev w0 w' I.P) (fq:∀o ob b,h' o=some ob→β' o=some b→w0.heap.size≤b∨I.P b)
  (hK:∀o,I.q o→K o=true→h' o=none)
  (d:Option Tmp) (hd:∀k,d=some k→k<n) (v:V) (u:Value) (hv:Rel ⟨w',A',h',β'⟩ v u) :
  RB w0 I A0 n (St.put ⟨fun i=>(s.t i).kill K,h'⟩ d v) (a.put d u) w' β' A':=by
 have hh:(St.put ⟨fun i=>(s.t i).kill K,h'⟩ d v).h=h':=by cases d<;>rfl
 refine⟨?_,?_,fun i=>?_,by rw[hh];exact aZ,ha0,bL,by rw[hh];exact fq,R.qn,?_⟩
 rotate_left 3
 ·rw[hh]
  intro o ob' hq dW;have hKf:K o=false:=by
   cases hx:K o with
   | false=>rfl
   | true=>rw[hK o hq hx]at dW;cases dW
  obtain⟨ob,ho,hle,heq⟩:=hk o hKf ob' dW;simp only at ho;have hp:=R.pin o ob hq ho;refine⟨aCO hp.1 hle,fun e=>?_⟩;have e2:ob'.rows.length=ob.rows.length:=by omega
  obtain⟨q1,q2,q3,q4⟩:=heq e2;obtain⟨p1,p2⟩:=hp.2 (by omega);simp only at q1 q4;refine⟨q1.trans p1,fun b ct hb hc=>?_⟩;rw[q3]at hc;obtain⟨cur,c1,c2⟩:=p2 b ct hb hc;obtain⟨cur',d1,d2⟩:=q4 b cur (by rw[p1];exact hb) c1;exact⟨cur',by rw[q3];exact d1,d2.trans c2⟩
 ·cases d<;>exact R.defers
 ·cases d
  ·exact R.size
  ·simpa [Act.put]using R.size
 ·rw[hh,TE I.sv a d u i n R.size hd]
  cases d with
  | none=>
   simp only[St.put];exact(R.ai i).step R.cq S K hk
  | some d=>
   simp only[St.put,aCA];by_cases hi:i=d
   ·rw[aCr hi,aCr hi.symm];exact hv
   ·rw[aCo hi,aCo (fun e=>hi e.symm)]
    exact(R.ai i).step R.cq S K hk
theorem cZ.refl(X:Nat→Prop)(w:World):cZ X w w:=fun _ _ _=>rfl
theorem rz.refl(E:Env)(o:Nat):rz E E o:=fun ob ho=>⟨ob,ho,aCt _,fun _=>⟨rfl,rfl,rfl,fun b cur _ hc=>⟨cur,hc,rfl⟩⟩⟩
theorem Step.refl(E:Env):Step E E:=⟨cZ.refl _ _,aCt _,fun _ _ h=>h,fun _ _ h=>h⟩
theorem RB.put{w0:World}{I:sy}{A0:Nat→Prop}{n:Nat}{s:St}{a:Act}{w:World}{β:Nat→Option Nat}{A:Nat→Prop}(R:RB w0 I A0 n s a w β A)
  (d:Option Tmp) (hd:∀k,d=some k→k<n) (v:V) (u:Value) (hv:Rel ⟨w,A,s.h,β⟩ v u):RB w0 I A0 n (s.put d v) (a.put d u) w β A:=by
 have:=R.step w β A s.h (fun _=>false) (Step.refl _) (fun p _=>rz.refl _ p) R.cq R.a0 R.ev R.own (fun _ _ h=>by cases h) d hd v u hv;have e:(⟨fun i=>(s.t i).kill fun _=>false,s.h⟩:St)=s:=by simp only[V.bV]
 rwa [e]at this
theorem RB.drew{w0:World}{I:sy}{A0:Nat→Prop}{n:Nat}{s:St}{a:Act}{w:World}{β:Nat→Option Nat}{A:Nat→Prop}(R:RB w0 I A0 n s a w β A)(k:Nat):
  RB w0 I A0 n s a {w with drawn:=k } β A:=by
 have S:Step ⟨w,A,s.h,β⟩ ⟨{w with drawn:=k },A,s.h,β⟩:=⟨fun _ _ _=>rfl,aCt _,fun _ _ h=>h,fun _ _ h=>h⟩;have hk:∀p,rz ⟨w,A,s.h,β⟩ ⟨{w with drawn:=k },A,s.h,β⟩ p:=fun p ob ho=>⟨ob,ho,aCt _,fun _=>⟨rfl,rfl,rfl,fun b cur _ hc=>⟨cur,hc,rfl⟩⟩⟩
 have:=R.step {w with drawn:=k } β A s.h (fun _=>false) S (fun p _=>hk p)
  ⟨fun o ob ho=>by
   have:=sR.step R.cq S (fun _=>false) (fun p _=>hk p) (fun b hb=>⟨rfl,?_⟩) (R.cq.ok o ob ho)
   ·rwa [Ob.bV]at this
   ·have h2:=R.cq.ok o ob ho
    simp only at h2 hb;rw[hb]at h2;exact h2.1,R.cq.inj,R.cq.lt⟩ R.a0 ⟨R.ev.os,R.ev.tape,R.ev.output,R.ev.size,R.ev.block⟩ R.own (fun _ _ h=>by cases h) none (fun _ h=>by cases h) .dead undef trivial
 have e:(⟨fun i=>(s.t i).kill fun _=>false,s.h⟩:St)=s:=by simp only[V.bV]
 rw[e]at this;exact this
def eS(h:Nat→Option Ob)(d:Nat)(ob:Ob):Nat→Option Ob:=fun p=>if p=d then some (ob.kill (· == d))else(h p).map (Ob.kill (· == d))
def St.new(s:St)(d:Nat)(ob:Ob)(v:V):St:=⟨fun i=>if i=d then v else(s.t i).kill (· == d),eS s.h d ob⟩
theorem RB.new{w0:World}{I:sy}{A0:Nat→Prop}{n:Nat}{s:St}{a:Act}{w:World}{β:Nat→Option Nat}{A:Nat→Prop}(R:RB w0 I A0 n s a w β A)
  (d:Nat) (hd:d<n) (ob:Ob) (cur:Array Value) (w':World) (hw':w'.heap=w.heap.push (.cells cur ob.ty)) (NF:w'.os=w.os∧w'.tape=w.tape∧w'.output=w.output)
  (bQ:∀row∈ob.rows,row.length=ob.es) (hlen:ob.rows.length*ob.es≤cur.size)
  (hc:∀(i:Nat) (row:List V),ob.rows[i]? = some row→∀(j:Nat) (x:V),row[j]? = some x→∃v,cur[i*ob.es+j]? = some v∧v.oneCell'=true∧bB ⟨w,A,s.h,β⟩ x v∧(ob.imp=false→bh w A x v))
  (v:V) (u:Value)
  (hv:(v=.ptr d ob.rows.length 0 0∧u=.pointer (some ⟨w.heap.size,0,none⟩))∨
   (v=.ref d ob.rows.length∧∃cap,u=.slice (some ⟨w.heap.size,0,none⟩) ob.rows.length cap∧ob.rows.length≤cap∧cap≤maxLen∧cur.size=cap*ob.es)) :
  RB w0 I A0 n (s.new d ob v) (a.put (some d) u) w' (fun p=>if p=d then some w.heap.size else β p) (fun b=>A b∨b=w.heap.size):=by
 have dC:w'.heap.size=w.heap.size+1:=by rw[hw'];simp
 have hold:∀b,b<w.heap.size→w'.heap[b]? = w.heap[b]?:=fun b hb=>by
  rw[hw',aEK];rw[aCo (by omega)]
 have xh:w'.heap[w.heap.size]? = some (.cells cur ob.ty (0,0)):=by rw[hw'];simp
 have lH:∀o ob' b,s.h o=some ob'→β o=some b→b<w.heap.size:=fun o ob' b ho hb=>by
  have:=R.cq.ok o ob' ho;simp only at this;rw[hb]at this;exact R.cq.lt b this.1
 have S:Step ⟨w,A,s.h,β⟩ ⟨w',fun b=>A b∨b=w.heap.size,eS s.h d ob,fun p=>if p=d then some w.heap.size else β p⟩:=by
  refine⟨fun b hb _=>hold b hb,by simp[dC],fun b hb h=>?_,fun b hb h=>?_⟩
  ·rcases h with h | h
   ·exact h
   ·simp only at hb;omega
  ·obtain⟨o,ob',ho,UM⟩:=h
   simp only[eS]at ho UM;by_cases dW:o=d
   ·rw[aCr dW]at UM
    simp only[aCA]at UM;simp only at hb;omega
   ·rw[aCo dW]at ho UM
    cases dG:s.h o with
    | none=>simp[dG]at ho
    | some bM=>exact⟨o,bM,dG,UM⟩
 have hk:∀p,(p == d)=false→rz ⟨w,A,s.h,β⟩ ⟨w',fun b=>A b∨b=w.heap.size,eS s.h d ob,fun p=>if p=d then some w.heap.size else β p⟩ p:=by
  intro p hp ob' dW;have hpd:p ≠ d:=by simpa using hp
  simp only[eS,aCo hpd]at dW ⊢;cases dG:s.h p with
  | none=>simp[dG]at dW
  | some bM=>
   simp[dG]at dW;subst dW;refine⟨bM,rfl,by rw[Ob.dm];exact aCt _,fun _=>⟨trivial,Ob.eQ _ _,Ob.gP _ _,fun b cur' hb fw=>⟨cur',?_,rfl⟩⟩⟩;rw[hold b (lH p bM b dG hb)];exact fw
 have aZ:cz ⟨w',fun b=>A b∨b=w.heap.size,eS s.h d ob,fun p=>if p=d then some w.heap.size else β p⟩:=by
  refine⟨fun o ob' ho=>?_,fun o o' tZ bM b h1 h2 h3 h4=>?_,fun b hb=>?_⟩
  ·simp only[eS]at ho ⊢
   by_cases CG:o=d
   ·rw[aCr CG]at ho
    simp only[aCA]at ho;subst ho;rw[aCr CG];refine⟨.inr rfl,cur,by rw[Ob.gP];exact xh,?_,by rw[Ob.dm,Ob.eQ];exact hlen,?_⟩
    ·intro row aO
     rw[Ob.eQ];unfold Ob.kill at aO
     split at aO
     ·simp only[aCN]at aO
      obtain⟨r,hr,rfl⟩:=aO;simpa using bQ r hr
     ·exact bQ row aO
    ·intro i row hi j x hx
     rw[Ob.eQ,Ob.uL];unfold Ob.kill at hi
     split at hi
     ·rename_i himp
      simp only[aDm]at hi;cases hri:ob.rows[i]? with
      | none=>simp[hri]at hi
      | some r=>
       simp[hri]at hi;subst hi;rw[aDm]at hx;cases hxj:r[j]? with
       | none=>simp[hxj]at hx
       | some y=>
        simp[hxj]at hx;subst hx;obtain⟨v,c1,c2,c3,_⟩:=hc i r hri j y hxj;exact⟨v,c1,c2,c3.step R.cq S _ hk,fun h=>by simp[himp]at h⟩
     ·rename_i himp
      obtain⟨v,c1,c2,_,c4⟩:=hc i row hi j x hx;have c5:=bh.step R.cq S (c4 (by simpa using himp));exact⟨v,c1,c2,bB.aU c5,fun _=>c5⟩
   ·rw[aCo CG]at ho ⊢
    cases dG:s.h o with
    | none=>simp[dG]at ho
    | some bM=>
     simp[dG]at ho;subst ho;have aX:=R.cq.ok o bM dG;exact sR.step R.cq S _ hk (fun b hb=>⟨hold b (lH o bM b dG hb),.inl (by simp only at aX;rw[hb]at aX;exact aX.1)⟩) aX
  ·simp only[eS]at h1 h2 h3 h4
   by_cases e1:o=d
   ·by_cases e2:o'=d
    ·rw[e1,e2]
    ·rw[aCr e1]at h3
     rw[aCo e2]at h2 h4;simp only[aCA]at h3;cases dG:s.h o' with
     | none=>simp[dG]at h2
     | some CE=>have:=lH o' CE b dG h4;omega
   ·by_cases e2:o'=d
    ·rw[aCr e2]at h4
     rw[aCo e1]at h1 h3;simp only[aCA]at h4;cases dG:s.h o with
     | none=>simp[dG]at h1
     | some CE=>have:=lH o CE b dG h3;omega
    ·rw[aCo e1]at h1 h3
     rw[aCo e2]at h2 h4;cases dG:s.h o with
     | none=>simp[dG]at h1
     | some CE=>
      cases Kv:s.h o' with
      | none=>simp[Kv]at h2
      | some ZZ=>exact R.cq.inj o o' CE ZZ b dG Kv h3 h4
  ·rcases hb with hb | hb
   ·have:=R.cq.lt b hb
    simp only at this ⊢;omega
   ·simp only at hb ⊢;omega
 have hvv:Rel ⟨w',fun b=>A b∨b=w.heap.size,eS s.h d ob,fun p=>if p=d then some w.heap.size else β p⟩ v u:=by
  rcases hv with⟨rfl,rfl⟩ | ⟨rfl,cap,rfl,h1,h2,h3⟩
  ·intro ob' dW
   simp only[eS,aC5,aCA]at dW;subst dW;exact⟨by rw[Ob.dm];exact aCt _,fun _=>⟨w.heap.size,by simp,by simp⟩⟩
  ·intro ob' dW
   simp only[eS,aC5,aCA]at dW;subst dW;refine⟨by rw[Ob.dm];exact aCt _,fun _=>?_⟩;simp only[aC5];exact⟨cap,cur,rfl,h1,h2,by rw[Ob.gP];exact xh,by rw[Ob.eQ];exact h3⟩
 have:=R.step w' _ _ (eS s.h d ob) (· == d) S hk aZ (fun b hb h=>.inl (R.a0 b hb h))
  ⟨NF.1.trans R.ev.os,NF.2.1.trans R.ev.tape,NF.2.2.trans R.ev.output,by have:=R.ev.size;omega,fun k hk hI=>by
   rw[hold k (by have:=R.ev.size;omega)];exact R.ev.block k hk hI⟩
  (fun o ob' b ho hb=>by
   simp only[eS]at ho;by_cases CG:o=d
   ·rw[aCr CG]at hb
    simp only[aCA]at hb;subst hb;exact .inl R.ev.size
   ·rw[aCo CG]at ho hb
    cases dG:s.h o with
    | none=>simp[dG]at ho
    | some bM=>exact R.own o bM b dG hb)
  (fun o hq h=>absurd (R.qn o hq).1 (by have h2:o=d:=(by simpa using h);omega))
  (some d) (fun k hk=>by cases hk;exact hd) v u hvv
 exact this
def gi(h:Nat→Option Ob)(o:Nat)(ob:Ob):Nat→Option Ob:=fun p=>if p=o then some ob else h p
def St.ca(s:St)(o:Nat)(ob:Ob):St:=⟨s.t,gi s.h o ob⟩
theorem RB.ahz{w0:World}{I:sy}{A0:Nat→Prop}{n:Nat}{s:St}{a:Act}{w:World}{β:Nat→Option Nat}{A:Nat→Prop}(R:RB w0 I A0 n s a w β A)
  (o:Nat) (ob ob':Ob) (ho:s.h o=some ob) (bQ:ob'.es=ob.es) (rS:ob'.ty=ob.ty) (hle:ob.rows.length≤ob'.rows.length)
  (w':World) (b':Nat) (cur':Array Value) (jb:w'.heap[b']? = some (.cells cur' ob.ty (0,0)))
  (KF:(β o=some b'∧∀cur,w.heap[b']? = some (.cells cur ob.ty (0,0))→cur'.size=cur.size)∨(b'=w.heap.size∧ob'.rows.length ≠ ob.rows.length))
  (aaZ:∀k,k<w.heap.size→β o ≠ some k→w'.heap[k]? = w.heap[k]?) (dC:w.heap.size≤w'.heap.size) (NF:w'.os=w.os∧w'.tape=w.tape∧w'.output=w.output)
  (aO:∀row∈ob'.rows,row.length=ob.es) (hlen:ob'.rows.length*ob.es≤cur'.size)
  (hc:∀(i:Nat) (row:List V),ob'.rows[i]? = some row→∀(j:Nat) (x:V),row[j]? = some x→∃v,cur'[i*ob.es+j]? = some v∧v.oneCell'=true∧bB ⟨w,A,s.h,β⟩ x v∧(ob'.imp=false→bh w A x v))
  (d:Option Tmp) (hd:∀k,d=some k→k<n) (v:V) (u:Value)
  (hv:(v=.dead)∨(v=.ref o ob'.rows.length∧∃cap,u=.slice (some ⟨b',0,none⟩) ob'.rows.length cap∧ob'.rows.length≤cap∧cap≤maxLen∧cur'.size=cap*ob.es)) :
  RB w0 I A0 n ((s.ca o ob').put d v) (a.put d u) w' (fun p=>if p=o then some b' else β p) (fun b=>A b∨b=b'):=by
 have lH:∀p ob' b,s.h p=some ob'→β p=some b→b<w.heap.size:=fun p ob' b hp hb=>by
  have:=R.cq.ok p ob' hp;simp only at this;rw[hb]at this;exact R.cq.lt b this.1
 have FG:∀p bM b,p ≠ o→s.h p=some bM→β p=some b→w'.heap[b]? = w.heap[b]?∧b ≠ b':=by
  intro p bM b Bh hp hb;have h1:=lH p bM b hp hb;refine⟨aaZ b h1 (fun e=>Bh (R.cq.inj p o bM ob b hp ho hb e)),fun e=>?_⟩;subst e;rcases KF with⟨h2,_⟩ | ⟨h2,_⟩
  ·exact Bh (R.cq.inj p o bM ob b hp ho hb h2)
  ·omega
 have S:Step ⟨w,A,s.h,β⟩ ⟨w',fun b=>A b∨b=b',gi s.h o ob',fun p=>if p=o then some b' else β p⟩:=by
  have awQ:b'<w.heap.size→A b':=fun h=>by
   rcases KF with⟨h2,_⟩ | ⟨h2,_⟩
   ·have:=R.cq.ok o ob ho
    simp only at this;rw[h2]at this;exact this.1
   ·omega
  refine⟨fun b hb hM=>aaZ b hb (fun e=>hM ⟨o,ob,ho,e⟩),dC,fun b hb h=>?_,fun b hb h=>?_⟩
  ·rcases h with h | rfl
   ·exact h
   ·exact awQ hb
  ·obtain⟨p,bM,hp,yX⟩:=h
   simp only[gi]at hp yX;by_cases Bh:p=o
   ·rw[aCr Bh]at yX
    simp only[aCA]at yX;subst yX;rcases KF with⟨h2,_⟩ | ⟨h2,_⟩
    ·exact⟨o,ob,ho,h2⟩
    ·simp only at hb;omega
   ·rw[aCo Bh]at hp yX
    exact⟨p,bM,hp,yX⟩
 have hk:∀p,rz ⟨w,A,s.h,β⟩ ⟨w',fun b=>A b∨b=b',gi s.h o ob',fun p=>if p=o then some b' else β p⟩ p:=by
  intro p obp hp;simp only[gi]at hp;by_cases Bh:p=o
  ·rw[aCr Bh]at hp
   simp only[aCA]at hp;subst hp;subst Bh;refine⟨ob,ho,hle,fun heq=>?_⟩;rcases KF with⟨h2,h3⟩ | ⟨_,h3⟩
   ·refine⟨by simp[h2],bQ,rS,fun b cur hb fw=>?_⟩
    simp only at hb fw;rw[h2]at hb;cases hb;exact⟨cur',jb,h3 cur fw⟩
   ·exact absurd heq h3
  ·rw[aCo Bh]at hp
   refine⟨obp,hp,aCt _,fun _=>⟨by simp[Bh],rfl,rfl,fun b cur hb fw=>⟨cur,?_,rfl⟩⟩⟩;simp only at hb fw ⊢;rw[(FG p obp b Bh hp hb).1];exact fw
 have aZ:cz ⟨w',fun b=>A b∨b=b',gi s.h o ob',fun p=>if p=o then some b' else β p⟩:=by
  refine⟨fun p obp hp=>?_,fun p q tZ bM b h1 h2 h3 h4=>?_,fun b hb=>?_⟩
  ·simp only[gi]at hp ⊢
   by_cases Bh:p=o
   ·rw[aCr Bh]at hp
    simp only[aCA]at hp;subst hp;rw[aCr Bh];refine⟨.inr rfl,cur',by rw[rS];exact jb,fun row h=>by rw[bQ];exact aO row h,by rw[bQ];exact hlen,fun i row hi j x hx=>?_⟩;obtain⟨v,c1,c2,c3,c4⟩:=hc i row hi j x hx;have c5:=bB.step R.cq S (fun _=>false) (fun p _=>hk p) c3;rw[V.mS]at c5;exact⟨v,by rw[bQ];exact c1,c2,c5,fun h=>bh.step R.cq S (c4 h)⟩
   ·rw[aCo Bh]at hp ⊢
    have aX:=R.cq.ok p obp hp;have:=sR.step R.cq S (fun _=>false) (fun p _=>hk p) (fun b hb=>⟨(FG p obp b Bh hp hb).1,.inl (by simp only at aX;rw[hb]at aX;exact aX.1)⟩) aX
    rwa [Ob.bV]at this
  ·simp only[gi]at h1 h2 h3 h4
   by_cases e1:p=o
   ·by_cases e2:q=o
    ·rw[e1,e2]
    ·rw[aCr e1]at h3
     rw[aCo e2]at h2 h4;simp only[aCA]at h3;exact absurd h3.symm (FG q bM b e2 h2 h4).2
   ·by_cases e2:q=o
    ·rw[aCr e2]at h4
     rw[aCo e1]at h1 h3;simp only[aCA]at h4;exact absurd h4.symm (FG p tZ b e1 h1 h3).2
    ·rw[aCo e1]at h1 h3
     rw[aCo e2]at h2 h4;exact R.cq.inj p q tZ bM b h1 h2 h3 h4
  ·rcases hb with hb | rfl
   ·have:=R.cq.lt b hb
    simp only at this ⊢;omega
   ·exact(aDJ.1 jb).1
 have hvv:Rel ⟨w',fun b=>A b∨b=b',gi s.h o ob',fun p=>if p=o then some b' else β p⟩ v u:=by
  rcases hv with rfl | ⟨rfl,cap,rfl,h1,h2,h3⟩
  ·trivial
  ·intro obp hp
   simp only[gi,aC5,aCA]at hp;subst hp;refine⟨aCt _,fun _=>?_⟩;simp only[aC5];exact⟨cap,cur',rfl,h1,h2,by rw[rS];exact jb,by rw[bQ];exact h3⟩
 have:=R.step w' _ _ (gi s.h o ob') (fun _=>false) S (fun p _=>hk p) aZ (fun b hb h=>.inl (R.a0 b hb h))
  ⟨NF.1.trans R.ev.os,NF.2.1.trans R.ev.tape,NF.2.2.trans R.ev.output,aCO R.ev.size dC,fun k hk hI=>by
   rw[aaZ k (aCP hk R.ev.size) (fun e=>by
    rcases R.own o ob k ho e with h | h
    ·omega
    ·exact hI h)]
   exact R.ev.block k hk hI⟩
  (fun p obp b hp hb=>by
   simp only[gi]at hp;by_cases Bh:p=o
   ·rw[aCr Bh]at hb
    simp only[aCA]at hb;subst hb;rcases KF with⟨h2,_⟩ | ⟨h2,_⟩
    ·exact R.own o ob b' ho h2
    ·exact .inl (by rw[h2];exact R.ev.size)
   ·rw[aCo Bh]at hp hb
    exact R.own p obp b hp hb)
  (fun _ _ h=>by cases h)
  d hd v u hvv
 have e:(⟨fun i=>(s.t i).kill fun _=>false,gi s.h o ob'⟩:St)=s.ca o ob':=by simp only[V.bV,St.ca]
 rw[e]at this;exact this
theorem RB.Z3{w0:World}{I:sy}{A0:Nat→Prop}{n:Nat}{s:St}{a:Act}{w:World}{β:Nat→Option Nat}{A:Nat→Prop}(R:RB w0 I A0 n s a w β A)
  (d:Nat) (ob:Ob) (hr:ob.rows=[]) (dst:Option Tmp) (hd:∀k,dst=some k→k<n) (v:V) (u:Value) (hv:v=.dead∨(v=.ref d 0∧u=.slice none 0 0)) (hdn:d<n) :
  RB w0 I A0 n (St.put ⟨fun i=>(s.t i).kill (· == d),eS s.h d ob⟩ dst v) (a.put dst u) w (fun p=>if p=d then none else β p) A:=by
 have hkr:(ob.kill (· == d)).rows=[]:=by unfold Ob.kill;split<;>simp[hr]
 have S:Step ⟨w,A,s.h,β⟩ ⟨w,A,eS s.h d ob,fun p=>if p=d then none else β p⟩:=by
  refine⟨fun b hb _=>rfl,aCt _,fun b hb h=>h,fun b hb h=>?_⟩;obtain⟨o,ob',ho,UM⟩:=h;simp only[eS]at ho UM;by_cases dW:o=d
  ·rw[aCr dW]at UM;cases UM
  ·rw[aCo dW]at ho UM
   cases dG:s.h o with
   | none=>simp[dG]at ho
   | some bM=>exact⟨o,bM,dG,UM⟩
 have hk:∀p,(p == d)=false→rz ⟨w,A,s.h,β⟩ ⟨w,A,eS s.h d ob,fun p=>if p=d then none else β p⟩ p:=by
  intro p hp ob' dW;have hpd:p ≠ d:=by simpa using hp
  simp only[eS,aCo hpd]at dW ⊢;cases dG:s.h p with
  | none=>simp[dG]at dW
  | some bM=>
   simp[dG]at dW;subst dW;exact⟨bM,rfl,by rw[Ob.dm];exact aCt _,fun _=>⟨trivial,Ob.eQ _ _,Ob.gP _ _,fun b cur' hb fw=>⟨cur',fw,rfl⟩⟩⟩
 have aZ:cz ⟨w,A,eS s.h d ob,fun p=>if p=d then none else β p⟩:=by
  refine⟨fun o ob' ho=>?_,fun o o' tZ bM b h1 h2 h3 h4=>?_,R.cq.lt⟩
  ·simp only[eS]at ho ⊢
   by_cases CG:o=d
   ·rw[aCr CG]at ho
    simp only[aCA]at ho;subst ho;rw[aCr CG];exact hkr
   ·rw[aCo CG]at ho ⊢
    cases dG:s.h o with
    | none=>simp[dG]at ho
    | some bM=>
     simp[dG]at ho;subst ho;have aX:=R.cq.ok o bM dG;exact sR.step R.cq S _ hk (fun b hb=>⟨rfl,by simp only at aX;rw[hb]at aX;exact aX.1⟩) aX
  ·simp only[eS]at h1 h2 h3 h4
   by_cases e1:o=d
   ·rw[aCr e1]at h3;cases h3
   ·by_cases e2:o'=d
    ·rw[aCr e2]at h4;cases h4
    ·rw[aCo e1]at h1 h3
     rw[aCo e2]at h2 h4;cases dG:s.h o with
     | none=>simp[dG]at h1
     | some CE=>
      cases Kv:s.h o' with
      | none=>simp[Kv]at h2
      | some ZZ=>exact R.cq.inj o o' CE ZZ b dG Kv h3 h4
 refine R.step w _ A (eS s.h d ob) (· == d) S hk aZ R.a0 R.ev (fun o ob' b ho hb=>?_) (fun o hq h=>absurd (R.qn o hq).1 (by have h2:o=d:=(by simpa using h);omega)) dst hd v u ?_
 ·simp only[eS]at ho
  by_cases CG:o=d
  ·rw[aCr CG]at hb;cases hb
  ·rw[aCo CG]at ho hb
   cases dG:s.h o with
   | none=>simp[dG]at ho
   | some bM=>exact R.own o bM b dG hb
 ·rcases hv with rfl | ⟨rfl,rfl⟩
  ·trivial
  ·intro ob' dW
   simp only[eS,aC5,aCA]at dW;subst dW;exact⟨aDj _,fun _=>by simp⟩
def kk(h:Nat→Option Ob)(o:Nat):Nat→Option Ob:=fun p=>if p=o then none else(h p).map (Ob.kill (· == o))
theorem RB.atE{w0:World}{I:sy}{A0:Nat→Prop}{n:Nat}{s:St}{a:Act}{w:World}{β:Nat→Option Nat}{A:Nat→Prop}(R:RB w0 I A0 n s a w β A)
  {o:Nat} {ob:Ob} (hI:∀b,β o=some b→w0.heap.size≤b) (ho:s.h o=some ob) (himp:ob.imp=false) (t':Nat→V)
  (ht:∀i,t' i=(s.t i).kill (· == o)∨(s.t i=.ref o ob.rows.length∧t' i=.sl ob.rows)) :
  RB w0 I A0 n ⟨t',kk s.h o⟩ a w β (fun b=>A b∧β o ≠ some b):=by
 have hd:∀p ob',kk s.h o p=some ob'→p ≠ o∧∃bG,s.h p=some bG∧ob'=bG.kill (· == o):=fun p ob' hp=>by
  unfold kk at hp
  split at hp
  ·cases hp
  ·rename_i ec
   obtain⟨bG,h1,h2⟩:=aEL.1 hp;exact⟨ec,bG,h1,h2.symm⟩
 have S:Step ⟨w,A,s.h,β⟩ ⟨w,fun b=>A b∧β o ≠ some b,kk s.h o,β⟩:=⟨cZ.refl _ _,aCt _,fun _ _ h=>h.1,fun b _ h=>by
  obtain⟨p,ob',h1,h2⟩:=h;obtain⟨_,bG,h3,_⟩:=hd p ob' h1;exact⟨p,bG,h3,h2⟩⟩
 have hk:∀p,(p == o)=false→rz ⟨w,A,s.h,β⟩ ⟨w,fun b=>A b∧β o ≠ some b,kk s.h o,β⟩ p:=fun p _ ob' h1=>by
  obtain⟨_,bG,h3,rfl⟩:=hd p ob' h1;exact⟨bG,h3,by rw[Ob.dm];exact aCt _,fun _=>⟨rfl,Ob.eQ _ _,Ob.gP _ _,fun b cur _ hc=>⟨cur,hc,rfl⟩⟩⟩
 have hA:∀p bG b,s.h p=some bG→β p=some b→A b:=fun p bG b h1 h2=>R.cq.mA ⟨p,bG,h1,h2⟩
 have aZ:cz ⟨w,fun b=>A b∧β o ≠ some b,kk s.h o,β⟩:=by
  refine⟨fun p ob' h1=>?_,fun p p' tZ bM b h1 h2 h3 h4=>?_,fun b h=>R.cq.lt b h.1⟩
  ·obtain⟨ec,bG,h3,rfl⟩:=hd p ob' h1
   exact sR.step R.cq S (· == o) hk (fun b hb=>⟨rfl,hA p bG b h3 hb,fun e=>ec (R.cq.inj p o bG ob b h3 ho hb e)⟩) (R.cq.ok p bG h3)
  ·obtain⟨_,CE,h5,_⟩:=hd p tZ h1
   obtain⟨_,ZZ,h6,_⟩:=hd p' bM h2;exact R.cq.inj p p' CE ZZ b h5 h6 h3 h4
 have hv:∀k,s.t k=.ref o ob.rows.length→Rel ⟨w,fun b=>A b∧β o ≠ some b,kk s.h o,β⟩ (.sl ob.rows) (nU I.sv a k):=by
  intro k hs;have h1:=R.ai k;rw[hs]at h1;have h1:RO ⟨w,A,s.h,β⟩ ob (β o) ob.rows.length (nU I.sv a k):=h1 ob ho;have h2:=h1.2 rfl;have h3:=R.cq.ok o ob ho;show bh w _ (.sl ob.rows) (nU I.sv a k);cases hb:β o with
  | none=>
   simp only[hb]at h2 h3;have h3:ob.rows=[]:=h3;rw[h2,h3];exact .slnil none
  | some b=>
   simp only[hb]at h2 h3;obtain⟨cap,cur,e1,e2,_,e3,_⟩:=h2;obtain⟨g1,cur',g2,g3,_,g4⟩:=h3;rw[e1];refine .sl ob.rows b 0 cap ob.es (fun i j=>(cur'[i*ob.es+j]?).getD undef) e2 (fun _=>⟨R.cq.lt b g1,fun h=>h.2 rfl⟩) g3 (fun i row hi j x hj=>?_) (fun i row hi j x hj=>?_)
   ·obtain⟨v,c1,_,_,_⟩:=g4 i row hi j x hj
    simp only[World.cell?,g2,aC0,c1];rfl
   ·obtain⟨v,c1,_,_,c4⟩:=g4 i row hi j x hj
    rw[c1];exact(c4 himp).frame (cZ.refl _ _) (aCt _) (fun _ _ h=>h.1)
 have:=R.step w β (fun b=>A b∧β o ≠ some b) (kk s.h o) (· == o) S hk aZ
  (fun b h1 h2=>⟨R.a0 b h1 h2,fun e=>by
   have:=hI b e;omega⟩) R.ev (fun p ob' b h1 h2=>by
   obtain⟨_,bG,h3,_⟩:=hd p ob' h1;exact R.own p bG b h3 h2)
  (fun p _ hp=>by
   have:p=o:=by simpa using hp
   unfold kk;rw[aCr this])
  none (fun j hj=>by cases hj) .dead undef trivial
 refine⟨this.defers,this.size,fun i=>?_,this.cq,this.a0,this.ev,this.own,this.qn,this.pin⟩;rcases ht i with h | ⟨h1,h2⟩
 ·have:=this.ai i
  show Rel _ (t' i) _;rw[h];exact this
 ·show Rel _ (t' i) _
  rw[h2];exact hv i h1
theorem KZ(s:St)(o:Nat):(⟨fun i=>(s.t i).kill (· == o),kk s.h o⟩:St)=s.kill (· == o):=by
 unfold St.kill kk
 congr 1
 funext p
 by_cases h:p=o
 ·simp[h]
 ·simp[h]
def St.Fs(s:St)(d:Nat)(ob:Ob):St:=⟨fun i=>if i=d then .sl ob.rows else((s.new d ob (.ref d ob.rows.length)).t i).kill (· == d),kk (s.new d ob (.ref d ob.rows.length)).h d⟩
theorem RRf.Fs{w0:World}{I:sy}{A0:Nat→Prop}{n:Nat}{s:St}{a:Act}{w:World}{d:Nat}{ob:Ob}(h:RRf w0 I A0 n (s.new d ob (.ref d ob.rows.length)) a w d)(himp:ob.imp=false):RR w0 I A0 n (s.Fs d ob) a w:=by
 obtain⟨β,A,R,hb⟩:=h;have ho:(s.new d ob (.ref d ob.rows.length)).h d=some ob:=by simp[St.new,eS,Ob.kill,himp]
 exact⟨_,_,R.atE hb ho himp _ fun i=>by
  by_cases hi:i=d
  ·subst hi;exact .inr ⟨by simp[St.new],aCr rfl⟩
  ·exact .inl (aCo hi)⟩
theorem RRf.rr{w0:World}{I:sy}{A0:Nat→Prop}{n:Nat}{s:St}{a:Act}{w:World}{d:Nat}(h:RRf w0 I A0 n s a w d):RR w0 I A0 n s a w:=by
 obtain⟨β,A,R,_⟩:=h;exact⟨β,A,R⟩
