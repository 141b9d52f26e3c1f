/- AI. -/
import Derived.Test.YtfggefeflojnkaaGreatAlVal
set_option linter.unusedVariables false
namespace Go.AL
structure Ev (w0 w:World) (I:Nat→Prop):Prop where
 os:w.os=w0.os
 tape:w.tape=w0.tape
 output:w.output=w0.output
 size:w0.heap.size≤w.heap.size
 block:∀k,k<w0.heap.size→¬ I k→w.heap[k]? = w0.heap[k]?
structure rM where
 P:Nat→Prop
 q:Nat→Prop
 β0:Nat→Option Nat
 len:Nat→Nat
 sv:Nat→Value
structure RB (w0:World) (I:rM) (A0:Nat→Prop) (n:Nat) (s:St) (a:Act) (w:World) (β:Nat→Option Nat) (A:Nat→Prop):Prop where
 defers:a.defers=[]
 size:a.tmps.size=n
 au:∀i,Rel ⟨w,A,s.h,β⟩ (s.t i) (nk I.sv a i)
 bZ:bU ⟨w,A,s.h,β⟩
 a0:∀b,b<w0.heap.size→A0 b→A b
 ev:Ev w0 w I.P
 own:∀o ob b,s.h o=some ob→β o=some b→w0.heap.size≤b∨I.P b
 qn:∀o,I.q o→n≤o∧o<1000
 pin:∀o ob,I.q o→s.h o=some ob→I.len o≤ob.rows.length∧(ob.rows.length=I.len o→β o=I.β0 o∧∀b cb,I.β0 o=some b→w0.heap[b]? = some (.cells cb ob.ty (0,0))→∃cur,w.heap[b]? = some (.cells cur ob.ty (0,0))∧cur.size=cb.size)
def RR(w0:World)(I:rM)(A0:Nat→Prop)(n:Nat)(s:St)(a:Act)(w:World):Prop:=∃β A,RB w0 I A0 n s a w β A
def RRf(w0:World)(I:rM)(A0:Nat→Prop)(n:Nat)(s:St)(a:Act)(w:World)(d:Nat):Prop:=∃β A,RB w0 I A0 n s a w β A∧∀b,β d=some b→w0.heap.size≤b
def St.put(s:St)(d:Option Nat)(v:V):St:=match d with
 | some d=>⟨fun i=>if i=d then v else s.t i,s.h⟩
 | none=>s
theorem WH(a:Act)(d:Option Tmp)(u:Value)(i:Nat)(n:Nat)(hn:a.tmps.size=n)(hd:∀k,d=some k→k<n):
  (a.put d u).tmps.getD i undef=if d=some i then u else a.tmps.getD i undef:=by
 cases d with
 | none=>simp[Act.put]
 | some d=>
  have:=hd d rfl;simp only[Act.put,azN];by_cases h:d=i
  all_goals simp_all
theorem SQ(sv:Nat→Value)(a:Act)(d:Option Tmp)(u:Value)(i:Nat)(n:Nat)(hn:a.tmps.size=n)(hd:∀k,d=some k→k<n):
  nk sv (a.put d u) i=if d=some i then u else nk sv a i:=by
 have hs:(a.put d u).tmps.size=a.tmps.size:=by cases d<;>simp[Act.put]
 have ht:=WH a d u i n hn hd;by_cases h:d=some i
 ·have h1:=hd i h
  rw[azE h]at ht ⊢;grind[Jw]
 ·rw[azD h]at ht ⊢
  grind[nk]
theorem RB.step{w0:World}{I:rM}{A0:Nat→Prop}{n:Nat}{s:St}{a:Act}{w:World}{β:Nat→Option Nat}{A:Nat→Prop}(R:RB w0 I A0 n s a w β A)
  (w':World) (β':Nat→Option Nat) (A':Nat→Prop) (h':Nat→Option Ob) (K:Nat→Bool)
  (S:Step ⟨w,A,s.h,β⟩ ⟨w',A',h',β'⟩) (hk:∀p,K p=false→qJ ⟨w,A,s.h,β⟩ ⟨w',A',h',β'⟩ p) (aP:bU ⟨w',A',h',β'⟩)
  (ha0:∀b,b<w0.heap.size→A0 b→A' b) (bm:Ev w0 w' I.P) (eU:∀o ob b,h' o=some ob→β' o=some b→w0.heap.size≤b∨I.P b)
  (hK:∀o,I.q o→K o=true→h' o=none)
  (d:Option Tmp) (hd:∀k,d=some k→k<n) (v:V) (u:Value) (hv:Rel ⟨w',A',h',β'⟩ v u) :
  RB w0 I A0 n (St.put ⟨fun i=>(s.t i).kill K,h'⟩ d v) (a.put d u) w' β' A':=by
 have hh:(St.put ⟨fun i=>(s.t i).kill K,h'⟩ d v).h=h':=by cases d<;>rfl
 refine⟨?_,?_,fun i=>?_,by rw[hh];exact aP,ha0,bm,by rw[hh];exact eU,R.qn,?_⟩
 rotate_left 3
 ·rw[hh]
  intro o ob' hq dT;have hKf:K o=false:=by
   grind
  obtain⟨ob,ho,hle,heq⟩:=hk o hKf ob' dT;simp only at ho;have hp:=R.pin o ob hq ho;grind
 ·cases d<;>exact R.defers
 ·cases d
  ·exact R.size
  ·simpa [Act.put]using R.size
 ·rw[hh,SQ I.sv a d u i n R.size hd]
  cases d with
  | none=>
   simp only[St.put];exact(R.au i).step R.bZ S K hk
  | some d=>
   simp only[St.put,azN];by_cases hi:i=d
   ·grind
   ·rw[azD hi,azD (fun e=>hi e.symm)]
    exact(R.au i).step R.bZ S K hk
theorem cz.refl(X:Nat→Prop)(w:World):cz X w w:=fun _ _ _=>rfl
theorem qJ.refl(E:Env)(o:Nat):qJ E E o:=fun ob ho=>⟨ob,ho,azJ _,fun _=>⟨rfl,rfl,rfl,fun b cur _ hc=>⟨cur,hc,rfl⟩⟩⟩
theorem Step.refl(E:Env):Step E E:=⟨cz.refl _ _,azJ _,fun _ _ h=>h,fun _ _ h=>h⟩
theorem RB.put{w0:World}{I:rM}{A0:Nat→Prop}{n:Nat}{s:St}{a:Act}{w:World}{β:Nat→Option Nat}{A:Nat→Prop}(R:RB w0 I A0 n s a w β A)
  (d:Option Tmp) (hd:∀k,d=some k→k<n) (v:V) (u:Value) (hv:Rel ⟨w,A,s.h,β⟩ v u):RB w0 I A0 n (s.put d v) (a.put d u) w β A:=by
 have:=R.step w β A s.h (fun _=>false) (Step.refl _) (fun p _=>qJ.refl _ p) R.bZ R.a0 R.ev R.own (fun _ _ h=>by cases h) d hd v u hv;have e:(⟨fun i=>(s.t i).kill fun _=>false,s.h⟩:St)=s:=by simp only[V.bK]
 grind
theorem RB.drew{w0:World}{I:rM}{A0:Nat→Prop}{n:Nat}{s:St}{a:Act}{w:World}{β:Nat→Option Nat}{A:Nat→Prop}(R:RB w0 I A0 n s a w β A)(k:Nat):
  RB w0 I A0 n s a {w with drawn:=k } β A:=by
 have S:Step ⟨w,A,s.h,β⟩ ⟨{w with drawn:=k },A,s.h,β⟩:=⟨fun _ _ _=>rfl,azJ _,fun _ _ h=>h,fun _ _ h=>h⟩;have hk:∀p,qJ ⟨w,A,s.h,β⟩ ⟨{w with drawn:=k },A,s.h,β⟩ p:=fun p ob ho=>⟨ob,ho,azJ _,fun _=>⟨rfl,rfl,rfl,fun b cur _ hc=>⟨cur,hc,rfl⟩⟩⟩
 have:=R.step {w with drawn:=k } β A s.h (fun _=>false) S (fun p _=>hk p)
  ⟨fun o ob ho=>by
   have:=si.step R.bZ S (fun _=>false) (fun p _=>hk p) (fun b hb=>⟨rfl,?_⟩) (R.bZ.ok o ob ho)
   ·rwa [Ob.bK]at this
   ·have h2:=R.bZ.ok o ob ho
    simp only at h2 hb;rw[hb]at h2;exact h2.1,R.bZ.inj,R.bZ.lt⟩ R.a0 ⟨R.ev.os,R.ev.tape,R.ev.output,R.ev.size,R.ev.block⟩ R.own (fun _ _ h=>by cases h) none (fun _ h=>by cases h) .dead undef trivial
 have e:(⟨fun i=>(s.t i).kill fun _=>false,s.h⟩:St)=s:=by simp only[V.bK]
 rw[e]at this;exact this
def eT(h:Nat→Option Ob)(d:Nat)(ob:Ob):Nat→Option Ob:=fun p=>if p=d then some (ob.kill (· == d))else(h p).map (Ob.kill (· == d))
def St.new(s:St)(d:Nat)(ob:Ob)(v:V):St:=⟨fun i=>if i=d then v else(s.t i).kill (· == d),eT s.h d ob⟩
theorem RB.new{w0:World}{I:rM}{A0:Nat→Prop}{n:Nat}{s:St}{a:Act}{w:World}{β:Nat→Option Nat}{A:Nat→Prop}(R:RB w0 I A0 n s a w β A)
  (d:Nat) (hd:d<n) (ob:Ob) (cur:Array Value) (w':World) (hw':w'.heap=w.heap.push (.cells cur ob.ty)) (VX:w'.os=w.os∧w'.tape=w.tape∧w'.output=w.output)
  (bI:∀row∈ob.rows,row.length=ob.es) (hlen:ob.rows.length*ob.es≤cur.size)
  (hc:∀(i:Nat) (row:List V),ob.rows[i]? = some row→∀(j:Nat) (x:V),row[j]? = some x→∃v,cur[i*ob.es+j]? = some v∧v.oneCell'=true∧bw ⟨w,A,s.h,β⟩ x v∧(ob.imp=false→aY w A x v))
  (v:V) (u:Value)
  (hv:(v=.ptr d ob.rows.length 0 0∧u=.pointer (some ⟨w.heap.size,0,none⟩))∨
   (v=.ref d ob.rows.length∧∃cap,u=.slice (some ⟨w.heap.size,0,none⟩) ob.rows.length cap∧ob.rows.length≤cap∧cap≤maxLen∧cur.size=cap*ob.es)) :
  RB w0 I A0 n (s.new d ob v) (a.put (some d) u) w' (fun p=>if p=d then some w.heap.size else β p) (fun b=>A b∨b=w.heap.size):=by
 have dO:w'.heap.size=w.heap.size+1:=by grind
 have hold:∀b,b<w.heap.size→w'.heap[b]? = w.heap[b]?:=fun b hb=>by
  grind
 have wT:w'.heap[w.heap.size]? = some (.cells cur ob.ty (0,0)):=by grind
 have lB:∀o ob' b,s.h o=some ob'→β o=some b→b<w.heap.size:=fun o ob' b ho hb=>by
  have:=R.bZ.ok o ob' ho;simp only at this;rw[hb]at this;exact R.bZ.lt b this.1
 have S:Step ⟨w,A,s.h,β⟩ ⟨w',fun b=>A b∨b=w.heap.size,eT s.h d ob,fun p=>if p=d then some w.heap.size else β p⟩:=by
  refine⟨fun b hb _=>hold b hb,by simp[dO],fun b hb h=>?_,fun b hb h=>?_⟩
  ·grind
  ·obtain⟨o,ob',ho,TY⟩:=h
   simp only[eT]at ho TY;by_cases dT:o=d
   ·grind
   ·rw[azD dT]at ho TY
    cases dS:s.h o with
    | none=>grind
    | some bE=>exact⟨o,bE,dS,TY⟩
 have hk:∀p,(p == d)=false→qJ ⟨w,A,s.h,β⟩ ⟨w',fun b=>A b∨b=w.heap.size,eT s.h d ob,fun p=>if p=d then some w.heap.size else β p⟩ p:=by
  intro p hp ob' dT;have hpd:p ≠ d:=by grind
  simp only[eT,azD hpd]at dT ⊢;cases dS:s.h p with
  | none=>grind
  | some bE=>
   simp[dS]at dT;subst dT;refine⟨bE,rfl,by rw[Ob.dg];exact azJ _,fun _=>⟨trivial,Ob.eP _ _,Ob.gU _ _,fun b cur' hb fw=>⟨cur',?_,rfl⟩⟩⟩;grind
 have aP:bU ⟨w',fun b=>A b∨b=w.heap.size,eT s.h d ob,fun p=>if p=d then some w.heap.size else β p⟩:=by
  refine⟨fun o ob' ho=>?_,fun o o' tK bE b h1 h2 h3 h4=>?_,fun b hb=>?_⟩
  ·simp only[eT]at ho ⊢
   by_cases Da:o=d
   ·rw[azE Da]at ho
    simp only[azN]at ho;subst ho;rw[azE Da];refine⟨.inr rfl,cur,by rw[Ob.gU];exact wT,?_,by rw[Ob.dg,Ob.eP];exact hlen,?_⟩
    ·intro row aK
     rw[Ob.eP];unfold Ob.kill at aK
     grind
    ·intro i row hi j x hx
     rw[Ob.eP,Ob.uD];unfold Ob.kill at hi
     split at hi
     ·rename_i himp
      simp only[aAv]at hi;cases hri:ob.rows[i]? with
      | none=>grind
      | some r=>
       simp[hri]at hi;subst hi;rw[aAv]at hx;cases hxj:r[j]? with
       | none=>grind
       | some y=>
        simp[hxj]at hx;subst hx;obtain⟨v,c1,c2,c3,_⟩:=hc i r hri j y hxj;exact⟨v,c1,c2,c3.step R.bZ S _ hk,fun h=>by simp[himp]at h⟩
     ·rename_i himp
      obtain⟨v,c1,c2,_,c4⟩:=hc i row hi j x hx;have c5:=aY.step R.bZ S (c4 (by grind));grind[bw.aN]
   ·rw[azD Da]at ho ⊢
    cases dS:s.h o with
    | none=>grind
    | some bE=>
     simp[dS]at ho;subst ho;have aO:=R.bZ.ok o bE dS;exact si.step R.bZ S _ hk (fun b hb=>⟨hold b (lB o bE b dS hb),.inl (by simp only at aO;rw[hb]at aO;exact aO.1)⟩) aO
  ·simp only[eT]at h1 h2 h3 h4
   by_cases e1:o=d
   ·by_cases e2:o'=d
    ·rw[e1,e2]
    ·rw[azE e1]at h3
     rw[azD e2]at h2 h4;simp only[azN]at h3;cases dS:s.h o' with
     | none=>grind
     | some sk=>grind
   ·by_cases e2:o'=d
    ·rw[azE e2]at h4
     rw[azD e1]at h1 h3;simp only[azN]at h4;cases dS:s.h o with
     | none=>grind
     | some sk=>grind
    ·rw[azD e1]at h1 h3
     rw[azD e2]at h2 h4;cases dS:s.h o with
     | none=>grind
     | some sk=>
      cases Kf:s.h o' with
      | none=>grind
      | some X4=>exact R.bZ.inj o o' sk X4 b dS Kf h3 h4
  ·rcases hb with hb | hb
   ·have:=R.bZ.lt b hb
    grind
   grind
 have hvv:Rel ⟨w',fun b=>A b∨b=w.heap.size,eT s.h d ob,fun p=>if p=d then some w.heap.size else β p⟩ v u:=by
  rcases hv with⟨rfl,rfl⟩ | ⟨rfl,cap,rfl,h1,h2,h3⟩
  ·intro ob' dT
   simp only[eT,aAo,azN]at dT;subst dT;exact⟨by rw[Ob.dg];exact azJ _,fun _=>⟨w.heap.size,by simp,by simp⟩⟩
  ·intro ob' dT
   simp only[eT,aAo,azN]at dT;subst dT;refine⟨by rw[Ob.dg];exact azJ _,fun _=>?_⟩;simp only[aAo];grind[Ob.gU,Ob.eP]
 have:=R.step w' _ _ (eT s.h d ob) (· == d) S hk aP (fun b hb h=>.inl (R.a0 b hb h))
  ⟨VX.1.trans R.ev.os,VX.2.1.trans R.ev.tape,VX.2.2.trans R.ev.output,by have:=R.ev.size;omega,fun k hk hI=>by
   rw[hold k (by have:=R.ev.size;omega)];exact R.ev.block k hk hI⟩
  (fun o ob' b ho hb=>by
   simp only[eT]at ho;by_cases Da:o=d
   ·rw[azE Da]at hb
    simp only[azN]at hb;subst hb;exact .inl R.ev.size
   ·rw[azD Da]at ho hb
    cases dS:s.h o with
    | none=>simp[dS]at ho
    | some bE=>exact R.own o bE b dS hb)
  (fun o hq h=>absurd (R.qn o hq).1 (by grind))
  (some d) (fun k hk=>by cases hk;exact hd) v u hvv
 exact this
def gd(h:Nat→Option Ob)(o:Nat)(ob:Ob):Nat→Option Ob:=fun p=>if p=o then some ob else h p
def St.bQ(s:St)(o:Nat)(ob:Ob):St:=⟨s.t,gd s.h o ob⟩
theorem RB.afB{w0:World}{I:rM}{A0:Nat→Prop}{n:Nat}{s:St}{a:Act}{w:World}{β:Nat→Option Nat}{A:Nat→Prop}(R:RB w0 I A0 n s a w β A)
  (o:Nat) (ob ob':Ob) (ho:s.h o=some ob) (bI:ob'.es=ob.es) (qZ:ob'.ty=ob.ty) (hle:ob.rows.length≤ob'.rows.length)
  (w':World) (b':Nat) (cur':Array Value) (gW:w'.heap[b']? = some (.cells cur' ob.ty (0,0)))
  (Kq:(β o=some b'∧∀cur,w.heap[b']? = some (.cells cur ob.ty (0,0))→cur'.size=cur.size)∨(b'=w.heap.size∧ob'.rows.length ≠ ob.rows.length))
  (Zp:∀k,k<w.heap.size→β o ≠ some k→w'.heap[k]? = w.heap[k]?) (dO:w.heap.size≤w'.heap.size) (VX:w'.os=w.os∧w'.tape=w.tape∧w'.output=w.output)
  (aK:∀row∈ob'.rows,row.length=ob.es) (hlen:ob'.rows.length*ob.es≤cur'.size)
  (hc:∀(i:Nat) (row:List V),ob'.rows[i]? = some row→∀(j:Nat) (x:V),row[j]? = some x→∃v,cur'[i*ob.es+j]? = some v∧v.oneCell'=true∧bw ⟨w,A,s.h,β⟩ x v∧(ob'.imp=false→aY w A x v))
  (d:Option Tmp) (hd:∀k,d=some k→k<n) (v:V) (u:Value)
  (hv:(v=.dead)∨(v=.ref o ob'.rows.length∧∃cap,u=.slice (some ⟨b',0,none⟩) ob'.rows.length cap∧ob'.rows.length≤cap∧cap≤maxLen∧cur'.size=cap*ob.es)) :
  RB w0 I A0 n ((s.bQ o ob').put d v) (a.put d u) w' (fun p=>if p=o then some b' else β p) (fun b=>A b∨b=b'):=by
 have lB:∀p ob' b,s.h p=some ob'→β p=some b→b<w.heap.size:=fun p ob' b hp hb=>by
  have:=R.bZ.ok p ob' hp;simp only at this;rw[hb]at this;exact R.bZ.lt b this.1
 have F6:∀p bE b,p ≠ o→s.h p=some bE→β p=some b→w'.heap[b]? = w.heap[b]?∧b ≠ b':=by
  intro p bE b zw hp hb;have h1:=lB p bE b hp hb;refine⟨Zp b h1 (fun e=>zw (R.bZ.inj p o bE ob b hp ho hb e)),fun e=>?_⟩;subst e;rcases Kq with⟨h2,_⟩ | ⟨h2,_⟩
  ·exact zw (R.bZ.inj p o bE ob b hp ho hb h2)
  ·omega
 have S:Step ⟨w,A,s.h,β⟩ ⟨w',fun b=>A b∨b=b',gd s.h o ob',fun p=>if p=o then some b' else β p⟩:=by
  have aul:b'<w.heap.size→A b':=fun h=>by
   rcases Kq with⟨h2,_⟩ | ⟨h2,_⟩
   ·have:=R.bZ.ok o ob ho
    simp only at this;rw[h2]at this;exact this.1
   ·omega
  refine⟨fun b hb hM=>Zp b hb (fun e=>hM ⟨o,ob,ho,e⟩),dO,fun b hb h=>?_,fun b hb h=>?_⟩
  ·grind
  ·obtain⟨p,bE,hp,yM⟩:=h
   simp only[gd]at hp yM;by_cases zw:p=o
   ·rw[azE zw]at yM
    simp only[azN]at yM;subst yM;rcases Kq with⟨h2,_⟩ | ⟨h2,_⟩
    ·exact⟨o,ob,ho,h2⟩
    grind
   ·rw[azD zw]at hp yM
    exact⟨p,bE,hp,yM⟩
 have hk:∀p,qJ ⟨w,A,s.h,β⟩ ⟨w',fun b=>A b∨b=b',gd s.h o ob',fun p=>if p=o then some b' else β p⟩ p:=by
  intro p obp hp;simp only[gd]at hp;grind
 have aP:bU ⟨w',fun b=>A b∨b=b',gd s.h o ob',fun p=>if p=o then some b' else β p⟩:=by
  refine⟨fun p obp hp=>?_,fun p q tK bE b h1 h2 h3 h4=>?_,fun b hb=>?_⟩
  ·simp only[gd]at hp ⊢
   by_cases zw:p=o
   ·rw[azE zw]at hp
    simp only[azN]at hp;subst hp;rw[azE zw];refine⟨.inr rfl,cur',by rw[qZ];exact gW,fun row h=>by rw[bI];exact aK row h,by rw[bI];exact hlen,fun i row hi j x hx=>?_⟩;obtain⟨v,c1,c2,c3,c4⟩:=hc i row hi j x hx;have c5:=bw.step R.bZ S (fun _=>false) (fun p _=>hk p) c3;rw[V.mq]at c5;exact⟨v,by rw[bI];exact c1,c2,c5,fun h=>aY.step R.bZ S (c4 h)⟩
   ·rw[azD zw]at hp ⊢
    have aO:=R.bZ.ok p obp hp;have:=si.step R.bZ S (fun _=>false) (fun p _=>hk p) (fun b hb=>⟨(F6 p obp b zw hp hb).1,.inl (by simp only at aO;rw[hb]at aO;exact aO.1)⟩) aO
    grind[Ob.bK]
  ·simp only[gd]at h1 h2 h3 h4
   by_cases e1:p=o
   ·grind
   ·by_cases e2:q=o
    ·grind
    ·rw[azD e1]at h1 h3
     rw[azD e2]at h2 h4;exact R.bZ.inj p q tK bE b h1 h2 h3 h4
  ·rcases hb with hb | rfl
   ·have:=R.bZ.lt b hb
    grind
   grind
 have hvv:Rel ⟨w',fun b=>A b∨b=b',gd s.h o ob',fun p=>if p=o then some b' else β p⟩ v u:=by
  rcases hv with rfl | ⟨rfl,cap,rfl,h1,h2,h3⟩
  ·trivial
  ·intro obp hp
   simp only[gd,aAo,azN]at hp;subst hp;refine⟨azJ _,fun _=>?_⟩;grind
 have:=R.step w' _ _ (gd s.h o ob') (fun _=>false) S (fun p _=>hk p) aP (fun b hb h=>.inl (R.a0 b hb h))
  ⟨VX.1.trans R.ev.os,VX.2.1.trans R.ev.tape,VX.2.2.trans R.ev.output,az0 R.ev.size dO,fun k hk hI=>by
   rw[Zp k (az3 hk R.ev.size) (fun e=>by
    rcases R.own o ob k ho e with h | h
    ·omega
    ·exact hI h)]
   exact R.ev.block k hk hI⟩
  (fun p obp b hp hb=>by
   simp only[gd]at hp;by_cases zw:p=o
   ·rw[azE zw]at hb
    simp only[azN]at hb;subst hb;rcases Kq with⟨h2,_⟩ | ⟨h2,_⟩
    ·exact R.own o ob b' ho h2
    ·exact .inl (by rw[h2];exact R.ev.size)
   ·rw[azD zw]at hp hb
    exact R.own p obp b hp hb)
  (fun _ _ h=>by cases h)
  d hd v u hvv
 have e:(⟨fun i=>(s.t i).kill fun _=>false,gd s.h o ob'⟩:St)=s.bQ o ob':=by simp only[V.bK,St.bQ]
 grind
theorem RB.Ya{w0:World}{I:rM}{A0:Nat→Prop}{n:Nat}{s:St}{a:Act}{w:World}{β:Nat→Option Nat}{A:Nat→Prop}(R:RB w0 I A0 n s a w β A)
  (d:Nat) (ob:Ob) (hr:ob.rows=[]) (dst:Option Tmp) (hd:∀k,dst=some k→k<n) (v:V) (u:Value) (hv:v=.dead∨(v=.ref d 0∧u=.slice none 0 0)) (hdn:d<n) :
  RB w0 I A0 n (St.put ⟨fun i=>(s.t i).kill (· == d),eT s.h d ob⟩ dst v) (a.put dst u) w (fun p=>if p=d then none else β p) A:=by
 have hkr:(ob.kill (· == d)).rows=[]:=by grind[Ob.kill]
 have S:Step ⟨w,A,s.h,β⟩ ⟨w,A,eT s.h d ob,fun p=>if p=d then none else β p⟩:=by
  refine⟨fun b hb _=>rfl,azJ _,fun b hb h=>h,fun b hb h=>?_⟩;obtain⟨o,ob',ho,TY⟩:=h;simp only[eT]at ho TY;by_cases dT:o=d
  ·grind
  ·rw[azD dT]at ho TY
   cases dS:s.h o with
   | none=>grind
   | some bE=>exact⟨o,bE,dS,TY⟩
 have hk:∀p,(p == d)=false→qJ ⟨w,A,s.h,β⟩ ⟨w,A,eT s.h d ob,fun p=>if p=d then none else β p⟩ p:=by
  intro p hp ob' dT;have hpd:p ≠ d:=by grind
  simp only[eT,azD hpd]at dT ⊢;cases dS:s.h p with
  | none=>grind
  | some bE=>
   simp[dS]at dT;subst dT;exact⟨bE,rfl,by rw[Ob.dg];exact azJ _,fun _=>⟨trivial,Ob.eP _ _,Ob.gU _ _,fun b cur' hb fw=>⟨cur',fw,rfl⟩⟩⟩
 have aP:bU ⟨w,A,eT s.h d ob,fun p=>if p=d then none else β p⟩:=by
  refine⟨fun o ob' ho=>?_,fun o o' tK bE b h1 h2 h3 h4=>?_,R.bZ.lt⟩
  ·simp only[eT]at ho ⊢
   by_cases Da:o=d
   ·rw[azE Da]at ho
    simp only[azN]at ho;subst ho;rw[azE Da];exact hkr
   ·rw[azD Da]at ho ⊢
    cases dS:s.h o with
    | none=>grind
    | some bE=>
     simp[dS]at ho;subst ho;have aO:=R.bZ.ok o bE dS;exact si.step R.bZ S _ hk (fun b hb=>⟨rfl,by simp only at aO;rw[hb]at aO;exact aO.1⟩) aO
  ·simp only[eT]at h1 h2 h3 h4
   by_cases e1:o=d
   ·grind
   ·by_cases e2:o'=d
    ·grind
    ·rw[azD e1]at h1 h3
     rw[azD e2]at h2 h4;cases dS:s.h o with
     | none=>grind
     | some sk=>
      cases Kf:s.h o' with
      | none=>grind
      | some X4=>exact R.bZ.inj o o' sk X4 b dS Kf h3 h4
 refine R.step w _ A (eT s.h d ob) (· == d) S hk aP R.a0 R.ev (fun o ob' b ho hb=>?_) (fun o hq h=>absurd (R.qn o hq).1 (by grind)) dst hd v u ?_
 ·simp only[eT]at ho
  by_cases Da:o=d
  ·grind
  ·rw[azD Da]at ho hb
   cases dS:s.h o with
   | none=>grind
   | some bE=>exact R.own o bE b dS hb
 ·rcases hv with rfl | ⟨rfl,rfl⟩
  ·trivial
  ·intro ob' dT
   simp only[eT,aAo,azN]at dT;subst dT;exact⟨aAu _,fun _=>by simp⟩
def ko(h:Nat→Option Ob)(o:Nat):Nat→Option Ob:=fun p=>if p=o then none else(h p).map (Ob.kill (· == o))
theorem RB.aqK{w0:World}{I:rM}{A0:Nat→Prop}{n:Nat}{s:St}{a:Act}{w:World}{β:Nat→Option Nat}{A:Nat→Prop}(R:RB w0 I A0 n s a w β A)
  {o:Nat} {ob:Ob} (hI:∀b,β o=some b→w0.heap.size≤b) (ho:s.h o=some ob) (himp:ob.imp=false) (t':Nat→V)
  (ht:∀i,t' i=(s.t i).kill (· == o)∨(s.t i=.ref o ob.rows.length∧t' i=.sl ob.rows)) :
  RB w0 I A0 n ⟨t',ko s.h o⟩ a w β (fun b=>A b∧β o ≠ some b):=by
 have hd:∀p ob',ko s.h o p=some ob'→p ≠ o∧∃bA,s.h p=some bA∧ob'=bA.kill (· == o):=fun p ob' hp=>by
  unfold ko at hp
  split at hp
  ·cases hp
  ·rename_i dU
   obtain⟨bA,h1,h2⟩:=aBu.1 hp;grind
 have S:Step ⟨w,A,s.h,β⟩ ⟨w,fun b=>A b∧β o ≠ some b,ko s.h o,β⟩:=⟨cz.refl _ _,azJ _,fun _ _ h=>h.1,fun b _ h=>by
  obtain⟨p,ob',h1,h2⟩:=h;obtain⟨_,bA,h3,_⟩:=hd p ob' h1;exact⟨p,bA,h3,h2⟩⟩
 have hk:∀p,(p == o)=false→qJ ⟨w,A,s.h,β⟩ ⟨w,fun b=>A b∧β o ≠ some b,ko s.h o,β⟩ p:=fun p _ ob' h1=>by
  obtain⟨_,bA,h3,rfl⟩:=hd p ob' h1;exact⟨bA,h3,by rw[Ob.dg];exact azJ _,fun _=>⟨rfl,Ob.eP _ _,Ob.gU _ _,fun b cur _ hc=>⟨cur,hc,rfl⟩⟩⟩
 have hA:∀p bA b,s.h p=some bA→β p=some b→A b:=fun p bA b h1 h2=>R.bZ.mA ⟨p,bA,h1,h2⟩
 have aP:bU ⟨w,fun b=>A b∧β o ≠ some b,ko s.h o,β⟩:=by
  refine⟨fun p ob' h1=>?_,fun p p' tK bE b h1 h2 h3 h4=>?_,fun b h=>R.bZ.lt b h.1⟩
  ·obtain⟨dU,bA,h3,rfl⟩:=hd p ob' h1
   exact si.step R.bZ S (· == o) hk (fun b hb=>⟨rfl,hA p bA b h3 hb,fun e=>dU (R.bZ.inj p o bA ob b h3 ho hb e)⟩) (R.bZ.ok p bA h3)
  ·obtain⟨_,sk,h5,_⟩:=hd p tK h1
   obtain⟨_,X4,h6,_⟩:=hd p' bE h2;exact R.bZ.inj p p' sk X4 b h5 h6 h3 h4
 have hv:∀k,s.t k=.ref o ob.rows.length→Rel ⟨w,fun b=>A b∧β o ≠ some b,ko s.h o,β⟩ (.sl ob.rows) (nk I.sv a k):=by
  intro k hs;have h1:=R.au k;rw[hs]at h1;have h1:QM ⟨w,A,s.h,β⟩ ob (β o) ob.rows.length (nk I.sv a k):=h1 ob ho;have h2:=h1.2 rfl;have h3:=R.bZ.ok o ob ho;show aY w _ (.sl ob.rows) (nk I.sv a k);cases hb:β o with
  | none=>
   simp only[hb]at h2 h3;have h3:ob.rows=[]:=h3;rw[h2,h3];exact .slnil none
  | some b=>
   simp only[hb]at h2 h3;obtain⟨cap,cur,e1,e2,_,e3,_⟩:=h2;obtain⟨g1,cur',g2,g3,_,g4⟩:=h3;rw[e1];refine .sl ob.rows b 0 cap ob.es (fun i j=>(cur'[i*ob.es+j]?).getD undef) e2 (fun _=>⟨R.bZ.lt b g1,fun h=>h.2 rfl⟩) g3 (fun i row hi j x hj=>?_) (fun i row hi j x hj=>?_)
   ·obtain⟨v,c1,_,_,_⟩:=g4 i row hi j x hj
    simp only[World.cell?,g2,az8,c1];rfl
   ·obtain⟨v,c1,_,_,c4⟩:=g4 i row hi j x hj
    rw[c1];exact(c4 himp).frame (cz.refl _ _) (azJ _) (fun _ _ h=>h.1)
 have:=R.step w β (fun b=>A b∧β o ≠ some b) (ko s.h o) (· == o) S hk aP
  (fun b h1 h2=>⟨R.a0 b h1 h2,fun e=>by
   have:=hI b e;omega⟩) R.ev (fun p ob' b h1 h2=>by
   obtain⟨_,bA,h3,_⟩:=hd p ob' h1;exact R.own p bA b h3 h2)
  (fun p _ hp=>by
   have:p=o:=by simpa using hp
   unfold ko;rw[azE this])
  none (fun j hj=>by cases hj) .dead undef trivial
 refine⟨this.defers,this.size,fun i=>?_,this.bZ,this.a0,this.ev,this.own,this.qn,this.pin⟩;rcases ht i with h | ⟨h1,h2⟩
 ·have:=this.au i
  show Rel _ (t' i) _;rw[h];exact this
 grind
theorem KM(s:St)(o:Nat):(⟨fun i=>(s.t i).kill (· == o),ko s.h o⟩:St)=s.kill (· == o):=by
 unfold St.kill ko
 grind
def St.FR(s:St)(d:Nat)(ob:Ob):St:=⟨fun i=>if i=d then .sl ob.rows else((s.new d ob (.ref d ob.rows.length)).t i).kill (· == d),ko (s.new d ob (.ref d ob.rows.length)).h d⟩
theorem RRf.FR{w0:World}{I:rM}{A0:Nat→Prop}{n:Nat}{s:St}{a:Act}{w:World}{d:Nat}{ob:Ob}(h:RRf w0 I A0 n (s.new d ob (.ref d ob.rows.length)) a w d)(himp:ob.imp=false):RR w0 I A0 n (s.FR d ob) a w:=by
 obtain⟨β,A,R,hb⟩:=h;have ho:(s.new d ob (.ref d ob.rows.length)).h d=some ob:=by simp[St.new,eT,Ob.kill,himp]
 exact⟨_,_,R.aqK hb ho himp _ fun i=>by
  by_cases hi:i=d
  ·subst hi;exact .inr ⟨by simp[St.new],azE rfl⟩
  grind⟩
theorem RRf.rr{w0:World}{I:rM}{A0:Nat→Prop}{n:Nat}{s:St}{a:Act}{w:World}{d:Nat}(h:RRf w0 I A0 n s a w d):RR w0 I A0 n s a w:=by
 obtain⟨β,A,R,_⟩:=h;exact⟨β,A,R⟩
