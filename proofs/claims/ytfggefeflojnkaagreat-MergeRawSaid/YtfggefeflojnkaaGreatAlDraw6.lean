/- By an AI agent. -/
import Derived.Test.YtfggefeflojnkaaGreatAlDraw5
set_option linter.unusedSimpArgs false
namespace Go.AL
section
variable {P:Program} {n:Nat} {ops:Array Oper}
theorem Ls{K:Nat→Bool}{oj:Oper}{Φ:St→Prop}{s:St}{di:Option Nat}{v:V}{obo:Option Ob}(hs:wI K s)(hj:∀d,oj.dst=some d→(∀p,p % 1000=d→K p=true)∧d<1000)
  (hi:∀d,di=some d→K d=true∧d<1000) (ec:∀d,di=some d→oj.dst ≠ some d) (aic:∀d,di=some d→d∉oj.looksAt ops)
  (hv:ir (minus K di) v) (C4:∀ob,obo=some ob→kL K ob) (CG:∀ob,obo=some ob→∃d,di=some d) (h:ep P n ops oj Φ (s.o8 di v obo)) :
  ep P n ops oj (fun s2=>Aft K oj s s2∧Φ (s2.o8 di v obo)) s:=by
 have Re:=kj (ops:=ops) (o:=oj) (s:=s) (s':=s.o8 di v obo) (fun i kh=>abC (fun e=>aic i e kh));rcases xu h with⟨hr,oZ⟩ | ⟨hr,oZ⟩
 ·exact oZ _ s Re.2.symm (aj3 hs hj hi ec aic hv C4 CG hr)
 ·refine oZ _ s Re.2.symm ⟨hr.1,⟨(hs.mono dN).put _ (fun x hx=>by simp at hx),fun i kh=>?_,fun p _ _=>by cases oj.dst<;>rfl,fun _ d hd q hq=>by rw[hd]at hq;simp[St.put,V.names]at hq⟩,?_⟩
  ·cases iQ:oj.dst with
   | none=>rfl
   | some d=>
    have:¬ i=d:=fun e=>kh (by rw[iQ,e])
    simp[St.put,this]
  ·rw[← vh ec];exact hr.2
def C8(P:Program)(n:Nat)(ops:Array Oper)(Φ:St→Prop):Nat→Array Bool→St→Prop
 | 0,aF,s=>Region.ready .any ops aF=[]∧Φ s
 | f+1,aF,s=>(Region.ready .any ops aF=[]→Φ s)∧∀i∈Region.ready .any ops aF,match ops[i]? with
  | none=>C8 P n ops Φ f (aF.setIfInBounds i true) s
  | some o=>ep P n ops o (C8 P n ops Φ f (aF.setIfInBounds i true)) s
def nn(q:Nat):V→Prop
 | .ref p _=>p ≠ q
 | .ptr p ..=>p ≠ q
 | .kQ _=>False
 | .fn _ _=>False
 | .dP _=>False
 | _=>True
def DH(q:Nat):List V→Prop
 | []=>True
 | v::r=>nn q v∧DH q r
def arV:V→List V→Prop
 | .ref q _,vs=>DH q vs
 | .ptr q ..,vs=>DH q vs
 | _,_=>True
def Dd(ops:List Oper)(j:Nat):Option Operand:=(ops[j]?).bind fun o=>tgt o.op
def amW(s:St)(vs:List V):Option Operand→Prop
 | some x=>arV (s.ev x) vs
 | none=>True
def ahj(ops:List Oper)(o:Oper)(s:St):List Nat→Prop
 | []=>True
 | j::r=>amW s (o.op.operands.toList.map s.ev) (Dd ops j)∧ahj ops o s r
theorem JU{l:List Oper}{o:Oper}{s:St}:∀{js:List Nat} {j:Nat},ahj l o s js→j∈js→amW s (o.op.operands.toList.map s.ev) (Dd l j)
 | k::r,j,h,hj=>by
  rcases aCJ.1 hj with rfl | hj
  ·exact h.1
  ·exact JU h.2 hj
theorem DG{q:Nat}:∀{vs:List V},DH q vs→∀v∈vs,nn q v
 | x::r,h,v,hv=>by
  rcases aCJ.1 hv with rfl | hv
  ·exact h.1
  ·exact DG h.2 v hv
theorem anS{K:Nat→Bool}{q:Nat}{v:V}(hk:ir K v)(h:nn q v):ir (· == q) v:=by
 cases v<;>first | exact h.elim | exact hk | (simp only[nn]at h;simpa [ir,CD,oS]using h) | trivial
theorem iZ{N M:Nat→Bool}{p:Nat}(h1:N p=false)(h2:M p=true→(p == p)=false):(N p || M p)=false:=by
 cases hm:M p with
 | false=>rw[h1];rfl
 | true=>have:=h2 hm;simp at this
theorem Nq{N M:Nat→Bool}{v:V}(h1:oS N v)(h2:∀p,M p=true→oS (· == p) v):oS (fun p=>N p || M p) v:=by
 cases v with
 | ref p n=>exact iZ h1 (fun hm=>h2 p hm)
 | ptr p n i j=>exact iZ h1 (fun hm=>h2 p hm)
 | _=>exact h1
theorem anT{N M:Nat→Bool}{v:V}(h1:CD N v)(h2:∀p,M p=true→CD (· == p) v):CD (fun p=>N p || M p) v:=by
 cases v with
 | agg cs=>exact h1
 | dP cs=>exact fun x hx=>Nq (h1 x hx) (fun p hp=>h2 p hp x hx)
 | ref p n=>exact iZ h1 (fun hm=>h2 p hm)
 | ptr p n i j=>exact iZ h1 (fun hm=>h2 p hm)
 | _=>exact h1
theorem anR{N M:Nat→Bool}{v:V}(h1:ir N v)(h2:∀p,M p=true→ir (· == p) v):ir (fun p=>N p || M p) v:=by
 cases v with
 | kQ vs=>exact fun x hx=>anT (h1 x hx) (fun p hp=>h2 p hp x hx)
 | fn f cs=>exact fun x hx=>Nq (h1 x hx) (fun p hp=>h2 p hp x hx)
 | agg cs=>exact h1
 | dP cs=>exact fun x hx=>Nq (h1 x hx) (fun p hp=>h2 p hp x hx)
 | ref p n=>exact iZ h1 (fun hm=>h2 p hm)
 | ptr p n i j=>exact iZ h1 (fun hm=>h2 p hm)
 | _=>exact h1
theorem Us{v:V}{vs:List V}{q:Nat}(h:arV v vs)(hq:v.names (· == q)=true):DH q vs:=by
 cases v<;>simp[V.names]at hq<;>subst hq<;>exact h
def JT(P:Program)(n:Nat)(ops:Array Oper)(Φ:St→Prop):List (Nat×List Nat)→St→Prop
 | [],s=>Φ s
 | (i,js)::r,s=>match ops[i]? with
  | some o=>ahj ops.toList o s js∧ep P n ops o (JT P n ops Φ r) s
  | none=>False
def Kp(ops:Array Oper)(aF:Array Bool)(p:Nat):Bool:=(List.range ops.size).any fun i=>!aF.getD i true&&((ops[i]?).bind (·.dst) == some (p % 1000))
theorem Cc{aF:Array Bool}{p:Nat}:Kp ops aF p=true↔∃i o,ops[i]? = some o∧aF.getD i true=false∧o.dst=some (p % 1000):=by
 unfold Kp;simp only[aEf,aEv,aCs,aDe,aDI];constructor
 ·rintro⟨i,hi,h1,h2⟩
  obtain⟨o,ho⟩:∃o,ops[i]? = some o:=⟨ops[i],by simp[hi]⟩;rw[ho]at h2;exact⟨i,o,ho,h1,by simpa using h2⟩
 ·rintro⟨i,o,ho,h1,h2⟩
  refine⟨i,?_,h1,by rw[ho];simpa using h2⟩;rcases aDA i ops.size with h | h
  ·exact h
  ·rw[aD1 h]at ho;cases ho
def o9(ops:Array Oper):Bool:=
 let l:=ops.toList.filterMap (·.dst)
 l.all (· < 1000)&&l.Nodup
theorem gK(h:o9 ops=true){i:Nat}{o:Oper}(ho:ops[i]? = some o){d:Nat}(hd:o.dst=some d):d<1000:=by
 simp only[o9,aCs,aCG,aCy]at h;refine h.1 d (aEk.2 ⟨o,?_,hd⟩);have:ops.toList[i]? = some o:=by simpa using ho
 exact aCC this
theorem iH{α β:Type}{f:α→Option β}:∀{l:List α},(l.filterMap f).Nodup→∀(i j:Nat) (x y:α) (d:β),l[i]? = some x→l[j]? = some y→f x=some d→f y=some d→i=j
 | [],_,i,j,x,y,d,h,_,_,_=>by simp at h
 | z::l,hn,i,j,x,y,d,hx,hy,fx,fy=>by
  have Kx:∀(k:Nat) (u:α),l[k]? = some u→f u=some d→d∈l.filterMap f:=fun k u hk fu=>aEk.2 ⟨u,aCC hk,fu⟩
  have hn':(l.filterMap f).Nodup:=by
   rw[aEg]at hn
   split at hn
   ·exact hn
   ·exact(aD5.1 hn).2
  cases i with
  | zero=>
   simp at hx;subst hx;cases j with
   | zero=>rfl
   | succ j=>
    rw[aEg,fx]at hn;exact absurd (Kx j y (by simpa using hy) fy) (aD5.1 hn).1
  | succ i=>
   cases j with
   | zero=>
    simp at hy;subst hy;rw[aEg,fy]at hn;exact absurd (Kx i x (by simpa using hx) fx) (aD5.1 hn).1
   | succ j=>rw[iH hn' i j x y d (by simpa using hx) (by simpa using hy) fx fy]
theorem KX(h:o9 ops=true){i j:Nat}{o o':Oper}(ho:ops[i]? = some o)(dW:ops[j]? = some o'){d:Nat}(hd:o.dst=some d)(Xj:o'.dst=some d):i=j:=by
 simp only[o9,aCs,aCy]at h;exact iH h.2 i j o o' d (by simpa using ho) (by simpa using dW) hd Xj
theorem SF(h:o9 ops=true){aF:Array Bool}{j:Nat}{o:Oper}(ho:ops[j]? = some o):∀p,Kp ops (aF.setIfInBounds j true) p=true→minus (Kp ops aF) o.dst p=true:=by
 intro p hp;obtain⟨i,oi,hoi,hl,hd⟩:=Cc.1 hp;have hij:j ≠ i:=by
  intro e;subst e;rcases aDA j aF.size with h2 | h2
  ·simp[h2]at hl
  ·simp[h2]at hl
 rw[getD_set_ne true hij]at hl;simp only[minus,aCs,aDe];refine⟨Cc.2 ⟨i,oi,hoi,hl,hd⟩,?_⟩;cases he:o.dst == some (p % 1000)with
 | false=>rfl
 | true=>exact absurd (KX h ho hoi (by simpa using he) hd) hij
theorem LW{aF:Array Bool}{j:Nat}{o:Oper}(ho:ops[j]? = some o)(hl:aF.getD j true=false):∀d,o.dst=some d→∀p,p % 1000=d→Kp ops aF p=true:=
 fun d hd p hp=>Cc.2 ⟨j,o,ho,hl,by rw[hp];exact hd⟩
def KR(ops:Array Oper)(aF:Array Bool):Operand→Bool
 | .tmp d=>(List.range ops.size).all fun j=>aF.getD j true || (ops[j]?).bind (·.dst) != some d
 | _=>true
theorem aiF{aF:Array Bool}{x:Operand}(h:KR ops aF x=true){j:Nat}{oj:Oper}(hj:ops[j]? = some oj)(Ku:aF.getD j true=false){s s2:St}(ht:∀i,oj.dst ≠ some i→s2.t i=s.t i):s2.ev x=s.ev x:=by
 cases x with
 | tmp d=>
  show(if d<100000 then s2.t d else .dead)=(if d<100000 then s.t d else .dead);rw[ht d fun e=>?_];simp only[KR,aCG,aEv]at h;have cg:j<ops.size:=by
   rcases aDA j ops.size with h | h
   ·exact h
   ·rw[aD1 h]at hj;cases hj
  have h1:=h j cg;rw[Ku,hj]at h1;simp[e]at h1
 | _=>rfl
theorem UT{aF:Array Bool}{x:Operand}{j:Nat}(h:KR ops aF x=true):KR ops (aF.setIfInBounds j true) x=true:=by
 cases x with
 | tmp d=>
  simp only[KR,aCG,aEv,aD0]at h ⊢;intro k hk;rcases h k hk with h1 | h1
  ·by_cases hjk:j=k
   ·subst hjk
    left;rcases aDA j aF.size with h2 | h2
    ·simp[h2]
    ·simp[h2]
   ·left;rw[getD_set_ne true hjk];exact h1
  ·exact .inr h1
 | _=>rfl
def al4(ops:Array Oper)(aF:Array Bool)(oj:Oper)(x:Operand):Prop:=∃d j o,x=.tmp d∧ops[j]? = some o∧aF.getD j true=false∧xe o=true∧o.dst=some d∧∃e∈oj.after,Region.binds .any e=true∧e.on=j
def NQ(ops:Array Oper)(aF:Array Bool)(oj:Oper):Operand→Bool
 | .tmp d=>oj.after.any fun e=>Region.binds .any e&&(!aF.getD e.on true&&match ops[e.on]? with
  | some o=>xe o&&o.dst == some d
  | none=>false)
 | _=>false
theorem KO{aF:Array Bool}{oj:Oper}{x:Operand}(h:NQ ops aF oj x=true):al4 ops aF oj x:=by
 cases x with
 | tmp d=>
  simp only[NQ]at h;rw[Array.any_eq_true]at h;obtain⟨i,hi,h1⟩:=h;simp only[aCs,aDe]at h1;obtain⟨h2,h3,h4⟩:=h1
  split at h4
  ·rename_i o ho
   simp only[aCs,aDI]at h4;exact⟨d,_,o,rfl,ho,h3,h4.1,h4.2,_,Array.getElem_mem hi,h2,rfl⟩
  ·cases h4
 | _=>cases h
def N6(ops:Array Oper)(aF:Array Bool)(js:List Nat)(oi:Oper)(j:Nat)(oj:Oper):Bool:=oi.apart ops oj&&(bY oi.op == .plain || bY oi.op == .alloc || (match tgt oj.op with | none=>true | some x=>js.contains j&&KR ops aF x || NQ ops aF oj x))
theorem Oc(hD:o9 ops=true){Φ:St→Prop}{i:Nat}{oi:Oper}(hi:ops[i]? = some oi)(hl:SD oi)(B:Nat→Bool)
   (hB:∀j oj,ops[j]? = some oj→B j=true→∃e∈oj.after,Region.binds .any e=true∧(e.on=i∨B e.on=true)):∀(fuel:Nat) (aF:Array Bool) (s:St),wI (Kp ops aF) s→(∀j,B j=true→aF.getD j false=false)→
   (∀j oj,ops[j]? = some oj→j ≠ i→aF.getD j true=false→B j=false→oi.apart ops oj=true∧((bY oi.op=.plain∨bY oi.op=.alloc)∨∀x,tgt oj.op=some x→(KR ops aF x=true∧∀q,(s.ev x).names (· == q)=true→∀y∈oi.op.operands.toList,ir (· == q) (s.ev y))∨al4 ops aF oj x))→
   i∈Region.ready .any ops aF→ep P n ops oi (C8 P n ops Φ fuel (aF.setIfInBounds i true)) s→C8 P n ops Φ (fuel+1) aF s:=by
 intro fuel;induction fuel with
 | zero=>
  intro aF s hs _ _ hr H;refine⟨fun h=>(by rw[h]at hr;cases hr),fun j hj=>?_⟩;by_cases hji:j=i
  ·subst hji;rw[hi];exact H
  ·obtain⟨Ku,_⟩:=mem_ready.1 hr
   have hd:∀d,oi.dst=some d→Kp ops aF d=true∧d<1000:=fun d hd=>⟨LW hi Ku d hd d (aDD (gK hD hi hd)),gK hD hi hd⟩
   obtain⟨v,obo,_,h1,_⟩:=A4 hl hs hd H;have h2:=ready_mono hj hji;rw[h1.1]at h2;cases h2
 | succ fuel ih=>
  intro aF s hs hinv Rm hr H;refine⟨fun h=>(by rw[h]at hr;cases hr),fun j hj=>?_⟩;by_cases hji:j=i
  ·subst hji;rw[hi];exact H
  ·obtain⟨Ku,_⟩:=mem_ready.1 hr
   obtain⟨aaW,oj,Xg,fS⟩:=mem_ready.1 hj;have hdi:∀d,oi.dst=some d→Kp ops aF d=true∧d<1000:=fun d hd=>⟨LW hi Ku d hd d (aDD (gK hD hi hd)),gK hD hi hd⟩
   have hdj:∀d,oj.dst=some d→(∀p,p % 1000=d→Kp ops aF p=true)∧d<1000:=fun d hd=>⟨LW Xg aaW d hd,gK hD Xg hd⟩
   have awg:∀e∈oj.after,Region.binds .any e=true→e.on ≠ i:=fun e he hb heq=>by
    have h1:=fS e he hb;rw[heq]at h1;rcases aDA i aF.size with h' | h'
    ·simp[h']at Ku h1;rw[Ku]at h1;cases h1
    ·simp[aD1 h']at h1
   have hnb:B j=false:=by
    cases hbj:B j with
    | false=>rfl
    | true=>
     obtain⟨e,he,hb,h'⟩:=hB j oj Xg hbj;rcases h' with h' | h'
     ·exact absurd h' (awg e he hb)
     ·have h1:=fS e he hb
      rw[hinv _ h']at h1;cases h1
   have ati:=Rm j oj Xg hji aaW hnb;obtain⟨hap,aaV⟩:=ati;obtain⟨a1,a2,a3⟩:=Oper.apart_spec hap;obtain⟨v,obo,CG,h1,hv,C4,oZ⟩:=A4 hl hs hdi H;have h2:=h1.2 j (ready_mono hj hji);rw[Xg]at h2 ⊢;simp only at h2 ⊢;have h3:=Ls (ops:=ops) hs hdj hdi a2 a1 hv C4 CG h2;refine BP ?_ h3;rintro s2 ⟨FJ,h4⟩;have Rf:wI (Kp ops (aF.setIfInBounds j true)) s2:=FJ.ok.mono (SF hD Xg);refine ih (aF.setIfInBounds j true) s2 Rf (fun q hq=>?_) ?_ (ready_mono hr (Ne.symm hji)) ?_
   ·by_cases hjq:j=q
    ·subst hjq;rw[hnb]at hq;cases hq
    ·rw[getD_set_ne false hjq];exact hinv q hq
   ·intro k ok hk hki as2 hno
    have as1:aF.getD k true=false:=by
     by_cases hjk:j=k
     ·subst hjk;exact aaW
     ·rw[getD_set_ne true hjk]at as2;exact as2
    obtain⟨q1,q2⟩:=Rm k ok hk hki as1 hno;refine⟨q1,q2.imp id fun q3 x hx=>?_⟩;have ey:∀y∈oi.op.operands.toList,s2.ev y=s.ev y:=fun y hy=>(kj (ops:=ops) (o:=oi) (s:=s) (s':=s2) (fun k hk=>FJ.t k (fun e=>a3 k e hk))).1 y hy
    rcases q3 x hx with⟨q4,q5⟩ | ⟨d,j0,o0,rfl,ho0,ah7,sX,hd0,he0⟩
    ·have ex:s2.ev x=s.ev x:=aiF q4 Xg aaW FJ.t
     refine .inl ⟨UT q4,fun q hq y hy=>?_⟩;rw[ex]at hq;rw[ey y hy];exact q5 q hq y hy
    ·by_cases hj0:j=j0
     ·subst hj0
      rw[Xg]at ho0;cases ho0;refine .inl ⟨?_,fun q hq y hy=>?_⟩
      ·simp only[KR,aCG,aEv,aD0]
       intro i' kh;by_cases hii:j=i'
       ·subst hii;left
        rcases aDA j aF.size with h2 | h2
        ·simp[h2]
        ·simp[h2]
       ·right
        cases hoi:ops[i']? with
        | none=>rfl
        | some oi'=>
         simp only[aDd];cases hb:(oi'.dst != some d)with
         | true=>rfl
         | false=>
          have:oi'.dst=some d:=by simpa using hb
          exact absurd (KX hD Xg hoi hd0 this) hii
      ·have hqd:q % 1000=d:=FJ.d sX d hd0 q (by
        have hq2:(if d<100000 then s2.t d else .dead).names (fun x=>x == q)=true:=hq
        split at hq2
        ·exact hq2
        ·simp[V.names]at hq2)
       rw[ey y hy];exact dM (fun p hp=>by
        have hp':p=q:=by simpa using hp
        rw[hp'];exact LW Xg aaW d hd0 q hqd) (AP hs y)
     ·exact .inr ⟨d,j0,o0,rfl,ho0,by rw[getD_set_ne true hj0];exact ah7,sX,hd0,he0⟩
   ·refine oZ _ s2 (fun p=>oj.dst == some (p % 1000) || hit oj s p) (minus (Kp ops aF) oj.dst) FJ.ok (fun d hd=>?_) dN (fun k hk=>FJ.t k (fun e=>a3 k e hk)) ?_ ?_
    ·simp only[minus,aCs,aDe]
     refine⟨(hdi d hd).1,?_⟩;rw[aDD (hdi d hd).2];have:=a2 d hd;cases hq:oj.dst == some d with
     | false=>rfl
     | true=>exact absurd (by simpa using hq) this
    ·rcases aaV with(hk | hk) | hk
     ·exact .inl hk
     ·exact .inr (.inl hk)
     ·refine .inr (.inr ⟨fun y hy=>anR (dM (fun p hp=>?_) (AP hs y)) (fun p hp=>?_),fun p hp=>?_⟩)
      ·have hp':oj.dst=some (p % 1000):=by simpa using hp
       exact(hdj _ hp').1 p rfl
      ·unfold hit at hp
       split at hp
       ·rename_i x hx
        rcases hk x hx with hk | ⟨d,j0,o0,_,_,ah7,_,_,e0,he0,hb0,av8⟩
        ·exact hk.2 p hp y hy
        ·have h1:=fS e0 he0 hb0
         rw[av8]at h1;rcases aDA j0 aF.size with h' | h'
         ·simp[h']at ah7 h1;rw[ah7]at h1;cases h1
         ·simp[aD1 h']at h1
       ·cases hp
      ·simp only[Bool.or_eq_false_iff]at hp
       exact FJ.h p hp.1 hp.2
    ·rw[Array.setIfInBounds_comm _ _ hji]
     exact h4
def aag(ops:Array Oper)(k:Nat):Bool:=match ops[k]? with | some o=>bY o.op != .uX | none=>false
def axe(k:Nat)(ops:List Oper):List Bool:=ops.foldl (fun acc o=>acc++[o.after.any fun e=>Region.binds .any e&&(e.on == k || acc.getD e.on false)]) []
def at1(ops:Array Oper)(k:Nat)(B:List Bool)(aF:Array Bool):Bool:=(List.range ops.size).all fun j=>!B.getD j false || (!aF.getD j false&&match ops[j]? with
 | some o=>o.after.any fun e=>Region.binds .any e&&(e.on == k || B.getD e.on false)
 | none=>true)
def abf(ops:Array Oper)(aF:Array Bool)(k:Nat)(js:List Nat)(B:List Bool):Bool:=match ops[k]? with
 | none=>false
 | some oi=>decide (B.length≤ops.size)&&at1 ops k B aF&&(List.range ops.size).all fun j=>j == k || aF.getD j true || B.getD j false || (match ops[j]? with
  | none=>true
  | some oj=>N6 ops aF js oi j oj)
def atF(ops:Array Oper)(aF:Array Bool)(k:Nat)(js:List Nat):Bool:=abf ops aF k js (axe k ops.toList)
theorem NR{aF:Array Bool}{k:Nat}{js:List Nat}{oi:Oper}{B:List Bool}(hi:ops[k]? = some oi)(h:abf ops aF k js B=true):
  (∀j oj,ops[j]? = some oj→B.getD j false=true→∃e∈oj.after,Region.binds .any e=true∧(e.on=k∨B.getD e.on false=true))∧(∀j,B.getD j false=true→aF.getD j false=false)∧
  ∀j oj,ops[j]? = some oj→j ≠ k→aF.getD j true=false→B.getD j false=false→N6 ops aF js oi j oj=true:=by
 unfold abf at h;rw[hi]at h;simp only[aCs,aCy]at h;obtain⟨⟨hlen,aoX⟩,h⟩:=h;simp only[at1,aCG,aEv,aD0,aDe,aCs]at aoX;have iz:∀j oj,ops[j]? = some oj→j<ops.size:=fun j oj hj=>by
  rcases aDA j ops.size with h | h
  ·exact h
  ·rw[aD1 h]at hj;cases hj
 refine⟨fun j oj hj hb=>?_,fun j hb=>?_,fun j oj hj hjk Ku hnb=>?_⟩
 ·rcases aoX j (iz j oj hj)with h1 | h1
  ·rw[hb]at h1;cases h1
  ·have h2:=h1.2
   rw[hj]at h2;simp only at h2;rw[Array.any_eq_true]at h2;obtain⟨x,hx,C1⟩:=h2;simp only[aCs,aD0,aDI]at C1;exact⟨_,Array.getElem_mem hx,C1.1,C1.2⟩
 ·have cg:j<ops.size:=by
   rcases aDA j B.length with h3 | h3
   ·omega
   ·simp[aDB,aE0 h3]at hb
  rcases aoX j cg with h1 | h1
  ·rw[hb]at h1;cases h1
  ·exact h1.1
 ·simp only[aCG,aEv]at h
  have h1:=h j (iz j oj hj);rw[hj,Ku,hnb]at h1;simp only[aD0,aDI,aDt,or_false]at h1;rcases h1 with h1 | h1
  ·exact absurd h1 hjk
  ·exact h1
def aah(ops:Array Oper):List (Nat×List Nat)→Array Bool→Bool
 | [],aF=>(Region.ready .any ops aF).isEmpty
 | (k,js)::r,aF=>(Region.ready .any ops aF == [k] || ((Region.ready .any ops aF).contains k&&aag ops k&&atF ops aF k js))&&aah ops r (aF.setIfInBounds k true)
def N0(ops:Array Oper)(perm:List (Nat×List Nat)):Bool:=o9 ops&&perm.length == ops.size&&aah ops perm (Array.replicate ops.size false)
theorem Au(hD:o9 ops=true){Φ:St→Prop}:∀(perm:List (Nat×List Nat)) (aF:Array Bool) (s:St),aah ops perm aF=true→wI (Kp ops aF) s→JT P n ops Φ perm s→C8 P n ops Φ perm.length aF s
 | [],aF,s,hx,hs,h=>⟨by simpa [aah]using hx,h⟩
 | (k,js)::r,aF,s,hx,hs,h=>by
  simp only[aah,aCs,aD0]at hx;obtain⟨hx1,C1⟩:=hx;simp only[JT]at h
  split at h<;>try (exact h.elim)
  rename_i ok aX;obtain⟨asC,h⟩:=h;have aaM:k∈Region.ready .any ops aF:=by
   rcases hx1 with h1 | h1
   ·have:Region.ready .any ops aF=[k]:=by simpa using h1
    rw[this];simp
   ·simpa using h1.1.1
  obtain⟨Ku,_⟩:=mem_ready.1 aaM;have hdk:∀d,ok.dst=some d→(∀p,p % 1000=d→Kp ops aF p=true)∧d<1000:=fun d hd=>⟨LW aX Ku d hd,gK hD aX hd⟩
  have h2:=Ls (ops:=ops) (di:=none) (v:=.dead) (obo:=none) hs hdk (fun d h=>by cases h) (fun d h=>by cases h) (fun d h=>by cases h) trivial (fun ob h=>by cases h) (fun ob h=>by cases h) h;have h3:ep P n ops ok (C8 P n ops Φ r.length (aF.setIfInBounds k true)) s:=BP (fun s2 ⟨FJ,hq⟩=>Au hD r _ s2 C1 (FJ.ok.mono (SF hD aX)) hq) h2;rcases hx1 with h1 | ⟨⟨_,NG⟩,Rm⟩
  ·have aaQ:Region.ready .any ops aF=[k]:=by simpa using h1
   refine⟨fun h=>(by rw[aaQ]at h;cases h),fun j hj=>?_⟩;rw[aaQ]at hj;simp at hj;subst hj;rw[aX];exact h3
  ·obtain⟨f1,f2,f3⟩:=NR aX Rm
   refine Oc hD aX ?_ _ f1 r.length aF s hs f2 (fun j oj hj hjk Ku hnb=>?_) aaM h3
   ·unfold aag at NG
    rw[aX]at NG;simpa [SD]using NG
   ·have f4:=f3 j oj hj hjk Ku hnb
    simp only[N6,aCs,aD0,aDI]at f4;refine⟨f4.1,f4.2.imp id fun f5 x hx=>?_⟩;rw[hx]at f5;simp only[aD0,aCs]at f5;rcases f5 with f5 | f5
    case inr=>exact .inr (KO f5)
    refine .inl ⟨f5.2,fun q hq y hy=>?_⟩;have f6:=JU asC (by simpa using f5.1:j∈js);have f7:Dd ops.toList j=some x:=by simp[Dd,hj,hx]
    rw[f7]at f6;exact anS (AP hs y) (DG (Us f6 hq) _ (aCN.2 ⟨y,hy,rfl⟩))
variable {w0:World} {I:sy} {A0:Nat→Prop}
theorem qu{o:Oper}{Φ:St→Prop}{K':Act→World→Prop}{Q':Exit→Act→World→Prop}(hK:∀s a w,Φ s→RR w0 I A0 n s a w→K' a w){s:St}{a:Act}{w:World}(hR:RR w0 I A0 n s a w)
  (h:ep P n ops o Φ s):if Region.wanted o (yielded ops a.tmps)then o.wp P a w K' Q'∨(o.asks P a w∧LetsOut Q')else K' (a.put o.dst undef) w:=by
 obtain⟨β,A,R⟩:=hR;obtain⟨g1,g2,g3⟩:=kG (ops:=ops) (o:=o) R;have jZ:yZ P n o Φ s→o.wp P a w K' Q':=by
  rintro⟨hd,hr⟩;have Xj:=vj hd;unfold Oper.wp
  split at hr
  ·rename_i p v ha
   obtain⟨u,h1,h2⟩:=ajZ R.cq a s.ev (kK R.ai) o ha hr.1;simp only at h1;rw[h1];exact hK _ _ _ hr.2 ⟨_,_,R.put o.dst Xj v u h2⟩
  ·rename_i p ob r ha
   split at hr<;>try (exact hr.elim)
   rename_i d iQ;obtain⟨u,w',h1,h2⟩:=aj1 R o ha hr.1 d iQ (Xj d iQ);rw[h1];rcases hr.2 with hr3 | ⟨hr1,himp,hr3⟩
   ·exact hK _ _ _ hr3 h2.rr
   ·subst hr1
    exact hK _ _ _ hr3 (h2.Fs himp)
  ·rename_i p q ob ha
   obtain⟨w',h1,h2⟩:=aj0 R o ha hr.1 Xj;rw[h1];exact hK _ _ _ hr.2 h2
  ·rename_i p q ob ha
   obtain⟨u,w',h1,h2⟩:=aj2 R o ha hr.1 Xj;rw[h1];exact hK _ _ _ hr.2 h2
  ·rename_i g args ha
   obtain⟨dp,Pd,hc,dd,hφ⟩:=hr;obtain⟨vs,e1,e2,e3⟩:=tF R.ai o ha;rw[e1];obtain⟨aX,aa6⟩:=hc;obtain⟨q1,q2⟩:=Lm R.cq (vs:=vs) 0 dd (fun i x hx=>by simpa using e3 i x hx);refine(aa6 w A vs R.cq.lt (by rw[e2,q1]) (fun i x hx=>by simpa using q2 i x hx)).mono ?_;rintro e w' ⟨rds,us,β',A',xQ,rfl,hp⟩;exact hK _ _ _ (hφ rds xQ).2 (R.call (aX rds xQ) hp o.dst Xj)
  ·exact hr.elim
 have akT:Et n o Φ s→K' (a.put o.dst undef) w:=by
  rintro⟨hd,hr⟩;exact hK _ _ _ hr ⟨_,_,R.put o.dst (vj hd) _ _ wS⟩
 unfold ep at h
 split at h
 ·rename_i hg
  rw[aCr (g1 hg)];exact .inl (jZ h)
 ·rename_i b want hg
  rw[g2 b want hg];by_cases hb:b=want
  ·subst hb
   simp only[beq_self_eq_true,aC5];exact .inl (jZ (h.1 rfl))
  ·have:(b == want)=false:=by simpa using hb
   rw[this];simp only[aDt,aC4];exact akT (h.2 (by cases b<;>cases want<;>simp_all))
 ·rename_i xs want hg
  rw[g3 xs want hg];simp only[aDt,aC4];exact akT h
 ·exact h.elim
theorem tE{Φ:St→Prop}{Q':Exit→Act→World→Prop}(hQ:∀s a w,Φ s→RR w0 I A0 n s a w→Q' .normal a w):∀(fuel:Nat) (aF:Array Bool) (s:St) (a:Act) (w:World),C8 P n ops Φ fuel aF s→RR w0 I A0 n s a w→
  wpAny P .any ops Q' fuel aF a w
 | 0,_,_,_,_,h,hR=>⟨h.1,hQ _ _ _ h.2 hR⟩
 | fuel+1,aF,s,a,w,h,hR=>⟨fun h0=>hQ _ _ _ (h.1 h0) hR,fun i hi=>by
   have h2:=h.2 i hi;unfold wpOp
   split
   ·rename_i hn
    rw[hn]at h2;exact tE hQ fuel _ s a w h2 hR
   ·rename_i o ho
    rw[ho]at h2;exact qu (fun s' a' w' hs UP=>tE hQ fuel _ s' a' w' hs UP) hR h2⟩
theorem RB.Q2{s:St}{a:Act}{w:World}{β:Nat→Option Nat}{A:Nat→Prop}(R:RB w0 I A0 n s a w β A)(K:Nat→Bool):RB w0 I A0 n (s.kill K) a w β A∧wI K (s.kill K):=by
 have S:Step ⟨w,A,s.h,β⟩ ⟨w,A,(s.kill K).h,β⟩:=by
  refine⟨fun b hb _=>rfl,aCt _,fun b hb h=>h,fun b hb h=>?_⟩;obtain⟨o,ob',ho,UM⟩:=h;simp only[St.kill]at ho
  split at ho
  ·cases ho
  ·cases dG:s.h o with
   | none=>simp[dG]at ho
   | some bM=>exact⟨o,bM,dG,UM⟩
 have hk:∀p,K p=false→rz ⟨w,A,s.h,β⟩ ⟨w,A,(s.kill K).h,β⟩ p:=by
  intro p hp ob' dW;simp only[St.kill,hp,aDt,aC4]at dW;cases dG:s.h p with
  | none=>simp[dG]at dW
  | some bM=>
   simp[dG]at dW;subst dW;exact⟨bM,dG,by rw[Ob.dm];exact aCt _,fun _=>⟨rfl,Ob.eQ _ _,Ob.gP _ _,fun b cur' hb fw=>⟨cur',fw,rfl⟩⟩⟩
 have tq:∀o ob',(s.kill K).h o=some ob'→∃ob,s.h o=some ob∧K o=false∧ob'=ob.kill K:=by
  intro o ob' ho;simp only[St.kill]at ho
  split at ho
  ·cases ho
  ·rename_i hKo
   cases dG:s.h o with
   | none=>simp[dG]at ho
   | some bM=>simp[dG]at ho;exact⟨bM,rfl,by simpa using hKo,ho.symm⟩
 have aZ:cz ⟨w,A,(s.kill K).h,β⟩:=by
  refine⟨fun o ob' ho=>?_,fun o o' tZ bM b h1 h2 h3 h4=>?_,R.cq.lt⟩
  ·obtain⟨ob,dG,_,rfl⟩:=tq o ob' ho
   have aX:=R.cq.ok o ob dG;exact sR.step R.cq S _ hk (fun b hb=>⟨rfl,by simp only at aX hb;rw[hb]at aX;exact aX.1⟩) aX
  ·obtain⟨CE,oe,_,_⟩:=tq o tZ h1
   obtain⟨ZZ,Rf,_,_⟩:=tq o' bM h2;exact R.cq.inj o o' CE ZZ b oe Rf h3 h4
 refine⟨R.step w β A (s.kill K).h K S hk aZ R.a0 R.ev (fun o ob b ho hb=>?_) (fun o hq hx=>by simp[St.kill,hx]) none (fun _ h=>by cases h) .dead undef trivial,⟨fun i=>Nn (R.ai i),fun o ob' ho=>?_,fun o ho=>by simp[St.kill,ho]⟩⟩
 ·obtain⟨CE,oe,_,_⟩:=tq o ob ho
  exact R.own o CE b oe hb
 ·obtain⟨ob,dG,hKo,rfl⟩:=tq o ob' ho
  have aX:=R.cq.ok o ob dG;intro row aO x hx;rw[Ob.uL];cases hb:β o with
  | none=>
   simp only at aX;rw[hb]at aX;have h0:ob.rows=[]:=aX;unfold Ob.kill at aO
   split at aO<;>simp[h0]at aO
  | some b=>
   simp only at aX;rw[hb]at aX;obtain⟨_,cur,_,_,_,iu⟩:=aX;unfold Ob.kill at aO
   split at aO
   ·rename_i himp
    obtain⟨r,hr,rfl⟩:=aCN.1 aO;obtain⟨y,hy,rfl⟩:=aCN.1 hx;obtain⟨i,hi⟩:=aDf hr;obtain⟨j,hj⟩:=aDf hy;obtain⟨v,_,_,c3,_⟩:=iu i r hi j y hj;exact⟨fc c3,fun h=>by simp[himp]at h⟩
   ·rename_i himp
    obtain⟨i,hi⟩:=aDf aO;obtain⟨j,hj⟩:=aDf hx;obtain⟨v,_,_,c3,c4⟩:=iu i row hi j x hj;have c5:=dS (c4 (by simpa using himp));exact⟨eh c5,fun _=>c5⟩
def KI(l:List (Nat×Nat))(p:Nat):Bool:=l.any fun q=>decide (q.1≤p % 1000)&&decide (p % 1000≤q.2)
def oO(ops:Array Oper)(perm:List (Nat×List Nat))(ks:List (Nat×Nat)):Bool:=N0 ops perm&&ops.all fun o=>match o.dst with | some d=>KI ks d | none=>true
theorem Fi{id:Nat}{perm:List (Nat×List Nat)}{ks:List (Nat×Nat)}{Φ:St→Prop}{Q':Exit→Act→World→Prop}(hm:P.follows .mixedOrders=true)(hr:oO ops perm ks=true)(hQ:∀s a w,Φ s→RR w0 I A0 n s a w→Q' .normal a w)
  {s:St} {a:Act} {w:World} (hR:RR w0 I A0 n s a w) (h:JT P n ops Φ perm (s.kill (KI ks))):(Code.region id ops true).wp P Q' a w:=by
 simp only[oO,aCs]at hr;obtain⟨Kw,hks⟩:=hr;simp only[N0,aCs,aDI]at Kw;obtain⟨⟨hD,hlen⟩,aoG⟩:=Kw;refine wp_region_any hm ?_;obtain⟨β,A,R⟩:=hR;obtain⟨R2,aX⟩:=(R.drew (w.drawn+1)).Q2 (KI ks);have aaR:wI (Kp ops (Array.replicate ops.size false)) (s.kill (KI ks)):=aX.mono fun p hp=>by
  obtain⟨i,o,ho,_,hd⟩:=Cc.1 hp;rw[Array.all_eq_true]at hks;have cg:i<ops.size:=by
   rcases aDA i ops.size with h | h
   ·exact h
   ·rw[aD1 h]at ho;cases ho
  have h1:=hks i cg;have h2:ops[i]=o:=by simpa [cg]using ho
  rw[h2,hd]at h1;simpa [KI]using h1
 have h9:=tE hQ _ _ _ _ _ (Au hD perm _ _ aoG aaR h) ⟨_,_,R2⟩;rw[hlen]at h9;exact h9
end
end Go.AL
