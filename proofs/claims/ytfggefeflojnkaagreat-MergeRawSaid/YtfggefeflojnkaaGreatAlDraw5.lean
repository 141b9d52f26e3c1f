/- By an AI agent. -/
import Derived.Test.YtfggefeflojnkaaGreatAlDraw3
namespace Go.AL
theorem kj{s s':St}{ops:Array Oper}{o:Oper}(h:∀i,i∈o.looksAt ops→s'.t i=s.t i):(∀x∈o.op.operands.toList,s'.ev x=s.ev x)∧FM ops o s'=FM ops o s:=by
 refine⟨fun x hx=>?_,?_⟩
 ·cases x with
  | tmp i=>
   show(if i<100000 then s'.t i else .dead)=(if i<100000 then s.t i else .dead);rw[h i ?_];unfold Oper.looksAt;exact aDv _ (aEk.2 ⟨.tmp i,hx,rfl⟩)
  | _=>rfl
 ·unfold FM
  cases hg:o.guard with
  | none=>rfl
  | some jw=>
   obtain⟨j,want⟩:=jw;simp only;cases hd:(ops[j]?).bind (·.dst)with
   | none=>rfl
   | some d=>
    have:s'.t d=s.t d:=by
     refine h d ?_;unfold Oper.looksAt;refine aDw _ ?_;rw[hg];simp[hd]
    simp only[this]
theorem No{K:Nat→Bool}(v:Value):ir K (V.de v):=by
 by_cases h1:v.oneCell'=true
 ·exact oQ (oP v h1)
 ·cases v<;>simp_all [Value.oneCell',V.de,ir,CD,oS]
theorem AP{K:Nat→Bool}{s:St}(hs:wI K s)(x:Operand):ir K (s.ev x):=by
 cases x with
 | tmp i=>
  show ir K (if i<100000 then s.t i else .dead)
  split
  ·exact hs.t i
  ·trivial
 | const v=>
  show ir K (V.oT v);unfold V.oT
  split
  ·rename_i cs
   split
   ·rename_i fS
    intro x hx;obtain⟨u,hu,rfl⟩:=aCN.1 hx;exact oP u (aCG.1 fS u hu)
   ·trivial
  ·exact No _
 | func f=>intro x hx;simp at hx
 | global g=>trivial
section
variable {P:Program} {n:Nat} {ops:Array Oper} {K:Nat→Bool}
def SD(o:Oper):Prop:=bY o.op ≠ .uX
theorem A4{oi:Oper}{Φ:St→Prop}{s:St}(hl:SD oi)(hs:wI K s)(hd:∀d,oi.dst=some d→K d=true∧d<1000)(h:ep P n ops oi Φ s):
  ∃v obo,(∀ob,obo=some ob→∃d,oi.dst=some d)∧Φ (s.o8 oi.dst v obo)∧ir (minus K oi.dst) v∧(∀ob,obo=some ob→kL K ob)∧
   ∀(Ψ:St→Prop) (s2:St) (N K2:Nat→Bool),wI K2 s2→(∀d,oi.dst=some d→K2 d=true)→(∀p,K2 p=true→K p=true)→(∀i,i∈oi.looksAt ops→s2.t i=s.t i)→
    (bY oi.op=.plain∨bY oi.op=.alloc∨((∀x∈oi.op.operands.toList,ir N (s.ev x))∧∀p,N p=false→s2.h p=s.h p))→Ψ (s2.o8 oi.dst v obo)→ep P n ops oi Ψ s2:=by
 rcases xu h with⟨hr,oZ⟩ | ⟨hr,oZ⟩
 ·obtain⟨hdo,hm⟩:=hr
  have Ia:∀x∈oi.op.operands.toList,ir K (s.ev x):=fun x _=>AP hs x
  have aX:=acn (P:=P) (K:=K) (e:=s.ev) (h:=s.h) oi Ia hs.h;have same:∀(s2:St) (N:Nat→Bool),(∀i,i∈oi.looksAt ops→s2.t i=s.t i)→(bY oi.op=.plain∨bY oi.op=.alloc∨((∀x∈oi.op.operands.toList,ir N (s.ev x))∧∀p,N p=false→s2.h p=s.h p))→
    gF P oi s2.ev s2.h=gF P oi s.ev s.h:=by
   intro s2 N ht hh;obtain⟨he,_⟩:=kj (ops:=ops) ht;rcases hh with hh | hh | ⟨hN,hh⟩
   ·exact DM (.inl hh) he
   ·exact DM (.inr hh) he
   ·exact(Er (K:=N) oi (fun x hx=>(he x hx).symm) (fun p hp=>(hh p hp).symm) (fun x hx=>fb (hN x hx))).symm
  have aaV:(bY oi.op=.plain∨bY oi.op=.look)∨(bY oi.op=.alloc∨bY oi.op=.box):=by
   cases hk:bY oi.op<;>simp_all [SD]
  rcases aaV with hk | hk
  ·rcases ju (P:=P) (e:=s.ev) (h:=s.h) hk with⟨p,v,ha⟩ | ha
   ·rw[ha]at hm aX
    refine⟨v,none,(fun ob h=>by cases h),by rw[lM];exact hm.2,dM dN (aX hm.1),(fun ob h=>by cases h),fun Ψ s2 N K2 Rf hd2 hK2 ht hh hψ=>?_⟩;refine oZ Ψ s2 (kj ht).2 ⟨hdo,?_⟩;rw[same s2 N ht hh,ha];exact⟨hm.1,by rw[← lM];exact hψ⟩
   ·rw[ha]at hm;exact hm.elim
  ·rcases jv (P:=P) (e:=s.ev) (h:=s.h) hk with⟨p,ob,r,ha⟩ | ha
   ·rw[ha]at hm aX
    simp only at hm;cases iQ:oi.dst with
    | none=>rw[iQ]at hm;exact hm.elim
    | some d=>
     rw[iQ]at hm;obtain⟨hKd,CI⟩:=hd d iQ;have cA:=aX hm.1;rcases hm with⟨hm1,hm | ⟨hr1,himp,hm⟩⟩
     rotate_left
     ·refine⟨.sl ob.rows,none,(fun ob h=>by cases h),by rw[lM,← hs.uH hKd];exact hm,oQ (cA.sl himp),(fun ob h=>by cases h),fun Ψ s2 N K2 Rf hd2 hK2 ht hh hψ=>?_⟩
      refine oZ Ψ s2 (kj ht).2 ⟨hdo,?_⟩;rw[same s2 N ht hh,ha];simp only;rw[iQ];refine⟨hm1,.inr ⟨hr1,himp,?_⟩⟩;rw[Rf.uH (hd2 d rfl),← lM];exact hψ
     refine⟨(if r then .ref d ob.rows.length else .ptr d ob.rows.length 0 0),some ob,fun _ _=>⟨d,rfl⟩,?_,?_,(fun ob' h=>by cases h;exact cA),fun Ψ s2 N K2 Rf hd2 hK2 ht hh hψ=>?_⟩
     ·rw[← hs.QX hKd cA];exact hm
     ·have:minus K (some d) d=false:=by simp[minus,aDD CI]
      cases r<;>exact this
     ·refine oZ Ψ s2 (kj ht).2 ⟨hdo,?_⟩
      rw[same s2 N ht hh,ha];simp only;rw[iQ];refine⟨hm1,.inl ?_⟩;rw[Rf.QX (hd2 d rfl) (fun row hr x hx=>⟨eM hK2 (cA row hr x hx).1,(cA row hr x hx).2⟩)];exact hψ
   ·rw[ha]at hm;exact hm.elim
 ·refine⟨.kQ [],none,(fun ob h=>by cases h),by rw[lM];exact hr.2,(fun x hx=>by simp at hx),(fun ob h=>by cases h),fun Ψ s2 N K2 Rf hd2 hK2 ht hh hψ=>?_⟩
  exact oZ Ψ s2 (kj ht).2 ⟨hr.1,by rw[← lM];exact hψ⟩
theorem vu{h h':Nat→Option Ob}(hh:∀p,K p=false→h p=h' p):∀{xs ys:List V},(∀x∈xs,oS K x)→mV h xs ys→mV h' xs ys
 | [],[],_,_=>trivial
 | x::xs,y::ys,hx,ha=>by
  refine⟨?_,vu hh (fun z hz=>hx z (aCQ _ hz)) ha.2⟩;have h1:=ha.1;unfold xp at h1
  split at h1
  ·have e:=hh _ (show K _=false from hx _ (aCK ..))
   rw[e]at h1;exact h1
  ·exact h1
  ·obtain⟨rfl,hp,Ib⟩:=h1
   cases y<;>first | exact⟨rfl,hp,Ib⟩ | (simp[V.pure]at hp;done)
 | [],_::_,_,ha=>ha.elim
 | _::_,[],_,ha=>ha.elim
theorem Lq{h h':Nat→Option Ob}(hh:∀p,K p=false→h p=h' p){x y:V}(hx:ir K x)(ha:jD h x y):jD h' x y:=by
 unfold jD at ha
 split at ha
 ·have e:=hh _ (show K _=false from hx)
  rw[e]at ha;exact ha
 ·exact ha
 ·exact ha
 ·exact ha
 ·exact ha
 ·exact ha
 ·have e:=hh _ (show K _=false from hx)
  rw[e]at ha;exact ha
 ·exact ha
 ·exact⟨ha.1,vu hh hx ha.2⟩
 ·obtain⟨rfl,hp⟩:=ha
  cases y<;>first | exact⟨rfl,hp⟩ | exact .inl rfl | (simp[V.pure]at hp;done)
theorem vz{h h':Nat→Option Ob}(hh:∀p,K p=false→h p=h' p):∀{xs ys:List V},(∀x∈xs,ir K x)→kM h xs ys→kM h' xs ys
 | [],[],_,_=>trivial
 | x::xs,y::ys,hx,ha=>⟨Lq hh (hx x (by simp)) ha.1,vz hh (fun z hz=>hx z (by simp[hz])) ha.2⟩
 | [],_::_,_,ha=>ha.elim
 | _::_,[],_,ha=>ha.elim
theorem mP{dst:Option Nat}{ob:Ob}(h:kL K ob):kL (minus K dst) ob:=fun row hr x hx=>⟨eM dN (h row hr x hx).1,(h row hr x hx).2⟩
theorem abC{s:St}{dst:Option Nat}{v:V}{obo:Option Ob}{i:Nat}(h:dst ≠ some i):(s.o8 dst v obo).t i=s.t i:=by
 cases dst with
 | none=>cases obo<;>rfl
 | some d=>
  have:¬ i=d:=fun e=>h (by rw[e])
  cases obo<;>simp[St.o8,St.put,this]
theorem RA{s:St}{dst:Option Nat}{v:V}{obo:Option Ob}{p:Nat}(h:dst ≠ some p):(s.o8 dst v obo).h p=s.h p:=by
 cases dst with
 | none=>cases obo<;>rfl
 | some d=>
  have:¬ p=d:=fun e=>h (by rw[e])
  cases obo<;>simp[St.o8,St.put,this]
theorem vh{s:St}{di:Option Nat}{v:V}{obo:Option Ob}{dj:Option Nat}{u:V}(ec:∀d,di=some d→dj ≠ some d):(s.o8 di v obo).put dj u=(s.put dj u).o8 di v obo:=by
 cases di with
 | none=>cases dj<;>cases obo<;>rfl
 | some d=>
  cases dj with
  | none=>cases obo<;>rfl
  | some e=>
   have hde:¬ d=e:=fun h=>ec d rfl (by rw[h])
   have key:(fun i=>if i=e then u else(if i=d then v else s.t i))=fun i=>if i=d then v else(if i=e then u else s.t i):=by
    funext i
    by_cases h1:i=e
    ·have:¬ i=d:=fun h=>hde (by rw[← h,h1])
     rw[aCr h1,aCo this,aCr h1]
    ·rw[aCo h1,aCo h1]
   cases obo<;>simp only[St.o8,St.put]<;>rw[key]
theorem DZ{s:St}{di:Option Nat}{v:V}{obo:Option Ob}{q:Nat}{ob:Ob}(ec:obo.isSome→di ≠ some q):(s.o8 di v obo).ca q ob=(s.ca q ob).o8 di v obo:=by
 cases di with
 | none=>cases obo<;>rfl
 | some d=>
  cases obo with
  | none=>rfl
  | some ob'=>
   have hde:¬ d=q:=fun h=>ec rfl (by rw[h])
   simp only[St.o8,St.ca]
   congr 1
   funext p
   simp only[gi];by_cases h1:p=q
   ·have:¬ p=d:=fun h=>hde (by rw[← h,h1])
    rw[aCr h1,aCo this,aCr h1]
   ·rw[aCo h1,aCo h1]
theorem ajG{s:St}{di:Option Nat}{v:V}{obo:Option Ob}{e:Nat}{ob:Ob}{u:V}(ec:∀d,di=some d→d ≠ e)(hv:ir (· == e) v)(ho:∀o,obo=some o→kL (· == e) o):
  (s.o8 di v obo).new e ob u=(s.new e ob u).o8 di v obo:=by
 cases di with
 | none=>cases obo<;>rfl
 | some d=>
  have hde:=ec d rfl;have key:(fun i=>if i=e then u else(if i=d then v else s.t i).kill (· == e))=fun i=>if i=d then v else(if i=e then u else(s.t i).kill (· == e)):=by
   funext i
   by_cases h1:i=e
   ·have:¬ i=d:=fun h=>hde (by rw[← h,h1])
    rw[aCr h1,aCo this,aCr h1]
   ·rw[aCo h1,aCo h1]
    by_cases h2:i=d
    ·rw[aCr h2,aCr h2];exact fb hv
    ·rw[aCo h2,aCo h2]
  cases obo with
  | none=>simp only[St.o8,St.put,St.new];rw[key]
  | some o=>
   simp only[St.o8,St.new];rw[key]
   congr 1
   funext p
   simp only[eS];by_cases h1:p=e
   ·have:¬ p=d:=fun h=>hde (by rw[← h,h1])
    rw[aCr h1,aCo this,aCr h1]
   ·rw[aCo h1,aCo h1]
    by_cases h2:p=d
    ·rw[aCr h2,aCr h2,aCU,ef (ho o rfl)]
    ·rw[aCo h2,aCo h2]
theorem abD{s:St}{di:Option Nat}{v:V}{obo:Option Ob}{dj:Option Nat}{rds:List RD}(ec:∀d e,di=some d→dj=some e→d ≠ e∧d<1000∧e<1000)(hv:∀e,dj=some e→ir (fun p=>p % 1000 == e) v)(ho:∀e o,dj=some e→obo=some o→kL (fun p=>p % 1000 == e) o):
  (s.o8 di v obo).call dj rds=(s.call dj rds).o8 di v obo:=by
 cases dj with
 | none=>cases di<;>cases obo<;>rfl
 | some e=>
  cases di with
  | none=>cases obo<;>rfl
  | some d=>
   obtain⟨hde,CI,he1⟩:=ec d e rfl rfl;have hK:∀p,bq e rds.length p=true→(p % 1000 == e)=true:=by
    intro p hp;obtain⟨h1,_⟩:=dw hp;rw[h1];simp[Nat.add_mul_mod_self_left,aDD he1]
   have hdK:bq e rds.length d=false:=by
    cases hk:bq e rds.length d with
    | false=>rfl
    | true=>
     have:=hK d hk;rw[aDD CI]at this;exact absurd (by simpa using this) hde
   have UE:ir (bq e rds.length) v:=dM hK (hv e rfl);have key:(fun i=>if i=e then lB (cG e rds)else(if i=d then v else s.t i).kill (bq e rds.length))=fun i=>if i=d then v else(if i=e then lB (cG e rds)else(s.t i).kill (bq e rds.length)):=by
    funext i
    by_cases h1:i=e
    ·have:¬ i=d:=fun h=>hde (by rw[← h,h1])
     rw[aCr h1,aCo this,aCr h1]
    ·rw[aCo h1,aCo h1]
     by_cases h2:i=d
     ·rw[aCr h2,aCr h2];exact fb UE
     ·rw[aCo h2,aCo h2]
   cases obo with
   | none=>simp only[St.o8,St.put,St.call];rw[key]
   | some o=>
    simp only[St.o8,St.call];rw[key]
    congr 1
    funext p
    simp only[ek];by_cases h1:bq e rds.length p=true
    ·have:¬ p=d:=fun h=>by rw[h,hdK]at h1;cases h1
     rw[aCr h1,aCo this,aCr h1]
    ·rw[aCo h1,aCo h1]
     by_cases h2:p=d
     ·have dW:kL (bq e rds.length) o:=fun row hr x hx=>⟨eM hK (ho e o rfl rfl row hr x hx).1,(ho e o rfl rfl row hr x hx).2⟩
      rw[aCr h2,aCr h2,aCU,ef dW]
     ·rw[aCo h2,aCo h2]
def tgt:Op→Option Operand
 | .store _ x _=>some x
 | .call {callee:=.builtin .append,args,.. }=>args.toList[0]?
 | _=>none
theorem Gv{o:Oper}{e:Operand→V}{h:Nat→Option Ob}{p:Prop}{q:Nat}{ob:Ob}(ha:gF P o e h=.H7 p q ob):(∃bG,h q=some bG)∧writes o.op=true∧(∃x,tgt o.op=some x∧∃n i j,e x=.ptr q n i j):=by
 obtain⟨dst,op,ty,pos,after,guard⟩:=o;have hk:bY op=.uX:=by
  cases hk:bY op with
  | uX=>rfl
  | plain=>rcases ju (P:=P) (o:=⟨dst,op,ty,pos,after,guard⟩) (e:=e) (h:=h) (.inl hk)with⟨_,_,h1⟩ | h1<;>rw[h1]at ha<;>cases ha
  | look=>rcases ju (P:=P) (o:=⟨dst,op,ty,pos,after,guard⟩) (e:=e) (h:=h) (.inr hk)with⟨_,_,h1⟩ | h1<;>rw[h1]at ha<;>cases ha
  | alloc=>rcases jv (P:=P) (o:=⟨dst,op,ty,pos,after,guard⟩) (e:=e) (h:=h) (.inl hk)with⟨_,_,_,h1⟩ | h1<;>rw[h1]at ha<;>cases ha
  | box=>rcases jv (P:=P) (o:=⟨dst,op,ty,pos,after,guard⟩) (e:=e) (h:=h) (.inr hk)with⟨_,_,_,h1⟩ | h1<;>rw[h1]at ha<;>cases ha
 unfold gF at ha;simp only at ha;cases op<;>(try (simp[bY]at hk;done))<;>dsimp only at ha<;>(try (cases ha;done))
 case store t x y=>
  split at ha<;>try (cases ha;done)
  unfold fg at ha
  split at ha<;>try (cases ha;done)
  rename_i o' n' i' j' hx
  split at ha<;>try (cases ha;done)
  rename_i bG ho
  split at ha<;>try (cases ha;done)
  simp only[AR.H7.injEq]at ha;obtain⟨_,rfl,_⟩:=ha;exact⟨⟨bG,ho⟩,rfl,x,rfl,_,_,_,hx⟩
 case makeSlice t l c=>
  unfold nY at ha
  split at ha<;>try (cases ha;done)
  split at ha<;>try (cases ha;done)
  split at ha<;>cases ha
 case call c=>
  obtain⟨callee,args,argTypes⟩:=c;unfold fh at ha
  dsimp only at ha
  cases callee with
  | value f=>
   dsimp only at ha
   split at ha<;>try (cases ha;done)
   split at ha<;>cases ha
  | invoke r m=>cases ha
  | builtin b=>
   cases b<;>(try (simp[bY]at hk;done))<;>dsimp only at ha<;>(try (cases ha;done))
   split at ha<;>try (cases ha;done)
   split at ha<;>try (cases ha;done)
   unfold dQ at ha
   split at ha<;>try (cases ha;done)
   split at ha<;>try (cases ha;done)
   split at ha<;>try (cases ha;done)
   split at ha<;>cases ha
theorem Gw{o:Oper}{e:Operand→V}{h:Nat→Option Ob}{p:Prop}{q:Nat}{ob:Ob}(ha:gF P o e h=.app p q ob):(∃bG,h q=some bG)∧writes o.op=true∧(∃x,tgt o.op=some x∧∃m,e x=.ref q m):=by
 obtain⟨dst,op,ty,pos,after,guard⟩:=o;have hk:bY op=.uX:=by
  cases hk:bY op with
  | uX=>rfl
  | plain=>rcases ju (P:=P) (o:=⟨dst,op,ty,pos,after,guard⟩) (e:=e) (h:=h) (.inl hk)with⟨_,_,h1⟩ | h1<;>rw[h1]at ha<;>cases ha
  | look=>rcases ju (P:=P) (o:=⟨dst,op,ty,pos,after,guard⟩) (e:=e) (h:=h) (.inr hk)with⟨_,_,h1⟩ | h1<;>rw[h1]at ha<;>cases ha
  | alloc=>rcases jv (P:=P) (o:=⟨dst,op,ty,pos,after,guard⟩) (e:=e) (h:=h) (.inl hk)with⟨_,_,_,h1⟩ | h1<;>rw[h1]at ha<;>cases ha
  | box=>rcases jv (P:=P) (o:=⟨dst,op,ty,pos,after,guard⟩) (e:=e) (h:=h) (.inr hk)with⟨_,_,_,h1⟩ | h1<;>rw[h1]at ha<;>cases ha
 unfold gF at ha;simp only at ha;cases op<;>(try (simp[bY]at hk;done))<;>dsimp only at ha<;>(try (cases ha;done))
 case store t x y=>
  split at ha<;>try (cases ha;done)
  unfold fg at ha
  split at ha<;>try (cases ha;done)
  split at ha<;>try (cases ha;done)
  split at ha<;>cases ha
 case makeSlice t l c=>
  unfold nY at ha
  split at ha<;>try (cases ha;done)
  split at ha<;>try (cases ha;done)
  split at ha<;>cases ha
 case call c=>
  obtain⟨callee,args,argTypes⟩:=c;unfold fh at ha
  dsimp only at ha
  cases callee with
  | value f=>
   dsimp only at ha
   split at ha<;>try (cases ha;done)
   split at ha<;>cases ha
  | invoke r m=>cases ha
  | builtin b=>
   cases b<;>(try (simp[bY]at hk;done))<;>dsimp only at ha<;>(try (cases ha;done))
   split at ha<;>try (cases ha;done)
   rename_i x y t t' hl ht
   split at ha<;>try (cases ha;done)
   unfold dQ at ha
   split at ha<;>try (cases ha;done)
   split at ha<;>try (cases ha;done)
   split at ha<;>try (cases ha;done)
   rename_i o2 m2 gu
   split at ha<;>try (cases ha;done)
   rename_i bG ho;simp only[AR.app.injEq]at ha;obtain⟨_,rfl,_⟩:=ha;refine⟨⟨bG,ho⟩,rfl,x,?_,m2,gu⟩;simp only[tgt,hl];rfl
theorem Of{o:Oper}{e:Operand→V}{h:Nat→Option Ob}{g:FuncId}{args:List V}(ha:gF P o e h=.call g args)(he:∀x∈o.op.operands.toList,ir K (e x)):(∀x∈args,ir K x)∧writes o.op=false:=by
 obtain⟨dst,op,ty,pos,after,guard⟩:=o;have hk:bY op=.uX:=by
  cases hk:bY op with
  | uX=>rfl
  | plain=>rcases ju (P:=P) (o:=⟨dst,op,ty,pos,after,guard⟩) (e:=e) (h:=h) (.inl hk)with⟨_,_,h1⟩ | h1<;>rw[h1]at ha<;>cases ha
  | look=>rcases ju (P:=P) (o:=⟨dst,op,ty,pos,after,guard⟩) (e:=e) (h:=h) (.inr hk)with⟨_,_,h1⟩ | h1<;>rw[h1]at ha<;>cases ha
  | alloc=>rcases jv (P:=P) (o:=⟨dst,op,ty,pos,after,guard⟩) (e:=e) (h:=h) (.inl hk)with⟨_,_,_,h1⟩ | h1<;>rw[h1]at ha<;>cases ha
  | box=>rcases jv (P:=P) (o:=⟨dst,op,ty,pos,after,guard⟩) (e:=e) (h:=h) (.inr hk)with⟨_,_,_,h1⟩ | h1<;>rw[h1]at ha<;>cases ha
 unfold gF at ha;simp only at ha he;cases op<;>(try (simp[bY]at hk;done))<;>dsimp only at ha<;>(try (cases ha;done))
 case store t x y=>
  split at ha<;>try (cases ha;done)
  unfold fg at ha
  split at ha<;>try (cases ha;done)
  split at ha<;>try (cases ha;done)
  split at ha<;>cases ha
 case makeSlice t l c=>
  unfold nY at ha
  split at ha<;>try (cases ha;done)
  split at ha<;>try (cases ha;done)
  split at ha<;>cases ha
 case call c=>
  obtain⟨callee,as,argTypes⟩:=c;unfold fh at ha
  dsimp only at ha
  cases callee with
  | value f=>
   dsimp only at ha
   split at ha<;>try (cases ha;done)
   rename_i g' bZ hf
   split at ha<;>try (cases ha;done)
   simp only[AR.call.injEq]at ha;obtain⟨_,rfl⟩:=ha;refine⟨fun x hx=>?_,rfl⟩;rcases aC3.1 hx with h1 | h1
   ·obtain⟨y,hy,rfl⟩:=aCN.1 h1
    exact he y (by simp[Op.operands,Call.operands];exact .inr (by simpa using hy))
   ·have:=he f (by simp[Op.operands,Call.operands])
    rw[hf]at this;exact AN (this x h1)
  | invoke r m=>cases ha
  | builtin b=>
   cases b<;>(try (simp[bY]at hk;done))<;>dsimp only at ha<;>(try (cases ha;done))
   split at ha<;>try (cases ha;done)
   split at ha<;>try (cases ha;done)
   unfold dQ at ha
   split at ha<;>try (cases ha;done)
   split at ha<;>try (cases ha;done)
   split at ha<;>try (cases ha;done)
   split at ha<;>cases ha
end
end Go.AL
namespace Go.AL
section
variable {P:Program} {n:Nat} {ops:Array Oper} {K:Nat→Bool}
theorem wI.put{s:St}(hs:wI K s)(d:Option Nat){v:V}(hv:ir K v):wI K (s.put d v):=by
 cases d with
 | none=>exact hs
 | some d=>
  refine⟨fun i=>?_,hs.h,hs.n⟩;rw[St.put];simp only
  split
  ·exact hv
  ·exact hs.t i
def hit(o:Oper)(s:St)(p:Nat):Bool:=match tgt o.op with
 | some x=>(s.ev x).names (· == p)
 | none=>false
def xe(o:Oper):Bool:=match o.op with
 | .call {callee:=.value _,.. }=>true
 | _=>false
theorem Ny{P:Program}{o:Oper}{e:Operand→V}{h:Nat→Option Ob}(hc:xe o=true):(∃g args,gF P o e h=.call g args)∨gF P o e h=.bad:=by
 obtain⟨dst,op,ty,pos,after,guard⟩:=o;unfold xe at hc
 split at hc<;>try (cases hc;done)
 rename_i f args ats Ia;simp only at Ia;subst Ia;unfold gF fh;simp only
 split
 ·split
  ·exact .inl ⟨_,_,rfl⟩
  ·exact .inr rfl
 ·exact .inr rfl
theorem J9{d:Nat}(hd:d<1000){rds:List RD}(aX:∀rd∈rds,rd.ok=true){q:Nat}(h:(lB (cG d rds)).names (· == q)=true):q % 1000=d:=by
 match rds,aX,h with
 | [],_,h=>simp[cG,lB,V.names]at h
 | [rd],aX,h=>
  simp only[cG,lB]at h;cases rd with
  | v x=>
   have:=aX (.v x) (by simp);cases x<;>simp[RD.ok,V.pure,RD.val,V.names]at this h
  | o ty es rows=>
   simp only[RD.val,V.names,aDI]at h;rw[← h];exact aDD hd
  | a ty es rows pre post=>simp[RD.val,V.names]at h
 | r1::r2::rds,_,h=>simp[cG,lB,V.names]at h
structure Aft (K:Nat→Bool) (oj:Oper) (s s2:St):Prop where
 ok:wI (minus K oj.dst) s2
 t:∀i,oj.dst ≠ some i→s2.t i=s.t i
 h:∀p,(oj.dst == some (p % 1000))=false→hit oj s p=false→s2.h p=s.h p
 d:xe oj=true→∀d,oj.dst=some d→∀q,(s2.t d).names (· == q)=true→q % 1000=d
theorem aj3{oj:Oper}{Φ:St→Prop}{s:St}{di:Option Nat}{v:V}{obo:Option Ob}(hs:wI K s)(hj:∀d,oj.dst=some d→(∀p,p % 1000=d→K p=true)∧d<1000)
  (hi:∀d,di=some d→K d=true∧d<1000) (ec:∀d,di=some d→oj.dst ≠ some d) (aic:∀d,di=some d→d∉oj.looksAt ops)
  (hv:ir (minus K di) v) (C4:∀ob,obo=some ob→kL K ob) (CG:∀ob,obo=some ob→∃d,di=some d) (h:yZ P n oj Φ (s.o8 di v obo)) :
  yZ P n oj (fun s2=>Aft K oj s s2∧Φ (s2.o8 di v obo)) s:=by
 obtain⟨hd,hm⟩:=h;have Re:=kj (ops:=ops) (o:=oj) (s:=s) (s':=s.o8 di v obo) (fun i kh=>abC (fun e=>aic i e kh));have Ia:∀x∈oj.op.operands.toList,ir K (s.ev x):=fun x _=>AP hs x
 have awS:gF P oj (s.o8 di v obo).ev (s.o8 di v obo).h=gF P oj s.ev s.h:=by
  refine(Er (K:=fun p=>di == some p) oj (fun x hx=>(Re.1 x hx).symm) (fun p hp=>(RA (by simpa using hp)).symm) (fun x hx=>?_)).symm;refine fb (dM (fun p hp=>?_) (Ia x hx));have:di=some p:=by simpa using hp
  exact(hi p this).1
 have aX:=acn (P:=P) (K:=K) (e:=s.ev) (h:=s.h) oj Ia hs.h;rw[awS]at hm;refine⟨hd,?_⟩;have hvj:∀e,oj.dst=some e→ir (fun p=>p % 1000 == e) v:=fun e he=>dM (fun p hp=>by
  have hp':p % 1000=e:=by simpa using hp
  simp only[minus,aCs,aDe];refine⟨(hj e he).1 p hp',?_⟩;cases di with
  | none=>rfl
  | some d=>
   have:d ≠ e:=fun h=>ec d rfl (by rw[he,h])
   simp[hp',this]) hv
 have Xg:∀e o,oj.dst=some e→obo=some o→kL (fun p=>p % 1000 == e) o:=fun e o he ho row hr x hx=>⟨eM (fun p hp=>(hj e he).1 p (by simpa using hp)) (C4 o ho row hr x hx).1,(C4 o ho row hr x hx).2⟩
 have ak3:∀q bG,s.h q=some bG→obo.isSome→di ≠ some q:=by
  intro q bG hq dG e;have h1:=hs.n q (hi q e).1;rw[h1]at hq;cases hq
 have hKq:∀q bG,s.h q=some bG→K q=false:=fun q bG hq=>by
  cases hk:K q with
  | false=>rfl
  | true=>rw[hs.n q hk]at hq;cases hq
 have Xi:wI (minus K oj.dst) s:=hs.mono dN;have akv:∀q ob bG,s.h q=some bG→kL K ob→wI (minus K oj.dst) (s.ca q ob):=by
  intro q ob bG hq cA;refine⟨Xi.t,fun p ob' hp=>?_,fun p hp=>?_⟩
  ·simp only[St.ca,gi]at hp
   split at hp
   ·cases hp;exact mP cA
   ·exact Xi.h p ob' hp
  ·simp only[St.ca,gi]
   rw[aCo,hs.n p (dN p hp)];intro e;have:=hKq q bG hq;rw[← e,dN p hp]at this;cases this
 have akw:∀(q:Nat) (ob:Ob) {v':V} (p':Nat),¬ p'=q→((s.ca q ob).put oj.dst v').h p'=s.h p':=by
  intro q ob v' p' h;cases oj.dst<;>simp[St.put,St.ca,gi,h]
 have hnc:∀r,gF P oj s.ev s.h=r→(∀g args,r ≠ .call g args)→r ≠ .bad→xe oj=true→False:=fun r hr h1 h2 hc=>by
  rcases Ny (P:=P) (e:=s.ev) (h:=s.h) hc with⟨g,args,h3⟩ | h3
  ·exact h1 g args (hr▸h3)
  ·exact h2 (hr▸h3)
 generalize ha:gF P oj s.ev s.h=r at hm aX hnc ⊢;cases r with
 | bad=>exact hm.elim
 | val p u=>
  refine⟨hm.1,⟨(Xi.put _ (dM dN (aX hm.1))),fun i kh=>?_,fun p _ _=>by cases oj.dst<;>rfl,fun hc=>(hnc _ rfl (fun _ _ h=>by cases h) (fun h=>by cases h) hc).elim⟩,?_⟩
  ·cases iQ:oj.dst with
   | none=>rfl
   | some d=>
    have:¬ i=d:=fun e=>kh (by rw[iQ,e])
    simp[St.put,this]
  ·rw[← vh ec];exact hm.2
 | new p ob r=>
  cases iQ:oj.dst with
  | none=>simp only[iQ]at hm
  | some e=>
   simp only[iQ]at hm ⊢;obtain⟨hje,he1⟩:=hj e iQ;have hKe:K e=true:=hje e (aDD he1);have cA:=aX hm.1;rcases hm with⟨hm1,hm | ⟨hr1,himp,hm⟩⟩
   rotate_left
   ·refine⟨hm1,.inr ⟨hr1,himp,?_⟩⟩
    have hKs:∀p,(p == e)=true→K p=true:=fun p hp=>by have:p=e:=(by simpa using hp);rw[this];exact hKe
    have hs0:wI (· == e) s:=hs.mono hKs;have bQ:wI (· == e) (s.o8 di v obo):=by
     have hve:ir (· == e) v:=dM (fun p hp=>by have:p=e:=(by simpa using hp);rw[this];simp[aDD he1]) (hvj e iQ);refine⟨fun i=>?_,fun p o hp=>?_,fun p hp=>?_⟩
     ·by_cases hdi:di=some i
      ·subst hdi
       cases obo<;>simp only[St.o8,St.put,aC5]<;>exact hve
      ·rw[abC hdi];exact hs0.t i
     ·by_cases hdp:di=some p
      ·subst hdp
       cases obo with
       | none=>exact hs0.h p o (by simpa [St.o8,St.put]using hp)
       | some o2=>
        simp only[St.o8,aC5,aCA]at hp;subst hp;exact fun row hr x hx=>⟨eM hKs (C4 o2 rfl row hr x hx).1,(C4 o2 rfl row hr x hx).2⟩
      ·exact hs0.h p o (by rw[← RA hdp];exact hp)
     ·have:p=e:=by simpa using hp
      subst this;rw[RA (fun h=>ec p h iQ)];exact hs.n p hKe
    rw[bQ.uH (by simp)]at hm;rw[hs.uH hKe,← iQ];refine⟨⟨Xi.put _ (oQ (cA.sl himp)),fun i kh=>?_,fun p _ _=>by rw[iQ];rfl,fun hc=>(hnc _ rfl (fun _ _ h=>by cases h) (fun h=>by cases h) hc).elim⟩,?_⟩
    ·have:¬ i=e:=fun h=>kh (by rw[iQ,h])
     rw[iQ];simp[St.put,this]
    ·rw[← vh ec,iQ];exact hm
   have oe:wI (· == e) s:=hs.mono (fun p hp=>by have:p=e:=(by simpa using hp);rw[this];exact hKe);have hme:minus K (some e) e=false:=by simp[minus,aDD he1]
   refine⟨hm1,.inl ⟨⟨⟨fun i=>?_,fun q ob' hq=>?_,fun q hq=>?_⟩,fun i kh=>?_,fun q hq _=>?_,fun hc=>(hnc _ rfl (fun _ _ h=>by cases h) (fun h=>by cases h) hc).elim⟩,?_⟩⟩
   ·simp only[St.new]
    split
    ·cases r<;>(rw[iQ];exact hme)
    ·rw[fb (oe.t i),iQ];exact dM dN (hs.t i)
   ·simp only[St.new,eS]at hq
    rw[iQ]
    split at hq
    ·cases hq
     rw[ef (fun row hr x hx=>⟨eM (fun p hp=>by have:p=e:=(by simpa using hp);rw[this];exact hKe) (cA row hr x hx).1,(cA row hr x hx).2⟩)];exact mP cA
    ·cases hh:s.h q with
     | none=>simp[hh]at hq
     | some bM=>
      simp[hh]at hq;subst hq;rw[ef (oe.h q bM hh)];exact mP (hs.h q bM hh)
   ·rw[iQ]at hq
    simp only[St.new,eS];have:¬ q=e:=fun h=>by rw[h,hme]at hq;cases hq
    rw[aCo this,hs.n q (dN q hq)];rfl
   ·have:¬ i=e:=fun h=>kh (by rw[iQ,h])
    simp only[St.new,aCo this];exact fb (oe.t i)
   ·rw[iQ]at hq
    have:¬ q=e:=fun h=>by rw[h,aDD he1]at hq;simp at hq
    simp only[St.new,eS,aCo this];cases hh:s.h q with
    | none=>rfl
    | some bM=>simp only[aCU];rw[ef (oe.h q bM hh)]
   ·have hvk:ir (· == e) v:=dM (fun p hp=>by have:p=e:=(by simpa using hp);rw[this];simp[aDD he1]) (hvj e iQ)
    rw[← ajG (fun d Xj=>fun h=>ec d Xj (by rw[iQ,h])) hvk (fun o ho row hr x hx=>⟨eM (fun p hp=>by have:p=e:=(by simpa using hp);rw[this];exact hKe) (C4 o ho row hr x hx).1,(C4 o ho row hr x hx).2⟩)];exact hm
 | H7 p q ob=>
  obtain⟨⟨bG,hq⟩,hw,x,hx,n',i',j',gu⟩:=Gv ha;have aoL:∀(q0:Nat) p',p'=q→hit oj s p'=false→False:=fun _ p' e hh=>by
   simp only[hit,hx,gu,V.names,e]at hh;simp at hh
  refine⟨hm.1,⟨(akv q ob bG hq (aX hm.1)).put _ trivial,fun i kh=>?_,fun p' _ hh=>?_,fun hc=>(hnc _ rfl (fun _ _ h=>by cases h) (fun h=>by cases h) hc).elim⟩,?_⟩
  ·cases iQ:oj.dst with
   | none=>rfl
   | some d=>
    have:¬ i=d:=fun e=>kh (by rw[iQ,e])
    simp[St.put,St.ca,this]
  ·exact akw q ob p' (fun e=>aoL q p' e hh)
  ·rw[← vh ec,← DZ (fun dG=>ak3 q bG hq dG)];exact hm.2
 | app p q ob=>
  obtain⟨⟨bG,hq⟩,hw,x,hx,m',gu⟩:=Gw ha;have aoL:∀(q0:Nat) p',p'=q→hit oj s p'=false→False:=fun _ p' e hh=>by
   simp only[hit,hx,gu,V.names,e]at hh;simp at hh
  refine⟨hm.1,⟨(akv q ob bG hq (aX hm.1)).put _ ?_,fun i kh=>?_,fun p' _ hh=>?_,fun hc=>(hnc _ rfl (fun _ _ h=>by cases h) (fun h=>by cases h) hc).elim⟩,?_⟩
  ·show minus K oj.dst q=false
   cases hk:minus K oj.dst q with
   | false=>rfl
   | true=>
    have:=hKq q bG hq;rw[dN q hk]at this;cases this
  ·cases iQ:oj.dst with
   | none=>rfl
   | some d=>
    have:¬ i=d:=fun e=>kh (by rw[iQ,e])
    simp[St.put,St.ca,this]
  ·exact akw q ob p' (fun e=>aoL q p' e hh)
  ·rw[← vh ec,← DZ (fun dG=>ak3 q bG hq dG)];exact hm.2
 | call g args=>
  obtain⟨dp,Pd,hc,dd,att⟩:=hm;obtain⟨ao1,hw⟩:=Of (K:=K) ha Ia;have ao0:kM s.h args dp:=vz (K:=fun p=>di == some p) (fun p hp=>RA (by simpa using hp)) (fun x hx=>dM (fun p hp=>(hi p (by simpa using hp)).1) (ao1 x hx)) dd;refine⟨dp,Pd,hc,ao0,fun rds xQ=>?_⟩;obtain⟨Rn,hφ⟩:=att rds xQ;refine⟨Rn,?_,?_⟩
  ·cases iQ:oj.dst with
   | none=>exact⟨by rw[iQ];exact hs.mono dN,fun i _=>rfl,fun p _ _=>rfl,fun _ d hd=>by rw[iQ]at hd;cases hd⟩
   | some e=>
    obtain⟨hje,he1⟩:=hj e iQ;have hKK:∀p,bq e rds.length p=true→p % 1000=e:=by
     intro p hp;obtain⟨h1,_⟩:=dw hp;rw[h1];simp[Nat.add_mul_mod_self_left,aDD he1]
    have oe:wI (bq e rds.length) s:=hs.mono (fun p hp=>hje p (hKK p hp));have hmk:∀p,bq e rds.length p=true→minus K (some e) p=false:=fun p hp=>by simp[minus,hKK p hp]
    have asK:∀(k:Nat) (rd:RD),rds[k]? = some rd→CD (minus K (some e)) (rd.val (e+1000*k)):=by
     intro k rd hk;have CI:=Rn rd (aCC hk);have hp1:=hc.1 rds xQ rd (aCC hk);cases rd with
     | v x=>
      have h2:ir (minus K (some e)) x:=dM (fun _ _=>rfl) CI;cases x<;>first | exact h2 | (simp[RD.ok,V.pure]at hp1;done)
     | o ty es rows=>exact hmk _ (ib (aCD.1 hk).1).1
     | a ty es rows pre post=>
      intro x hx;rcases aC3.1 hx with hx | hx
      ·exact eh (CI.2 x (aDv _ hx))
      ·rcases aCJ.1 hx with rfl | hx
       ·exact hmk _ (ib (aCD.1 hk).1).1
       ·exact eh (CI.2 x (aDw _ hx))
    refine⟨⟨fun i=>?_,fun q ob' hq=>?_,fun q hq=>?_⟩,fun i kh=>?_,fun q hq _=>?_,fun _ d hd q hq=>by
     rw[iQ]at hd;cases hd;simp only[St.call,aCr]at hq;exact J9 he1 (hc.1 rds xQ) hq⟩
    ·rw[iQ]
     simp only[St.call]
     split
     ·have fS:∀x∈cG e rds,CD (minus K (some e)) x:=by
       intro x hx;obtain⟨k,hk⟩:=aDf hx;rw[mN]at hk;cases hr:rds[k]? with
       | none=>simp[hr]at hk
       | some rd=>simp[hr]at hk;subst hk;exact asK k rd hr
      generalize cG e rds=xs at fS
      match xs with
      | []=>exact fun x hx=>by simp at hx
      | [x]=>exact AO (fS x (by simp))
      | x::y::xs=>exact fun z hz=>fS z hz
     ·rw[fb (oe.t i)];exact dM dN (hs.t i)
    ·rw[iQ]
     simp only[St.call,ek]at hq
     split at hq
     ·unfold fC at hq
      cases hr:rds[(q-e) / 1000]? with
      | none=>simp[hr]at hq
      | some rd=>
       cases rd with
       | v x=>simp[hr,RD.ob]at hq
       | o ty es rows=>
        simp[hr,RD.ob]at hq;subst hq;have CI:=Rn _ (aCC hr);exact fun row aO x hx=>⟨eh (CI row aO x hx),fun _=>CI row aO x hx⟩
       | a ty es rows pre post=>
        simp[hr,RD.ob]at hq;subst hq;have CI:=(Rn _ (aCC hr)).1;exact fun row aO x hx=>⟨eh (CI row aO x hx),fun _=>CI row aO x hx⟩
     ·cases hh:s.h q with
      | none=>simp[hh]at hq
      | some bM=>
       simp[hh]at hq;subst hq;rw[ef (oe.h q bM hh)];exact mP (hs.h q bM hh)
    ·rw[iQ]at hq
     simp only[St.call,ek];have:¬ bq e rds.length q=true:=fun h=>by rw[hmk q h]at hq;cases hq
     rw[aCo this,hs.n q (dN q hq)];rfl
    ·have:¬ i=e:=fun h=>kh (by rw[iQ,h])
     simp only[St.call,aCo this];exact fb (oe.t i)
    ·rw[iQ]at hq
     have:¬ bq e rds.length q=true:=fun h=>by rw[hKK q h]at hq;simp at hq
     simp only[St.call,ek,aCo this];cases hh:s.h q with
     | none=>rfl
     | some bM=>simp only[aCU];rw[ef (oe.h q bM hh)]
  ·rw[← abD (fun d e Xj he=>⟨fun h=>ec d Xj (by rw[he,h]),(hi d Xj).2,(hj e he).2⟩) hvj Xg]
   exact hφ
end
end Go.AL
