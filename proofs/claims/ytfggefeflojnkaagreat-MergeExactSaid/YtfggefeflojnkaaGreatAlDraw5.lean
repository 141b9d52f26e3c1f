/- AI. -/
import Derived.Test.YtfggefeflojnkaaGreatAlDraw3
namespace Go.AL
theorem km{s s':St}{ops:Array Oper}{o:Oper}(h:∀i,i∈o.looksAt ops→s'.t i=s.t i):(∀x∈o.op.operands.toList,s'.ev x=s.ev x)∧Ge ops o s'=Ge ops o s:=by
 refine⟨fun x hx=>?_,?_⟩
 ·cases x with
  | tmp i=>
   show(if i<100000 then s'.t i else .dead)=(if i<100000 then s.t i else .dead);rw[h i ?_];unfold Oper.looksAt;grind
  | _=>rfl
 ·unfold Ge
  cases hg:o.guard with
  | none=>rfl
  | some jw=>
   obtain⟨j,want⟩:=jw;simp only;cases hd:(ops[j]?).bind (·.dst)with
   | none=>rfl
   | some d=>
    have:s'.t d=s.t d:=by
     refine h d ?_;unfold Oper.looksAt;grind
    grind
theorem MU{K:Nat→Bool}(v:Value):iD K (V.db v):=by
 by_cases h1:v.oneCell'=true
 ·grind[oB,oy]
 ·cases v<;>simp_all [Value.oneCell',V.db,iD,C7,oC]
theorem Bi{K:Nat→Bool}{s:St}(hs:wo K s)(x:Operand):iD K (s.ev x):=by
 cases x with
 | tmp i=>
  show iD K (if i<100000 then s.t i else .dead)
  split
  ·exact hs.t i
  ·trivial
 | const v=>
  show iD K (V.oD v);unfold V.oD
  split
  ·rename_i cs
   split
   ·rename_i fQ
    intro x hx;grind[oy]
   ·trivial
  grind[MU]
 | func f=>intro x hx;simp at hx
 | global g=>trivial
section
variable {P:Program} {n:Nat} {ops:Array Oper} {K:Nat→Bool}
def RE(o:Oper):Prop:=bN o.op ≠ .uP
theorem Bz{oi:Oper}{Φ:St→Prop}{s:St}(hl:RE oi)(hs:wo K s)(hd:∀d,oi.dst=some d→K d=true∧d<1000)(h:ec P n ops oi Φ s):
  ∃v obo,(∀ob,obo=some ob→∃d,oi.dst=some d)∧Φ (s.oS oi.dst v obo)∧iD (minus K oi.dst) v∧(∀ob,obo=some ob→kC K ob)∧
   ∀(Ψ:St→Prop) (s2:St) (N K2:Nat→Bool),wo K2 s2→(∀d,oi.dst=some d→K2 d=true)→(∀p,K2 p=true→K p=true)→(∀i,i∈oi.looksAt ops→s2.t i=s.t i)→
    (bN oi.op=.plain∨bN oi.op=.alloc∨((∀x∈oi.op.operands.toList,iD N (s.ev x))∧∀p,N p=false→s2.h p=s.h p))→Ψ (s2.oS oi.dst v obo)→ec P n ops oi Ψ s2:=by
 rcases xq h with⟨hr,oN⟩ | ⟨hr,oN⟩
 ·obtain⟨hdo,hm⟩:=hr
  have s6:∀x∈oi.op.operands.toList,iD K (s.ev x):=fun x _=>Bi hs x
  have aO:=aaC (P:=P) (K:=K) (e:=s.ev) (h:=s.h) oi s6 hs.h;have same:∀(s2:St) (N:Nat→Bool),(∀i,i∈oi.looksAt ops→s2.t i=s.t i)→(bN oi.op=.plain∨bN oi.op=.alloc∨((∀x∈oi.op.operands.toList,iD N (s.ev x))∧∀p,N p=false→s2.h p=s.h p))→
    gH P oi s2.ev s2.h=gH P oi s.ev s.h:=by
   intro s2 N ht hh;obtain⟨he,_⟩:=km (ops:=ops) ht;rcases hh with hh | hh | ⟨hN,hh⟩
   ·exact Ej (.inl hh) he
   ·exact Ej (.inr hh) he
   ·exact(ER (K:=N) oi (fun x hx=>(he x hx).symm) (fun p hp=>(hh p hp).symm) (fun x hx=>e9 (hN x hx))).symm
  have Zk:(bN oi.op=.plain∨bN oi.op=.look)∨(bN oi.op=.alloc∨bN oi.op=.box):=by
   cases hk:bN oi.op<;>simp_all [RE]
  rcases Zk with hk | hk
  ·rcases jH (P:=P) (e:=s.ev) (h:=s.h) hk with⟨p,v,ha⟩ | ha
   ·rw[ha]at hm aO
    refine⟨v,none,(fun ob h=>by cases h),by rw[lG];exact hm.2,dI dJ (aO hm.1),(fun ob h=>by cases h),fun Ψ s2 N K2 Qc Zv hK2 ht hh hψ=>?_⟩;refine oN Ψ s2 (km ht).2 ⟨hdo,?_⟩;rw[same s2 N ht hh,ha];grind[lG]
   grind
  ·rcases jI (P:=P) (e:=s.ev) (h:=s.h) hk with⟨p,ob,r,ha⟩ | ha
   ·rw[ha]at hm aO
    simp only at hm;cases iY:oi.dst with
    | none=>grind
    | some d=>
     rw[iY]at hm;obtain⟨hKd,Ko⟩:=hd d iY;have cR:=aO hm.1;rcases hm with⟨TS,hm | ⟨hr1,himp,hm⟩⟩
     rotate_left
     ·refine⟨.sl ob.rows,none,(fun ob h=>by cases h),by rw[lG,← hs.uy hKd];exact hm,oB (cR.sl himp),(fun ob h=>by cases h),fun Ψ s2 N K2 Qc Zv hK2 ht hh hψ=>?_⟩
      refine oN Ψ s2 (km ht).2 ⟨hdo,?_⟩;rw[same s2 N ht hh,ha];simp only;rw[iY];refine⟨TS,.inr ⟨hr1,himp,?_⟩⟩;rw[Qc.uy (Zv d rfl),← lG];exact hψ
     refine⟨(if r then .ref d ob.rows.length else .ptr d ob.rows.length 0 0),some ob,fun _ _=>⟨d,rfl⟩,?_,?_,(fun ob' h=>by cases h;exact cR),fun Ψ s2 N K2 Qc Zv hK2 ht hh hψ=>?_⟩
     ·rw[← hs.PR hKd cR];exact hm
     ·have:minus K (some d) d=false:=by simp[minus,aAJ Ko]
      cases r<;>exact this
     ·refine oN Ψ s2 (km ht).2 ⟨hdo,?_⟩
      rw[same s2 N ht hh,ha];simp only;rw[iY];refine⟨TS,.inl ?_⟩;rw[Qc.PR (Zv d rfl) (fun row hr x hx=>⟨eI hK2 (cR row hr x hx).1,(cR row hr x hx).2⟩)];exact hψ
   grind
 ·refine⟨.kI [],none,(fun ob h=>by cases h),by rw[lG];exact hr.2,(fun x hx=>by simp at hx),(fun ob h=>by cases h),fun Ψ s2 N K2 Qc Zv hK2 ht hh hψ=>?_⟩
  exact oN Ψ s2 (km ht).2 ⟨hr.1,by rw[← lG];exact hψ⟩
theorem vh{h h':Nat→Option Ob}(hh:∀p,K p=false→h p=h' p):∀{xs ys:List V},(∀x∈xs,oC K x)→mB h xs ys→mB h' xs ys
 | [],[],_,_=>trivial
 | x::xs,y::ys,hx,ha=>by
  refine⟨?_,vh hh (fun z hz=>hx z (az6 _ hz)) ha.2⟩;have h1:=ha.1;unfold xj at h1
  split at h1
  ·have e:=hh _ (show K _=false from hx _ (az1 ..))
   rw[e]at h1;exact h1
  ·exact h1
  ·obtain⟨rfl,hp,F9⟩:=h1
   cases y<;>first | exact⟨rfl,hp,F9⟩ | (simp[V.pure]at hp;done)
 | [],_::_,_,ha=>ha.elim
 | _::_,[],_,ha=>ha.elim
theorem La{h h':Nat→Option Ob}(hh:∀p,K p=false→h p=h' p){x y:V}(hx:iD K x)(ha:jU h x y):jU h' x y:=by
 unfold jU at ha
 split at ha
 ·have e:=hh _ (show K _=false from hx)
  rw[e]at ha;exact ha
 ·exact ha
 ·exact ha
 ·exact ha
 ·exact ha
 ·exact ha
 ·have e:=hh _ (show K _=false from hx)
  rw[e]at ha;exact ha
 ·exact ha
 ·exact⟨ha.1,vh hh hx ha.2⟩
 ·obtain⟨rfl,hp⟩:=ha
  cases y<;>first | exact⟨rfl,hp⟩ | exact .inl rfl | (simp[V.pure]at hp;done)
theorem vo{h h':Nat→Option Ob}(hh:∀p,K p=false→h p=h' p):∀{xs ys:List V},(∀x∈xs,iD K x)→kG h xs ys→kG h' xs ys
 | [],[],_,_=>trivial
 | x::xs,y::ys,hx,ha=>⟨La hh (hx x (by simp)) ha.1,vo hh (fun z hz=>hx z (by simp[hz])) ha.2⟩
 | [],_::_,_,ha=>ha.elim
 | _::_,[],_,ha=>ha.elim
theorem ml{dst:Option Nat}{ob:Ob}(h:kC K ob):kC (minus K dst) ob:=fun row hr x hx=>⟨eI dJ (h row hr x hx).1,(h row hr x hx).2⟩
theorem ZT{s:St}{dst:Option Nat}{v:V}{obo:Option Ob}{i:Nat}(h:dst ≠ some i):(s.oS dst v obo).t i=s.t i:=by
 cases dst with
 | none=>cases obo<;>rfl
 | some d=>
  have:¬ i=d:=fun e=>h (by rw[e])
  cases obo<;>simp[St.oS,St.put,this]
theorem Qz{s:St}{dst:Option Nat}{v:V}{obo:Option Ob}{p:Nat}(h:dst ≠ some p):(s.oS dst v obo).h p=s.h p:=by
 cases dst with
 | none=>cases obo<;>rfl
 | some d=>
  have:¬ p=d:=fun e=>h (by rw[e])
  cases obo<;>simp[St.oS,St.put,this]
theorem uX{s:St}{di:Option Nat}{v:V}{obo:Option Ob}{dj:Option Nat}{u:V}(dU:∀d,di=some d→dj ≠ some d):(s.oS di v obo).put dj u=(s.put dj u).oS di v obo:=by
 cases di with
 | none=>cases dj<;>cases obo<;>rfl
 | some d=>
  cases dj with
  | none=>cases obo<;>rfl
  | some e=>
   have hde:¬ d=e:=fun h=>dU d rfl (by rw[h])
   have key:(fun i=>if i=e then u else(if i=d then v else s.t i))=fun i=>if i=d then v else(if i=e then u else s.t i):=by
    grind
   cases obo<;>simp only[St.oS,St.put]<;>rw[key]
theorem Ey{s:St}{di:Option Nat}{v:V}{obo:Option Ob}{q:Nat}{ob:Ob}(dU:obo.isSome→di ≠ some q):(s.oS di v obo).bQ q ob=(s.bQ q ob).oS di v obo:=by
 cases di with
 | none=>cases obo<;>rfl
 | some d=>
  cases obo with
  | none=>rfl
  | some ob'=>
   have hde:¬ d=q:=fun h=>dU rfl (by rw[h])
   simp only[St.oS,St.bQ]
   congr 1
   funext p
   grind[gd]
theorem ag1{s:St}{di:Option Nat}{v:V}{obo:Option Ob}{e:Nat}{ob:Ob}{u:V}(dU:∀d,di=some d→d ≠ e)(hv:iD (· == e) v)(ho:∀o,obo=some o→kC (· == e) o):
  (s.oS di v obo).new e ob u=(s.new e ob u).oS di v obo:=by
 cases di with
 | none=>cases obo<;>rfl
 | some d=>
  have hde:=dU d rfl;have key:(fun i=>if i=e then u else(if i=d then v else s.t i).kill (· == e))=fun i=>if i=d then v else(if i=e then u else(s.t i).kill (· == e)):=by
   funext i
   by_cases h1:i=e
   ·grind
   ·rw[azD h1,azD h1]
    by_cases h2:i=d
    ·rw[azE h2,azE h2];grind[e9]
    grind
  cases obo with
  | none=>simp only[St.oS,St.put,St.new];rw[key]
  | some o=>
   simp only[St.oS,St.new];rw[key]
   congr 1
   funext p
   simp only[eT];by_cases h1:p=e
   ·grind
   ·rw[azD h1,azD h1]
    by_cases h2:p=d
    ·rw[azE h2,azE h2,az7,dY (ho o rfl)]
    grind
theorem ZU{s:St}{di:Option Nat}{v:V}{obo:Option Ob}{dj:Option Nat}{rds:List RD}(dU:∀d e,di=some d→dj=some e→d ≠ e∧d<1000∧e<1000)(hv:∀e,dj=some e→iD (fun p=>p % 1000 == e) v)(ho:∀e o,dj=some e→obo=some o→kC (fun p=>p % 1000 == e) o):
  (s.oS di v obo).call dj rds=(s.call dj rds).oS di v obo:=by
 cases dj with
 | none=>cases di<;>cases obo<;>rfl
 | some e=>
  cases di with
  | none=>cases obo<;>rfl
  | some d=>
   obtain⟨hde,Ko,he1⟩:=dU d e rfl rfl;have hK:∀p,bc e rds.length p=true→(p % 1000 == e)=true:=by
    intro p hp;obtain⟨h1,_⟩:=dx hp;grind
   have hdK:bc e rds.length d=false:=by
    grind
   have TO:iD (bc e rds.length) v:=dI hK (hv e rfl);have key:(fun i=>if i=e then lh (cq e rds)else(if i=d then v else s.t i).kill (bc e rds.length))=fun i=>if i=d then v else(if i=e then lh (cq e rds)else(s.t i).kill (bc e rds.length)):=by
    funext i
    by_cases h1:i=e
    ·grind
    ·rw[azD h1,azD h1]
     by_cases h2:i=d
     ·rw[azE h2,azE h2];grind[e9]
     grind
   cases obo with
   | none=>simp only[St.oS,St.put,St.call];rw[key]
   | some o=>
    simp only[St.oS,St.call];rw[key]
    congr 1
    funext p
    simp only[ek];by_cases h1:bc e rds.length p=true
    ·grind
    ·rw[azD h1,azD h1]
     by_cases h2:p=d
     ·have dT:kC (bc e rds.length) o:=fun row hr x hx=>⟨eI hK (ho e o rfl rfl row hr x hx).1,(ho e o rfl rfl row hr x hx).2⟩
      rw[azE h2,azE h2,az7,dY dT]
     grind
def tgt:Op→Option Operand
 | .store _ x _=>some x
 | .call {callee:=.builtin .append,args,.. }=>args.toList[0]?
 | _=>none
theorem GI{o:Oper}{e:Operand→V}{h:Nat→Option Ob}{p:Prop}{q:Nat}{ob:Ob}(ha:gH P o e h=.H3 p q ob):(∃bA,h q=some bA)∧writes o.op=true∧(∃x,tgt o.op=some x∧∃n i j,e x=.ptr q n i j):=by
 obtain⟨dst,op,ty,pos,after,guard⟩:=o;have hk:bN op=.uP:=by
  cases hk:bN op with
  | uP=>rfl
  | plain=>grind[jH]
  | look=>grind[jH]
  | alloc=>grind[jI]
  | box=>grind[jI]
 unfold gH at ha;simp only at ha;cases op<;>(try (simp[bN]at hk;done))<;>dsimp only at ha<;>(try (cases ha;done))
 case store t x y=>
  split at ha<;>try (cases ha;done)
  unfold fh at ha
  split at ha<;>try (cases ha;done)
  rename_i o' n' i' j' hx
  split at ha<;>try (cases ha;done)
  rename_i bA ho
  split at ha<;>try (cases ha;done)
  simp only[AR.H3.injEq]at ha;obtain⟨_,rfl,_⟩:=ha;exact⟨⟨bA,ho⟩,rfl,x,rfl,_,_,_,hx⟩
 case makeSlice t l c=>
  unfold nu at ha
  grind
 case call c=>
  obtain⟨callee,args,argTypes⟩:=c;unfold fi at ha
  dsimp only at ha
  cases callee with
  | value f=>
   grind
  | invoke r m=>cases ha
  | builtin b=>
   cases b<;>(try (simp[bN]at hk;done))<;>dsimp only at ha<;>(try (cases ha;done))
   split at ha<;>try (cases ha;done)
   grind[dM]
theorem GJ{o:Oper}{e:Operand→V}{h:Nat→Option Ob}{p:Prop}{q:Nat}{ob:Ob}(ha:gH P o e h=.app p q ob):(∃bA,h q=some bA)∧writes o.op=true∧(∃x,tgt o.op=some x∧∃m,e x=.ref q m):=by
 obtain⟨dst,op,ty,pos,after,guard⟩:=o;have hk:bN op=.uP:=by
  cases hk:bN op with
  | uP=>rfl
  | plain=>grind[jH]
  | look=>grind[jH]
  | alloc=>grind[jI]
  | box=>grind[jI]
 unfold gH at ha;simp only at ha;cases op<;>(try (simp[bN]at hk;done))<;>dsimp only at ha<;>(try (cases ha;done))
 case store t x y=>
  split at ha<;>try (cases ha;done)
  unfold fh at ha
  grind
 case makeSlice t l c=>
  unfold nu at ha
  grind
 case call c=>
  obtain⟨callee,args,argTypes⟩:=c;unfold fi at ha
  dsimp only at ha
  cases callee with
  | value f=>
   grind
  | invoke r m=>cases ha
  | builtin b=>
   cases b<;>(try (simp[bN]at hk;done))<;>dsimp only at ha<;>(try (cases ha;done))
   split at ha<;>try (cases ha;done)
   rename_i x y t t' hl ht
   split at ha<;>try (cases ha;done)
   unfold dM at ha
   split at ha<;>try (cases ha;done)
   split at ha<;>try (cases ha;done)
   split at ha<;>try (cases ha;done)
   rename_i o2 m2 gp
   split at ha<;>try (cases ha;done)
   rename_i bA ho;simp only[AR.app.injEq]at ha;obtain⟨_,rfl,_⟩:=ha;refine⟨⟨bA,ho⟩,rfl,x,?_,m2,gp⟩;grind[tgt]
theorem NW{o:Oper}{e:Operand→V}{h:Nat→Option Ob}{g:FuncId}{args:List V}(ha:gH P o e h=.call g args)(he:∀x∈o.op.operands.toList,iD K (e x)):(∀x∈args,iD K x)∧writes o.op=false:=by
 obtain⟨dst,op,ty,pos,after,guard⟩:=o;have hk:bN op=.uP:=by
  cases hk:bN op with
  | uP=>rfl
  | plain=>grind[jH]
  | look=>grind[jH]
  | alloc=>grind[jI]
  | box=>grind[jI]
 unfold gH at ha;simp only at ha he;cases op<;>(try (simp[bN]at hk;done))<;>dsimp only at ha<;>(try (cases ha;done))
 case store t x y=>
  split at ha<;>try (cases ha;done)
  unfold fh at ha
  grind
 case makeSlice t l c=>
  unfold nu at ha
  grind
 case call c=>
  obtain⟨callee,as,argTypes⟩:=c;unfold fi at ha
  dsimp only at ha
  cases callee with
  | value f=>
   dsimp only at ha
   split at ha<;>try (cases ha;done)
   rename_i g' aw hf
   split at ha<;>try (cases ha;done)
   simp only[AR.call.injEq]at ha;obtain⟨_,rfl⟩:=ha;refine⟨fun x hx=>?_,rfl⟩;rcases aAp.1 hx with h1 | h1
   ·obtain⟨y,hy,rfl⟩:=az4.1 h1
    exact he y (by simp[Op.operands,Call.operands];exact .inr (by grind))
   ·have:=he f (by simp[Op.operands,Call.operands])
    rw[hf]at this;exact Bg (this x h1)
  | invoke r m=>cases ha
  | builtin b=>
   cases b<;>(try (simp[bN]at hk;done))<;>dsimp only at ha<;>(try (cases ha;done))
   split at ha<;>try (cases ha;done)
   grind[dM]
end
end Go.AL
namespace Go.AL
section
variable {P:Program} {n:Nat} {ops:Array Oper} {K:Nat→Bool}
theorem wo.put{s:St}(hs:wo K s)(d:Option Nat){v:V}(hv:iD K v):wo K (s.put d v):=by
 cases d with
 | none=>exact hs
 | some d=>
  refine⟨fun i=>?_,hs.h,hs.n⟩;rw[St.put];simp only
  split
  ·exact hv
  ·exact hs.t i
def hit(o:Oper)(s:St)(p:Nat):Bool:=match tgt o.op with
 | some x=>(s.ev x).names (· == p)
 | none=>false
def wQ(o:Oper):Bool:=match o.op with
 | .call {callee:=.value _,.. }=>true
 | _=>false
theorem Nd{P:Program}{o:Oper}{e:Operand→V}{h:Nat→Option Ob}(hc:wQ o=true):(∃g args,gH P o e h=.call g args)∨gH P o e h=.bad:=by
 grind[wQ,gH,fi]
theorem JV{d:Nat}(hd:d<1000){rds:List RD}(aO:∀rd∈rds,rd.ok=true){q:Nat}(h:(lh (cq d rds)).names (· == q)=true):q % 1000=d:=by
 match rds,aO,h with
 | [],_,h=>simp[cq,lh,V.names]at h
 | [rd],aO,h=>
  simp only[cq,lh]at h;cases rd with
  | v x=>
   have:=aO (.v x) (by simp);cases x<;>simp[RD.ok,V.pure,RD.val,V.names]at this h
  | o ty es rows=>
   simp only[RD.val,V.names,aAO]at h;rw[← h];exact aAJ hd
 | r1::r2::rds,_,h=>simp[cq,lh,V.names]at h
structure Aft (K:Nat→Bool) (oj:Oper) (s s2:St):Prop where
 ok:wo (minus K oj.dst) s2
 t:∀i,oj.dst ≠ some i→s2.t i=s.t i
 h:∀p,(oj.dst == some (p % 1000))=false→hit oj s p=false→s2.h p=s.h p
 d:wQ oj=true→∀d,oj.dst=some d→∀q,(s2.t d).names (· == q)=true→q % 1000=d
theorem aho{oj:Oper}{Φ:St→Prop}{s:St}{di:Option Nat}{v:V}{obo:Option Ob}(hs:wo K s)(hj:∀d,oj.dst=some d→(∀p,p % 1000=d→K p=true)∧d<1000)
  (hi:∀d,di=some d→K d=true∧d<1000) (dU:∀d,di=some d→oj.dst ≠ some d) (agn:∀d,di=some d→d∉oj.looksAt ops)
  (hv:iD (minus K di) v) (Dt:∀ob,obo=some ob→kC K ob) (Da:∀ob,obo=some ob→∃d,di=some d) (h:zc P n oj Φ (s.oS di v obo)) :
  zc P n oj (fun s2=>Aft K oj s s2∧Φ (s2.oS di v obo)) s:=by
 obtain⟨hd,hm⟩:=h;have Qb:=km (ops:=ops) (o:=oj) (s:=s) (s':=s.oS di v obo) (fun i j5=>ZT (fun e=>agn i e j5));have s6:∀x∈oj.op.operands.toList,iD K (s.ev x):=fun x _=>Bi hs x
 have aun:gH P oj (s.oS di v obo).ev (s.oS di v obo).h=gH P oj s.ev s.h:=by
  refine(ER (K:=fun p=>di == some p) oj (fun x hx=>(Qb.1 x hx).symm) (fun p hp=>(Qz (by grind)).symm) (fun x hx=>?_)).symm;grind[e9,dI]
 have aO:=aaC (P:=P) (K:=K) (e:=s.ev) (h:=s.h) oj s6 hs.h;rw[aun]at hm;refine⟨hd,?_⟩;have hvj:∀e,oj.dst=some e→iD (fun p=>p % 1000 == e) v:=fun e he=>dI (fun p hp=>by
  have hp':p % 1000=e:=by grind
  simp only[minus,azF,aAi];grind) hv
 have VY:∀e o,oj.dst=some e→obo=some o→kC (fun p=>p % 1000 == e) o:=fun e o he ho row hr x hx=>⟨eI (fun p hp=>(hj e he).1 p (by grind)) (Dt o ho row hr x hx).1,(Dt o ho row hr x hx).2⟩
 have aip:∀q bA,s.h q=some bA→obo.isSome→di ≠ some q:=by
  intro q bA hq dS e;have h1:=hs.n q (hi q e).1;grind
 have hKq:∀q bA,s.h q=some bA→K q=false:=fun q bA hq=>by
  cases hk:K q with
  | false=>rfl
  | true=>rw[hs.n q hk]at hq;cases hq
 have V0:wo (minus K oj.dst) s:=hs.mono dJ;have ahL:∀q ob bA,s.h q=some bA→kC K ob→wo (minus K oj.dst) (s.bQ q ob):=by
  intro q ob bA hq cR;refine⟨V0.t,fun p ob' hp=>?_,fun p hp=>?_⟩
  ·simp only[St.bQ,gd]at hp
   split at hp
   ·grind[ml]
   ·exact V0.h p ob' hp
  ·simp only[St.bQ,gd]
   rw[azD,hs.n p (dJ p hp)];grind[dJ]
 have ahM:∀(q:Nat) (ob:Ob) {v':V} (p':Nat),¬ p'=q→((s.bQ q ob).put oj.dst v').h p'=s.h p':=by
  intro q ob v' p' h;cases oj.dst<;>simp[St.put,St.bQ,gd,h]
 have hnc:∀r,gH P oj s.ev s.h=r→(∀g args,r ≠ .call g args)→r ≠ .bad→wQ oj=true→False:=fun r hr h1 h2 hc=>by
  grind[Nd]
 generalize ha:gH P oj s.ev s.h=r at hm aO hnc ⊢;cases r with
 | bad=>grind
 | val p u=>
  refine⟨hm.1,⟨(V0.put _ (dI dJ (aO hm.1))),fun i j5=>?_,fun p _ _=>by cases oj.dst<;>rfl,fun hc=>(hnc _ rfl (fun _ _ h=>by cases h) (fun h=>by cases h) hc).elim⟩,?_⟩
  ·cases iY:oj.dst with
   | none=>rfl
   | some d=>
    grind[St.put]
  grind[uX]
 | new p ob r=>
  cases iY:oj.dst with
  | none=>grind
  | some e=>
   simp only[iY]at hm ⊢;obtain⟨hje,he1⟩:=hj e iY;have ZD:K e=true:=hje e (aAJ he1);have cR:=aO hm.1;rcases hm with⟨TS,hm | ⟨hr1,himp,hm⟩⟩
   rotate_left
   ·refine⟨TS,.inr ⟨hr1,himp,?_⟩⟩
    have hKs:∀p,(p == e)=true→K p=true:=fun p hp=>by have:p=e:=(by grind);rw[this];exact ZD
    have hs0:wo (· == e) s:=hs.mono hKs;have bI:wo (· == e) (s.oS di v obo):=by
     have hve:iD (· == e) v:=dI (fun p hp=>by have:p=e:=(by grind);rw[this];simp[aAJ he1]) (hvj e iY);refine⟨fun i=>?_,fun p o hp=>?_,fun p hp=>?_⟩
     ·by_cases hdi:di=some i
      ·subst hdi
       cases obo<;>simp only[St.oS,St.put,aAo]<;>exact hve
      ·rw[ZT hdi];exact hs0.t i
     ·by_cases hdp:di=some p
      ·subst hdp
       cases obo with
       | none=>grind[St.oS,St.put]
       | some o2=>
        simp only[St.oS,aAo,azN]at hp;subst hp;exact fun row hr x hx=>⟨eI hKs (Dt o2 rfl row hr x hx).1,(Dt o2 rfl row hr x hx).2⟩
      ·exact hs0.h p o (by grind[Qz])
     ·have:p=e:=by grind
      subst this;rw[Qz (fun h=>dU p h iY)];exact hs.n p ZD
    rw[bI.uy (by simp)]at hm;rw[hs.uy ZD,← iY];refine⟨⟨V0.put _ (oB (cR.sl himp)),fun i j5=>?_,fun p _ _=>by rw[iY];rfl,fun hc=>(hnc _ rfl (fun _ _ h=>by cases h) (fun h=>by cases h) hc).elim⟩,?_⟩
    all_goals grind[St.put,uX]
   have nz:wo (· == e) s:=hs.mono (fun p hp=>by have:p=e:=(by grind);rw[this];exact ZD);have hme:minus K (some e) e=false:=by simp[minus,aAJ he1]
   refine⟨TS,.inl ⟨⟨⟨fun i=>?_,fun q ob' hq=>?_,fun q hq=>?_⟩,fun i j5=>?_,fun q hq _=>?_,fun hc=>(hnc _ rfl (fun _ _ h=>by cases h) (fun h=>by cases h) hc).elim⟩,?_⟩⟩
   ·simp only[St.new]
    split
    ·cases r<;>(rw[iY];exact hme)
    ·rw[e9 (nz.t i),iY];exact dI dJ (hs.t i)
   ·simp only[St.new,eT]at hq
    rw[iY]
    split at hq
    ·cases hq
     rw[dY (fun row hr x hx=>⟨eI (fun p hp=>by have:p=e:=(by grind);rw[this];exact ZD) (cR row hr x hx).1,(cR row hr x hx).2⟩)];grind[ml]
    ·cases hh:s.h q with
     | none=>grind
     | some bE=>
      simp[hh]at hq;subst hq;rw[dY (nz.h q bE hh)];exact ml (hs.h q bE hh)
   ·rw[iY]at hq
    simp only[St.new,eT];have:¬ q=e:=fun h=>by rw[h,hme]at hq;cases hq
    rw[azD this,hs.n q (dJ q hq)];rfl
   ·have:¬ i=e:=fun h=>j5 (by rw[iY,h])
    simp only[St.new,azD this];exact e9 (nz.t i)
   ·rw[iY]at hq
    have:¬ q=e:=fun h=>by rw[h,aAJ he1]at hq;simp at hq
    simp only[St.new,eT,azD this];cases hh:s.h q with
    | none=>rfl
    | some bE=>simp only[az7];rw[dY (nz.h q bE hh)]
   ·have hvk:iD (· == e) v:=dI (fun p hp=>by have:p=e:=(by grind);rw[this];simp[aAJ he1]) (hvj e iY)
    rw[← ag1 (fun d V2=>fun h=>dU d V2 (by rw[iY,h])) hvk (fun o ho row hr x hx=>⟨eI (fun p hp=>by have:p=e:=(by grind);rw[this];exact ZD) (Dt o ho row hr x hx).1,(Dt o ho row hr x hx).2⟩)];exact hm
 | H3 p q ob=>
  obtain⟨⟨bA,hq⟩,hw,x,hx,n',i',j',gp⟩:=GI ha;have al2:∀(q0:Nat) p',p'=q→hit oj s p'=false→False:=fun _ p' e hh=>by
   grind[hit,V.names]
  refine⟨hm.1,⟨(ahL q ob bA hq (aO hm.1)).put _ trivial,fun i j5=>?_,fun p' _ hh=>?_,fun hc=>(hnc _ rfl (fun _ _ h=>by cases h) (fun h=>by cases h) hc).elim⟩,?_⟩
  ·cases iY:oj.dst with
   | none=>rfl
   | some d=>
    have:¬ i=d:=fun e=>j5 (by rw[iY,e])
    simp[St.put,St.bQ,this]
  ·exact ahM q ob p' (fun e=>al2 q p' e hh)
  grind[uX,Ey]
 | app p q ob=>
  obtain⟨⟨bA,hq⟩,hw,x,hx,m',gp⟩:=GJ ha;have al2:∀(q0:Nat) p',p'=q→hit oj s p'=false→False:=fun _ p' e hh=>by
   grind[hit,V.names]
  refine⟨hm.1,⟨(ahL q ob bA hq (aO hm.1)).put _ ?_,fun i j5=>?_,fun p' _ hh=>?_,fun hc=>(hnc _ rfl (fun _ _ h=>by cases h) (fun h=>by cases h) hc).elim⟩,?_⟩
  ·show minus K oj.dst q=false
   grind[minus,dJ]
  ·cases iY:oj.dst with
   | none=>rfl
   | some d=>
    have:¬ i=d:=fun e=>j5 (by rw[iY,e])
    simp[St.put,St.bQ,this]
  ·exact ahM q ob p' (fun e=>al2 q p' e hh)
  grind[uX,Ey]
 | call g args=>
  obtain⟨dk,Pd,hc,cZ,aqz⟩:=hm;obtain⟨amh,hw⟩:=NW (K:=K) ha s6;have amg:kG s.h args dk:=vo (K:=fun p=>di == some p) (fun p hp=>Qz (by grind)) (fun x hx=>dI (fun p hp=>(hi p (by grind)).1) (amh x hx)) cZ;refine⟨dk,Pd,hc,amg,fun rds xP=>?_⟩;obtain⟨Zu,hφ⟩:=aqz rds xP;refine⟨Zu,?_,?_⟩
  ·cases iY:oj.dst with
   | none=>exact⟨by rw[iY];exact hs.mono dJ,fun i _=>rfl,fun p _ _=>rfl,fun _ d hd=>by rw[iY]at hd;cases hd⟩
   | some e=>
    obtain⟨hje,he1⟩:=hj e iY;have hKK:∀p,bc e rds.length p=true→p % 1000=e:=by
     intro p hp;obtain⟨h1,_⟩:=dx hp;grind
    have nz:wo (bc e rds.length) s:=hs.mono (fun p hp=>hje p (hKK p hp));have hmk:∀p,bc e rds.length p=true→minus K (some e) p=false:=fun p hp=>by simp[minus,hKK p hp]
    have apQ:∀(k:Nat) (rd:RD),rds[k]? = some rd→C7 (minus K (some e)) (rd.val (e+1000*k)):=by
     intro k rd hk;have Ko:=Zu rd (azO hk);have hp1:=hc.1 rds xP rd (azO hk);cases rd with
     | v x=>
      have h2:iD (minus K (some e)) x:=dI (fun _ _=>rfl) Ko;cases x<;>first | exact h2 | (simp[RD.ok,V.pure]at hp1;done)
     | o ty es rows=>exact hmk _ (jS (azR.1 hk).1).1
    refine⟨⟨fun i=>?_,fun q ob' hq=>?_,fun q hq=>?_⟩,fun i j5=>?_,fun q hq _=>?_,fun _ d hd q hq=>by
     rw[iY]at hd;cases hd;simp only[St.call,azE]at hq;exact JV he1 (hc.1 rds xP) hq⟩
    ·rw[iY]
     simp only[St.call]
     split
     ·have fQ:∀x∈cq e rds,C7 (minus K (some e)) x:=by
       intro x hx;obtain⟨k,hk⟩:=aAr hx;grind[mh]
      generalize cq e rds=xs at fQ
      match xs with
      | []=>exact fun x hx=>by simp at hx
      | [x]=>exact Bh (fQ x (by simp))
      | x::y::xs=>exact fun z hz=>fQ z hz
     ·rw[e9 (nz.t i)];exact dI dJ (hs.t i)
    ·rw[iY]
     simp only[St.call,ek]at hq
     split at hq
     ·unfold gC at hq
      cases hr:rds[(q-e) / 1000]? with
      | none=>grind
      | some rd=>
       cases rd with
       | v x=>grind[RD.ob]
       | o ty es rows=>
        simp[hr,RD.ob]at hq;subst hq;have Ko:=Zu _ (azO hr);exact fun row aK x hx=>⟨fE (Ko row aK x hx),fun _=>Ko row aK x hx⟩
     ·cases hh:s.h q with
      | none=>grind
      | some bE=>
       simp[hh]at hq;subst hq;rw[dY (nz.h q bE hh)];exact ml (hs.h q bE hh)
    ·rw[iY]at hq
     simp only[St.call,ek];have:¬ bc e rds.length q=true:=fun h=>by rw[hmk q h]at hq;cases hq
     rw[azD this,hs.n q (dJ q hq)];rfl
    ·have:¬ i=e:=fun h=>j5 (by rw[iY,h])
     simp only[St.call,azD this];exact e9 (nz.t i)
    ·rw[iY]at hq
     have:¬ bc e rds.length q=true:=fun h=>by rw[hKK q h]at hq;simp at hq
     simp only[St.call,ek,azD this];cases hh:s.h q with
     | none=>rfl
     | some bE=>simp only[az7];rw[dY (nz.h q bE hh)]
  ·rw[← ZU (fun d e V2 he=>⟨fun h=>dU d V2 (by rw[he,h]),(hi d V2).2,(hj e he).2⟩) hvj VY]
   exact hφ
end
end Go.AL
