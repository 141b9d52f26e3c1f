/- By an AI agent. -/
import Derived.Test.YtfggefeflojnkaaGreatAlRun
namespace Go.AL
theorem ff{K:Nat→Bool}{o n i j:Nat}(h:(V.ptr o n i j).kill K=.ptr o n i j):K o=false:=by
 simp only[V.kill,V.cu,V.bI]at h;by_cases hk:K o=true
 ·rw[aCr hk]at h;cases h
 ·simpa using hk
theorem fZ{K:Nat→Bool}{o n:Nat}(h:(V.ref o n).kill K=.ref o n):K o=false:=by
 simp only[V.kill,V.cu,V.bI]at h;by_cases hk:K o=true
 ·rw[aCr hk]at h;cases h
 ·simpa using hk
section
variable {P:Program} {K:Nat→Bool} {e e':Operand→V} {h h':Nat→Option Ob}
theorem Lu(hh:∀p,K p=false→h p=h' p){t:TypeId}{x:V}(hx:x.kill K=x):ic P h t x=ic P h' t x:=by
 cases x<;>simp only[ic]
 rw[hh _ (ff hx)]
theorem Gq(hh:∀p,K p=false→h p=h' p){t:TypeId}{x y:V}(hx:x.kill K=x)(hy:y.kill K=y):fg P h t x y=fg P h' t x y:=by
 have hs:y.fB h=y.fB h':=by
  cases y<;>simp only[V.fB]
  ·rw[hh _ (fZ hy)]
  ·rw[hh _ (ff hy)]
 cases x<;>simp only[fg]
 rw[hh _ (ff hx),hs]
theorem ta(hh:∀p,K p=false→h p=h' p){y:V}(hy:y.kill K=y):y.fB h=y.fB h':=by
 cases y<;>simp only[V.fB]
 ·rw[hh _ (fZ hy)]
 ·rw[hh _ (ff hy)]
theorem Nw(hh:∀p,K p=false→h p=h' p){y:V}(hy:y.kill K=y):y.live h=y.live h':=by
 cases y<;>simp only[V.live]
 rw[hh _ (fZ hy)]
theorem E7(hh:∀p,K p=false→h p=h' p){y:V}(hy:y.kill K=y):rowsOf h y=rowsOf h' y:=by
 cases y with
 | ref o n=>simp only[rowsOf];rw[hh _ (fZ hy)]
 | raw v=>
  cases v<;>try rfl
  rename_i a n c;cases n<;>rfl
 | _=>rfl
theorem C9(hh:∀p,K p=false→h p=h' p){t:TypeId}{x y:V}(hx:x.kill K=x)(hy:y.kill K=y):dQ P h t x y=dQ P h' t x y:=by
 unfold dQ;rw[E7 hh hy];cases x<;>dsimp only<;>try rfl
 rw[hh _ (fZ hx)]
theorem LB(c:Call)(he:∀x∈c.operands.toList,e x=e' x)(hh:∀p,K p=false→h p=h' p)(hk:∀x∈c.operands.toList,(e x).kill K=e x):fh P e h c=fh P e' h' c:=by
 obtain⟨callee,args,argTypes⟩:=c;have dd:∀x∈args.toList,e x=e' x:=fun x hx=>he x (by simp[Call.operands];exact .inr (by simpa using hx))
 have NH:∀x∈args.toList,(e x).kill K=e x:=fun x hx=>hk x (by simp[Call.operands];exact .inr (by simpa using hx))
 have asX:args.toList.map e=args.toList.map e':=aDu dd;unfold fh;simp only;cases callee with
 | value f=>
  have:e f=e' f:=he f (by simp[Call.operands]);simp only[this,asX]
 | invoke r m=>rfl
 | builtin b=>
  cases b<;>simp only[asX]
  case append=>
   split
   ·rename_i x y t t' hl ht
    split
    ·rw[← dd x (by simp[hl]),← dd y (by simp[hl])]
     exact C9 hh (NH x (by simp[hl])) (NH y (by simp[hl]))
    ·rfl
   ·rfl
  case len=>
   split
   ·rename_i x hl
    have hx:=dd x (by simp[hl]);have hkx:=NH x (by simp[hl]);rw[← hx]
    split
    ·rfl
    ·rw[Nw hh hkx]
   ·rfl
theorem Er(o:Oper)(he:∀x∈o.op.operands.toList,e x=e' x)(hh:∀p,K p=false→h p=h' p)(hk:∀x∈o.op.operands.toList,(e x).kill K=e x):gF P o e h=gF P o e' h':=by
 obtain⟨dst,op,ty,pos,after,guard⟩:=o;unfold gF;simp only at he hk ⊢;cases op<;>simp only[Op.operands]at he hk<;>(try dsimp only)<;>try rfl
 case move x=>rw[he x (by simp)]
 case assign x=>rw[he x (by simp)]
 case pick c a b=>rw[he c (by simp),he a (by simp),he b (by simp)]
 case box t x=>rw[← he x (by simp),ta hh (hk x (by simp))]
 case build t parts=>
  have hp:(parts.toList.map fun q=>(q.1,e q.2))=(parts.toList.map fun q=>(q.1,e' q.2)):=aDu fun q hq=>by
   rw[he q.2 (by simp;exact⟨q.1,by simpa using hq⟩)]
  rw[← hp];unfold iD
  split<;>try rfl
  split<;>try rfl
  split<;>try rfl
  have hs:(∀q∈(parts.toList.map fun q=>(q.1,e q.2)),q.2.fB h)=(∀q∈(parts.toList.map fun q=>(q.1,e q.2)),q.2.fB h'):=by
   apply propext;refine forall_congr' fun q=>forall_congr' fun hq=>?_
   obtain⟨r,hr,rfl⟩:=aCN.1 hq;rw[ta hh (hk r.2 (by simp;exact⟨r.1,by simpa using hr⟩))]
  rw[hs]
 case buildSlice t len parts=>
  have hp:(parts.toList.map fun q=>(q.1,e q.2))=(parts.toList.map fun q=>(q.1,e' q.2)):=aDu fun q hq=>by
   rw[he q.2 (by simp;exact⟨q.1,by simpa using hq⟩)]
  rw[← hp];unfold cY
  split<;>try rfl
  split<;>try rfl
  have hs:(∀q∈(parts.toList.map fun q=>(q.1,e q.2)),q.2.fB h∧q.2.cells.length=aB P ‹_›)=(∀q∈(parts.toList.map fun q=>(q.1,e q.2)),q.2.fB h'∧q.2.cells.length=aB P ‹_›):=by
   apply propext;refine forall_congr' fun q=>forall_congr' fun hq=>?_
   obtain⟨r,hr,rfl⟩:=aCN.1 hq;rw[ta hh (hk r.2 (by simp;exact⟨r.1,by simpa using hr⟩))]
  rw[hs]
 case load t x=>
  rw[← he x (by simp),Lu hh (hk x (by simp))]
 case store t x y=>
  rw[← he x (by simp),← he y (by simp),Gq hh (hk x (by simp)) (hk y (by simp))]
 case binOp op t x y yt=>rw[he x (by simp),he y (by simp)]
 case unOp op t x=>cases op<;>simp only[]<;>rw[he x (by simp)]
 case convert s d x=>rw[he x (by simp)]
 case slice t x lo hi mx=>
  cases mx<;>simp only[]
  rw[he x (by simp)];have h1:lo.map e=lo.map e':=by cases lo with | none=>rfl | some z=>simp;exact he z (by simp)
  have h2:hi.map e=hi.map e':=by cases hi with | none=>rfl | some z=>simp;exact he z (by simp)
  rw[h1,h2]
 case fieldAddr t x f=>
  rw[← he x (by simp)];have hx:=hk x (by simp);generalize e x=v at hx;cases v<;>simp only[df]
  rw[hh _ (ff hx)]
 case field t x f=>rw[he x (by simp)]
 case indexAddr t x i=>
  rw[← he x (by simp),← he i (by simp)];have hx:=hk x (by simp);generalize e x=v at hx;cases v<;>simp only[dL,eo]
  ·rw[hh _ (fZ hx)]
  ·rename_i o n i0 j0
   have hho:=hh _ (ff hx);rcases i0 with _ | i0<;>rcases j0 with _ | j0<;>simp only[hho]
 case extract x i=>rw[he x (by simp)]
 case makeFunc fn first bZ=>
  cases fn<;>simp only[]
  have hc:bZ.toList.map e=bZ.toList.map e':=aDu fun x hx=>he x (by simp;exact .inr (by simpa using hx))
  rw[hc]
 case nilCheck x=>
  rw[← he x (by simp)];have hx:=hk x (by simp);generalize e x=v at hx;cases v<;>simp only[]
  rw[hh _ (ff hx)]
 case call c=>exact LB c he hh hk
 case makeSlice t l c=>rw[he l (by simp),he c (by simp)]
end
inductive bN:V→Prop
 | int (k:IntKind) (n:Int):bN (.int k n)
 | bool (b:Bool):bN (.bool b)
 | str (s:ByteArray):bN (.str s)
 | nil:bN .nil
 | raw (v:Value):bN (.raw v)
 | sl (rows:List (List V)) (h:∀row∈rows,∀x∈row,bN x):bN (.sl rows)
theorem bN.rows{rows:List (List V)}(h:bN (.sl rows)):∀row∈rows,∀x∈row,bN x:=by cases h;assumption
theorem dS{w:World}{A:Nat→Prop}{x:V}{v:Value}(h:bh w A x v):bN x:=by
 induction h with
 | int k n=>exact .int k n
 | bool b=>exact .bool b
 | str s=>exact .str s
 | nil=>exact .nil
 | slnil _=>exact .sl [] (fun r hr=>by simp at hr)
 | raw v h1=>exact .raw v
 | sl rows b off cap es f jy hb bQ hc hr ih=>
  refine .sl rows fun row aO x hx=>?_
  obtain⟨i,hi⟩:=aDf aO;obtain⟨j,hj⟩:=aDf hx;exact ih i row hi j x hj
def oS(K:Nat→Bool):V→Prop
 | .rd rows=>∀row∈rows,∀x∈row,bN x
 | .cp row _=>∀x∈row,bN x
 | .ref o _=>K o=false
 | .ptr o _ _ _=>K o=false
 | .dead=>True
 | x=>bN x
def CD(K:Nat→Bool):V→Prop
 | .agg cs=>∀x∈cs,bN x
 | .dP cs=>∀x∈cs,oS K x
 | x=>oS K x
def ir(K:Nat→Bool):V→Prop
 | .kQ vs=>∀x∈vs,CD K x
 | .fn _ cs=>∀x∈cs,oS K x
 | x=>CD K x
def kL(K:Nat→Bool)(ob:Ob):Prop:=∀row∈ob.rows,∀x∈row,oS K x∧(ob.imp=false→bN x)
structure wI (K:Nat→Bool) (s:St):Prop where
 t:∀i,ir K (s.t i)
 h:∀o ob,s.h o=some ob→kL K ob
 n:∀o,K o=true→s.h o=none
theorem eh{K:Nat→Bool}{x:V}(h:bN x):oS K x:=by cases h<;>first | exact .int _ _ | exact .bool _ | exact .str _ | exact .nil | exact .raw _ | exact .sl _ ‹_›
theorem oQ{K:Nat→Bool}{x:V}(h:bN x):ir K x:=by cases h<;>first | exact .int _ _ | exact .bool _ | exact .str _ | exact .nil | exact .raw _ | exact .sl _ ‹_›
theorem AN{K:Nat→Bool}{x:V}(h:oS K x):ir K x:=by
 cases x<;>first | exact h | (cases h;done)
theorem AO{K:Nat→Bool}{x:V}(h:CD K x):ir K x:=by
 cases x<;>first | exact h | (cases h;done)
theorem nK{K K':Nat→Bool}(hK:∀p,K' p=true→K p=true){o:Nat}(ho:K o=false):K' o=false:=by
 cases hk:K' o with
 | false=>rfl
 | true=>rw[hK o hk]at ho;cases ho
theorem eM{K K':Nat→Bool}(hK:∀p,K' p=true→K p=true){x:V}(h:oS K x):oS K' x:=by
 have f:∀o,K o=false→K' o=false:=fun o ho=>by
  cases hk:K' o with
  | false=>rfl
  | true=>rw[hK o hk]at ho;cases ho
 cases x<;>first | exact h | exact f _ h
theorem ZW{K K':Nat→Bool}(hK:∀p,K' p=true→K p=true){x:V}(h:CD K x):CD K' x:=by
 cases x<;>first | exact h | exact eM hK h | exact fun x hx=>eM hK (h x hx) | exact nK hK h
theorem dM{K K':Nat→Bool}(hK:∀p,K' p=true→K p=true){x:V}(h:ir K x):ir K' x:=by
 cases x<;>first | exact h | exact fun x hx=>ZW hK (h x hx) | exact fun x hx=>eM hK (h x hx) | exact nK hK h
theorem wI.mono{K K':Nat→Bool}(hK:∀p,K' p=true→K p=true){s:St}(h:wI K s):wI K' s:=
 ⟨fun i=>dM hK (h.t i),fun o ob ho row hr x hx=>⟨eM hK (h.h o ob ho row hr x hx).1,(h.h o ob ho row hr x hx).2⟩,fun o ho=>h.n o (hK o ho)⟩
theorem wY{K:Nat→Bool}{x:V}(h:oS K x):x.bI K=x:=by
 cases x<;>try rfl
 ·have h':K _=false:=h
  simp[V.bI,h']
 ·have h':K _=false:=h
  simp[V.bI,h']
theorem ZX{K:Nat→Bool}{x:V}(h:CD K x):x.cu K=x:=by
 cases x with
 | dP cs=>
  simp only[V.cu]
  congr 1
  exact(aDu (fun x hx=>wY (h x hx))).trans (aDP _)
 | ref o n=>have h':K _=false:=h;simp[V.cu,V.bI,h']
 | ptr o n i j=>have h':K _=false:=h;simp[V.cu,V.bI,h']
 | _=>rfl
theorem fb{K:Nat→Bool}{x:V}(h:ir K x):x.kill K=x:=by
 cases x with
 | kQ vs=>
  simp only[V.kill]
  congr 1
  exact(aDu (fun x hx=>ZX (h x hx))).trans (aDP _)
 | fn f cs=>
  simp only[V.kill];have:cs.any (V.names K)=false:=by
   rw[aEq];intro x hx;have h':=h x hx;cases x<;>simp only[V.names]<;>first | (intro e;cases e;done) | (have h2:K _=false:=h';simp[h2])
  simp[this]
 | dP cs=>
  simp only[V.kill,V.cu]
  congr 1
  exact(aDu (fun x hx=>wY (h x hx))).trans (aDP _)
 | ref o n=>have h':K _=false:=h;simp[V.kill,V.cu,V.bI,h']
 | ptr o n i j=>have h':K _=false:=h;simp[V.kill,V.cu,V.bI,h']
 | _=>rfl
theorem ef{K:Nat→Bool}{ob:Ob}(h:kL K ob):ob.kill K=ob:=by
 unfold Ob.kill
 split
 ·have:ob.rows.map (·.map (V.bI K))=ob.rows:=by
   refine(aDu (fun r hr=>?_)).trans (aDP _);exact(aDu (fun x hx=>wY (h r hr x hx).1)).trans (aDP _)
  rw[this]
 ·rfl
theorem fc{E:Env}{K:Nat→Bool}{x:V}{v:Value}(h:bB E x v):oS K (x.bI K):=by
 have sl:∀(X:Nat→Prop) (rows:List (List V)),gC E.w E.A X rows v→∀row∈rows,∀x∈row,bN x:=by
  intro X rows hs row aO x hx;rcases hs with⟨_,rfl⟩ | ⟨b,off,cap,es,f,hv,jy,hb,bQ,hc,hr⟩
  ·simp at aO
  ·obtain⟨i,hi⟩:=aDf aO
   obtain⟨j,hj⟩:=aDf hx;exact dS (hr i row hi j x hj)
 cases x with
 | rd rows=>exact sl _ _ h
 | ref o n=>
  by_cases hk:K o=true
  ·simp[V.bI,hk,oS]
  ·simp[V.bI,hk,oS]
 | ptr o n i j=>
  by_cases hk:K o=true
  ·simp[V.bI,hk,oS]
  ·simp[V.bI,hk,oS]
 | cp row j=>
  obtain⟨b,off,f,_,_,_,_,hr⟩:=h;intro x hx;obtain⟨j,hj⟩:=aDf hx;exact dS (hr j x hj)
 | dead=>trivial
 | int k n=>exact .int k n
 | bool b=>exact .bool b
 | str s=>exact .str s
 | nil=>exact .nil
 | raw v=>exact .raw v
 | sl rows=>exact dS h
 | agg cs=>cases h
 | dP cs=>cases h
 | kQ cs=>cases h
 | fn f cs=>cases h
theorem tj{E:Env}{K:Nat→Bool}{x:V}{v:Value}(h:cH E x v):CD K (x.cu K):=by
 cases x with
 | agg cs=>
  obtain⟨vs,_,_,hc⟩:=h;intro x hx;obtain⟨j,hj⟩:=aDf hx;obtain⟨u,_,h2⟩:=hc j x hj;exact dS h2
 | dP cs=>
  obtain⟨vs,_,_,hc⟩:=h;intro x hx;obtain⟨y,hy,rfl⟩:=aCN.1 hx;obtain⟨j,hj⟩:=aDf hy;obtain⟨u,_,_,h2⟩:=hc j y hj;exact fc h2
 | ref o n=>
  have:=fc (K:=K) (x:=.ref o n) h;simp only[V.cu,V.bI]at this ⊢;by_cases hk:K o=true
  ·simp[hk,CD,oS]
  ·simp[hk,CD,oS]
 | ptr o n i j=>
  by_cases hk:K o=true
  ·simp[V.cu,V.bI,hk,CD,oS]
  ·simp[V.cu,V.bI,hk,CD,oS]
 | rd rows=>exact fc (K:=K) (x:=.rd rows) h
 | cp row j=>exact fc (K:=K) (x:=.cp row j) h
 | dead=>trivial
 | int k n=>exact .int k n
 | bool b=>exact .bool b
 | str s=>exact .str s
 | nil=>exact .nil
 | raw v=>exact .raw v
 | sl rows=>exact dS h
 | kQ cs=>cases h
 | fn f cs=>cases h
theorem Nn{E:Env}{K:Nat→Bool}{x:V}{v:Value}(h:Rel E x v):ir K (x.kill K):=by
 cases x with
 | kQ cs=>
  obtain⟨vs,_,_,hc⟩:=h;intro x hx;obtain⟨y,hy,rfl⟩:=aCN.1 hx;obtain⟨j,hj⟩:=aDf hy;obtain⟨u,_,h2⟩:=hc j y hj;exact tj h2
 | fn f cs=>
  obtain⟨vs,_,_,hc⟩:=h;simp only[V.kill]
  split
  ·trivial
  ·rename_i NP
   intro x hx;obtain⟨j,hj⟩:=aDf hx;obtain⟨u,_,h2⟩:=hc j x hj;have h3:=fc (K:=K) h2;simp only[aEf,not_exists,not_and]at NP;have h5:=NP x hx;cases x<;>simp only[V.names,V.bI]at h3 h5<;>first | exact h3 | (simp[h5]at h3;exact h3) | (simpa [oS]using h5)
 | agg cs=>exact tj (K:=K) (x:=.agg cs) h
 | dP cs=>exact tj (K:=K) (x:=.dP cs) h
 | ref o n=>
  by_cases hk:K o=true
  ·simp[V.kill,V.cu,V.bI,hk,ir,CD,oS]
  ·simp[V.kill,V.cu,V.bI,hk,ir,CD,oS]
 | ptr o n i j=>
  by_cases hk:K o=true
  ·simp[V.kill,V.cu,V.bI,hk,ir,CD,oS]
  ·simp[V.kill,V.cu,V.bI,hk,ir,CD,oS]
 | rd rows=>exact fc (K:=K) (x:=.rd rows) h
 | cp row j=>exact fc (K:=K) (x:=.cp row j) h
 | dead=>trivial
 | int k n=>exact .int k n
 | bool b=>exact .bool b
 | str s=>exact .str s
 | nil=>exact .nil
 | raw v=>exact .raw v
 | sl rows=>exact dS h
end Go.AL
namespace Go.AL
def okR(K:Nat→Bool):AR→Prop
 | .val p v=>p→ir K v
 | .new p ob _=>p→kL K ob
 | .H7 p _ ob=>p→kL K ob
 | .app p _ ob=>p→kL K ob
 | _=>True
section
variable {P:Program} {K:Nat→Bool} {e:Operand→V} {h:Nat→Option Ob}
theorem wX{x:V}{h:Nat→Option Ob}(hx:ir K x)(hs:x.fB h):∀y∈x.cells,oS K y∧(x.pure=true→bN y):=by
 cases x with
 | agg cs=>exact fun y hy=>⟨eh (hx y hy),fun _=>hx y hy⟩
 | dP cs=>exact fun y hy=>⟨hx y hy,fun h=>by cases h⟩
 | kQ vs=>exact hs.elim
 | fn f cs=>exact hs.elim
 | cp row j=>exact hs.elim
 | dead=>exact hs.elim
 | rd rows=>intro y hy;simp[V.cells]at hy;subst hy;exact⟨hx,fun h=>by cases h⟩
 | ref o n=>intro y hy;simp[V.cells]at hy;subst hy;exact⟨hx,fun h=>by cases h⟩
 | ptr o n i j=>intro y hy;simp[V.cells]at hy;subst hy;exact⟨hx,fun h=>by cases h⟩
 | int k n=>intro y hy;simp[V.cells]at hy;subst hy;exact⟨hx,fun _=>hx⟩
 | bool b=>intro y hy;simp[V.cells]at hy;subst hy;exact⟨hx,fun _=>hx⟩
 | str s=>intro y hy;simp[V.cells]at hy;subst hy;exact⟨hx,fun _=>hx⟩
 | nil=>intro y hy;simp[V.cells]at hy;subst hy;exact⟨hx,fun _=>hx⟩
 | raw v=>intro y hy;simp[V.cells]at hy;subst hy;exact⟨hx,fun _=>hx⟩
 | sl rows=>intro y hy;simp[V.cells]at hy;subst hy;exact⟨hx,fun _=>hx⟩
theorem oP(v:Value)(hv:v.oneCell'=true):bN (.de v):=by
 unfold V.de
 split<;>first | exact .int _ _ | exact .bool _ | exact .str _ | exact .nil | (rw[aCr hv];exact .raw _)
theorem fW{t:TypeId}{z:List V}(hz:eW P t=some z):∀x∈z,bN x:=by
 unfold eW at hz
 split at hz<;>try (cases hz;done)
 split at hz<;>try (cases hz;done)
 rename_i v _ hc;cases hz;intro x hx;obtain⟨u,hu,rfl⟩:=aCN.1 hx;simp only[aCs]at hc;exact oP u (aCG.1 hc.1 u hu)
theorem xM{α:Type}{es:Nat}:∀{m:Nat} {z:List α} {row:List α} {x:α},row∈cP es m z→x∈row→x∈z
 | 0,z,row,x,h,hx=>by simp[cP]at h
 | m+1,z,row,x,h,hx=>by
  simp only[cP,aCJ]at h;rcases h with rfl | h
  ·exact aDT hx
  ·exact aDU (xM h hx)
theorem DA{p:V→Prop}{row cs:List V}{j:Nat}(h1:∀x∈row,p x)(h2:∀x∈cs,p x):∀x∈putAt row j cs,p x:=by
 intro x hx;simp only[putAt,aC3]at hx;rcases hx with(hx | hx) | hx
 ·exact h1 x (aDT hx)
 ·exact h2 x hx
 ·exact h1 x (aDU hx)
theorem DV{p:V→Prop}{place:Nat→Option (Nat×Nat)}:∀(parts:List (Nat×V)) (cs fj:List V),(∀x∈cs,p x)→(∀q∈parts,∀x∈q.2.cells,p x)→lK place cs parts=some fj→∀x∈fj,p x
 | [],cs,fj,h1,_,h=>by simp[lK]at h;subst h;exact h1
 | (i,v)::parts,cs,fj,h1,h2,h=>by
  simp only[lK]at h
  split at h
  ·cases h
  split at h<;>try (cases h;done)
  exact DV parts _ fj (DA h1 (h2 (i,v) (by simp))) (fun q hq=>h2 q (by simp[hq])) h
theorem J7{t:TypeId}{p:Prop}{imp:Bool}{row:List V}{j:Nat}(aO:∀x∈row,oS K x∧(imp=false→bN x)):okR K (fD P t p imp row j):=by
 unfold fD
 split
 ·cases imp with
  | false=>exact fun _ x hx=>(aO x (aDU (aDT hx))).2 rfl
  | true=>exact fun _ x hx=>(aO x (aDU (aDT hx))).1
 ·split
  ·split
   ·rename_i x hx
    split
    ·exact fun _=>AN (aO x (aCC hx)).1
    ·trivial
   ·trivial
  ·trivial
theorem JX(hh:∀p ob,h p=some ob→kL K ob){y:V}(hy:ir K y){rows:List (List V)}(hr:rowsOf h y=some rows):∀row∈rows,∀x∈row,bN x:=by
 unfold rowsOf at hr
 split at hr<;>try (cases hr;done)
 ·cases hr;intro r hr;simp at hr
 ·cases hr;exact bN.rows hy
 ·cases hr;exact hy
 ·cases hr;intro r hr;simp at hr
 ·split at hr<;>try (cases hr;done)
  rename_i ob ho
  split at hr<;>try (cases hr;done)
  rename_i hc;cases hr;exact fun row aO x hx=>(hh _ ob ho row aO x hx).2 hc.2
theorem ahL{op:BinOp}{t:TypeId}{x y:V}{p:Prop}{v:V}(hb:Gn P op t x y=some (p,v)):bN v:=by
 unfold Gn at hb
 split at hb
 ·split at hb
  ·cases op<;>simp only[E0]at hb<;>(try (cases hb;done))<;>(simp only[aCA,aCH]at hb;rw[← hb.2];exact .int _ _)
  ·split at hb<;>try (cases hb;done)
   cases op<;>simp only[ah1]at hb<;>(try (cases hb;done))<;>(simp only[aCA,aCH]at hb;rw[← hb.2];first | exact .int _ _ | exact .bool _)
 ·split at hb<;>(try (cases hb;done))<;>(simp only[aCA,aCH]at hb;rw[← hb.2];exact .bool _)
 ·split at hb<;>try (cases hb;done)
  all_goals
   simp at hb;rcases hb with⟨_,_,rfl⟩ | ⟨_,_,rfl⟩<;>exact .bool _
 ·unfold uF at hb
  split at hb<;>(try (cases hb;done))<;>(simp only[aCA,aCH]at hb;rw[← hb.2];exact .bool _)
 ·unfold uF at hb
  split at hb<;>(try (cases hb;done))<;>(simp only[aCA,aCH]at hb;rw[← hb.2];exact .bool _)
 ·unfold uF at hb
  split at hb<;>(try (cases hb;done))<;>(simp only[aCA,aCH]at hb;rw[← hb.2];exact .bool _)
 ·unfold uF at hb
  split at hb<;>(try (cases hb;done))<;>(simp only[aCA,aCH]at hb;rw[← hb.2];exact .bool _)
 ·cases hb
theorem J6{parts:List (Nat×V)}(hk:∀q∈parts,ir K q.2)(hs:∀q∈parts,q.2.fB h):∀q∈parts,∀x∈q.2.cells,oS K x∧((!(parts.all (·.2.pure)))=false→bN x):=by
 intro q hq x hx;obtain⟨h1,h2⟩:=wX (hk q hq) (hs q hq) x hx;refine⟨h1,fun hp=>h2 ?_⟩;simp only[aEW,aCG]at hp;exact hp q hq
theorem ZT{imp:Bool}{cs:List V}(hc:∀x∈cs,oS K x∧(imp=false→bN x)):ir K (ke imp cs):=by
 cases imp with
 | false=>exact fun x hx=>(hc x hx).2 rfl
 | true=>exact fun x hx=>(hc x hx).1
theorem acn(o:Oper)(he:∀x∈o.op.operands.toList,ir K (e x))(hh:∀p ob,h p=some ob→kL K ob):okR K (gF P o e h):=by
 obtain⟨dst,op,ty,pos,after,guard⟩:=o;unfold gF;simp only at he ⊢;cases op<;>simp only[Op.operands]at he<;>(try dsimp only)<;>try trivial
 case move x=>exact fun _=>he x (by simp)
 case assign x=>exact fun _=>he x (by simp)
 case pick c a b=>
  split
  ·rename_i t ht
   intro _;cases t
   ·exact he b (by simp)
   ·exact he a (by simp)
  ·trivial
 case alloc t=>
  unfold nB
  split
  ·rename_i z hz
   split
   ·split
    ·intro _ row aO x hx
     have:=fW hz x (xM aO hx);exact⟨eh this,fun _=>this⟩
    ·trivial
   intro _ row aO x hx;simp at aO;subst aO;have:=fW hz x hx;exact⟨eh this,fun _=>this⟩
  ·trivial
 case box t x=>
  rintro⟨hs,_⟩ row aO y hy;simp at aO;subst aO;obtain⟨h1,h2⟩:=wX (he x (by simp)) hs y hy;exact⟨h1,fun hp=>h2 (by simpa using hp)⟩
 case build t parts=>
  unfold iD
  split
  ·split
   ·rename_i z hz
    split
    ·rename_i cs xj
     intro hs;refine ZT ?_;refine DV (p:=fun x=>oS K x∧((!((parts.toList.map fun q=>(q.1,e q.2)).all (·.2.pure)))=false→bN x)) _ z cs (fun x hx=>⟨eh (fW hz x hx),fun _=>fW hz x hx⟩) ?_ xj;exact J6 (h:=h) (fun q hq=>by
      obtain⟨r,hr,rfl⟩:=aCN.1 hq;exact he r.2 (by simp;exact⟨r.1,by simpa using hr⟩)) hs
    ·trivial
   ·trivial
  ·trivial
 case buildSlice t len parts=>
  unfold cY
  split
  ·split
   ·intro hs row aO x hx
    obtain⟨q,hq,rfl⟩:=aCN.1 aO;exact J6 (h:=h) (fun q hq=>by
      obtain⟨r,hr,rfl⟩:=aCN.1 hq;exact he r.2 (by simp;exact⟨r.1,by simpa using hr⟩)) (fun q hq=>(hs q hq).1) q hq x hx
   ·trivial
  ·trivial
 case load t x=>
  split
  ·have hx:=he x (by simp)
   unfold ic
   split
   ·split
    ·rename_i ob ho
     split
     ·rename_i row aO
      exact J7 (hh _ ob ho row (aCC aO))
     ·trivial
    ·trivial
   ·rename_i row j gu
    rw[gu]at hx;exact J7 fun y hy=>⟨eh (hx y hy),fun _=>hx y hy⟩
   ·trivial
  ·trivial
 case store t x y=>
  split
  ·unfold fg
   split
   ·split
    ·rename_i ob ho
     split
     ·rename_i row aO
      rintro⟨_,hs,_⟩ r hr z hz;simp only at hr;have hy:=wX (he y (by simp)) hs;have hold:=hh _ ob ho;have hpa:∀jj,∀q∈putAt row jj (e y).cells,oS K q∧((ob.imp || !(e y).pure)=false→bN q):=
       fun jj=>DA (fun q hq=>⟨(hold row (aCC aO) q hq).1,fun hi=>(hold row (aCC aO) q hq).2 (by simp at hi;exact hi.1)⟩)
        (fun q hq=>⟨(hy q hq).1,fun hi=>(hy q hq).2 (by simp at hi;exact hi.2)⟩)
      rcases List.mem_or_eq_of_mem_set hr with h1 | h1
      ·exact⟨(hold r h1 z hz).1,fun hi=>(hold r h1 z hz).2 (by simp at hi;exact hi.1)⟩
      ·rw[h1]at hz
       exact hpa _ z hz
     ·trivial
    ·trivial
   ·trivial
  ·trivial
 case binOp op t x y yt=>
  split
  ·rename_i p v hb
   exact fun _=>oQ (ahL hb)
  ·trivial
 case unOp op t x=>
  cases op<;>dsimp only<;>(try trivial)<;>split<;>first | trivial | exact fun _=>.bool _ | exact fun _=>.int _ _
 case convert s d x=>
  split
  ·split
   ·exact fun _=>.int _ _
   ·trivial
  ·trivial
 case slice t x lo hi mx=>
  cases mx with
  | some m=>trivial
  | none=>
   dsimp only
   have hx:=he x (by simp);unfold eH
   split
   ·trivial
   split
   ·trivial
   split
   ·trivial
   ·split
    ·rename_i gu;rw[gu]at hx;exact fun _=>.sl _ fun r hr=>bN.rows hx r (aDT hr)
    ·rename_i gu;rw[gu]at hx;exact fun _ r hr=>hx r (aDT hr)
    ·exact fun _=>bN.nil
    ·trivial
   ·split
    ·rename_i gu;rw[gu]at hx;exact fun _=>.sl _ fun r hr=>bN.rows hx r (aDU hr)
    ·rename_i gu;rw[gu]at hx;exact fun _ r hr=>hx r (aDU hr)
    ·exact fun _=>bN.nil
    ·trivial
   ·split
    ·rename_i gu;rw[gu]at hx;exact fun _=>.sl _ fun r hr=>bN.rows hx r (aDT (aDU hr))
    ·rename_i gu;rw[gu]at hx;exact fun _ r hr=>hx r (aDT (aDU hr))
    ·exact fun _=>bN.nil
    ·trivial
   ·trivial
 case fieldAddr t x f=>
  have hx:=he x (by simp);unfold df
  split
  ·rename_i gu
   rw[gu]at hx
   split
   ·split
    ·exact fun _=>hx
    ·trivial
   ·trivial
  ·rename_i gu
   rw[gu]at hx
   split
   ·exact fun _=>hx
   ·trivial
  ·trivial
 case field t x f=>
  have hx:=he x (by simp);unfold kN
  split
  ·rename_i gu
   rw[gu]at hx
   split
   ·split
    ·exact fun _ y hy=>hx y (aDU (aDT hy))
    ·split
     ·split
      ·rename_i y hy
       exact fun _=>oQ (hx y (aCC hy))
      ·trivial
     ·trivial
   ·trivial
  ·trivial
 case indexAddr t x i=>
  have hx:=he x (by simp)
  split
  ·unfold dL
   split
   ·split
    ·trivial
    ·split
     ·rename_i gu
      rw[gu]at hx
      split
      ·exact fun _=>hx
      ·trivial
     ·trivial
   ·trivial
  ·unfold eo
   split
   ·split
    ·trivial
    ·split
     ·rename_i gu
      rw[gu]at hx
      split
      ·exact fun _=>hx
      ·trivial
     ·trivial
   ·trivial
  ·unfold dx
   split
   ·split
    ·trivial
    ·split
     ·rename_i gu
      rw[gu]at hx
      split
      ·rename_i row aO
       exact fun _ y hy=>bN.rows hx row (aCC aO) y hy
      ·trivial
     ·rename_i gu
      rw[gu]at hx
      split
      ·rename_i row aO
       exact fun _ y hy=>hx row (aCC aO) y hy
      ·trivial
     ·trivial
   ·trivial
 case extract x i=>
  have hx:=he x (by simp)
  split
  ·rename_i gu
   rw[gu]at hx
   split
   ·rename_i v hv
    exact fun _=>AO (hx v (aCC hv))
   ·trivial
  ·trivial
 case makeFunc fn first bZ=>
  cases fn<;>dsimp only<;>try trivial
  split
  ·rename_i hc
   intro _ x hx;obtain⟨y,hy,rfl⟩:=aCN.1 hx;have h1:=he y (by simp;exact .inr (by simpa using hy));have h2:=aCG.1 hc.2 (e y) (aCN.2 ⟨y,hy,rfl⟩);generalize e y=v at h1 h2;cases v<;>first | exact h1 | (simp[V.K4]at h2)
  ·trivial
 case nilCheck x=>
  have hx:=he x (by simp)
  split
  ·rename_i gu
   rw[gu]at hx;exact fun _=>hx
  ·trivial
 case makeSlice t l c=>
  unfold nY
  split
  ·split
   ·rename_i z hz
    split
    ·intro _ row aO x hx
     rw[(aEN.1 aO).2]at hx;exact⟨eh (fW hz x hx),fun _=>fW hz x hx⟩
    ·trivial
   ·trivial
  ·trivial
 case call c=>
  obtain⟨callee,args,argTypes⟩:=c;have dd:∀x∈args.toList,ir K (e x):=fun x hx=>he x (by simp[Call.operands];exact .inr (by simpa using hx))
  unfold fh
  dsimp only
  cases callee with
  | value f=>
   dsimp only
   split
   ·split<;>trivial
   ·trivial
  | invoke r m=>trivial
  | builtin b=>
   cases b<;>dsimp only<;>try trivial
   case append=>
    split
    ·rename_i x y t t' hl ht
     split
     ·unfold dQ
      split
      ·rename_i e2 new he2 bS
       have xh:=JX hh (dd y (by simp[hl])) bS
       split
       ·trivial
       ·split
        ·exact fun _ row aO z hz=>⟨eh (xh row aO z hz),fun _=>xh row aO z hz⟩
        ·split
         ·rename_i ob ho
          intro _ row aO z hz;rcases aC3.1 aO with h1 | h1
          ·exact hh _ ob ho row h1 z hz
          ·exact⟨eh (xh row h1 z hz),fun _=>xh row h1 z hz⟩
         ·trivial
        ·trivial
      ·trivial
     ·trivial
    ·trivial
   case len=>
    split
    ·split
     ·exact fun _=>.int _ _
     ·split
      ·exact fun _=>.int _ _
      ·trivial
    ·trivial
   case max=>
    split
    ·rename_i v hv
     intro _;unfold aj5 at hv
     split at hv<;>try (cases hv;done)
     split at hv<;>try (cases hv;done)
     cases hv
     exact .int _ _
    ·trivial
   case min=>
    split
    ·rename_i v hv
     intro _;unfold aj4 at hv
     split at hv<;>try (cases hv;done)
     split at hv<;>try (cases hv;done)
     cases hv
     exact .int _ _
    ·trivial
end
end Go.AL
namespace Go.AL
def RD.deep:RD→Prop
 | .v x=>ir (fun _=>true) x
 | .o _ _ rows=>∀row∈rows,∀x∈row,bN x
 | .a _ _ rows pre post=>(∀row∈rows,∀x∈row,bN x)∧∀x∈pre++post,bN x
def yZ(P:Program)(n:Nat)(o:Oper)(Φ:St→Prop)(s:St):Prop:=
 dOK n o.dst∧match gF P o s.ev s.h with
  | .val p v=>p∧Φ (s.put o.dst v)
  | .new p ob r=>match o.dst with
   | some d=>p∧(Φ (s.new d ob (if r then .ref d ob.rows.length else .ptr d ob.rows.length 0 0))∨(r=true∧ob.imp=false∧Φ (s.Fs d ob)))
   | none=>False
  | .H7 p q ob=>p∧Φ ((s.ca q ob).put o.dst .dead)
  | .app p q ob=>p∧Φ ((s.ca q ob).put o.dst (.ref q ob.rows.length))
  | .call g args=>∃dp Pd,Ew P g dp Pd∧kM s.h args dp∧∀rds,Pd rds→(∀rd∈rds,rd.deep)∧Φ (s.call o.dst rds)
  | .bad=>False
def Et(n:Nat)(o:Oper)(Φ:St→Prop)(s:St):Prop:=dOK n o.dst∧Φ (s.put o.dst (.kQ []))
def ep(P:Program)(n:Nat)(ops:Array Oper)(o:Oper)(Φ:St→Prop)(s:St):Prop:=
 match FM ops o s with
 | none=>yZ P n o Φ s
 | some (.bool b,want)=>(b=want→yZ P n o Φ s)∧(b = !want→Et n o Φ s)
 | some (.kQ _,_)=>Et n o Φ s
 | _=>False
theorem xu{P:Program}{n:Nat}{ops:Array Oper}{o:Oper}{Φ:St→Prop}{s:St}(h:ep P n ops o Φ s):
  (yZ P n o Φ s∧∀Ψ s',FM ops o s'=FM ops o s→yZ P n o Ψ s'→ep P n ops o Ψ s')∨(Et n o Φ s∧∀Ψ s',FM ops o s'=FM ops o s→Et n o Ψ s'→ep P n ops o Ψ s'):=by
 unfold ep at h
 split at h
 ·rename_i hg
  exact .inl ⟨h,fun Ψ s' he hr=>by unfold ep;rw[he,hg];exact hr⟩
 ·rename_i b want hg
  by_cases hb:b=want
  ·exact .inl ⟨h.1 hb,fun Ψ s' he hr=>by
    unfold ep;rw[he,hg];exact⟨fun _=>hr,fun h2=>by subst hb;cases b<;>cases h2⟩⟩
  ·have Bk:b = !want:=by cases b<;>cases want<;>simp_all
   exact .inr ⟨h.2 Bk,fun Ψ s' he hr=>by
    unfold ep;rw[he,hg];exact⟨fun h1=>absurd h1 hb,fun _=>hr⟩⟩
 ·rename_i xs want hg
  exact .inr ⟨h,fun Ψ s' he hr=>by unfold ep;rw[he,hg];exact hr⟩
 ·exact h.elim
theorem VA{P:Program}{n:Nat}{o:Oper}{Φ Ψ:St→Prop}{s:St}(hm:∀s,Φ s→Ψ s)(h:yZ P n o Φ s):yZ P n o Ψ s:=by
 unfold yZ at *;refine⟨h.1,?_⟩;have h2:=h.2
 split at h2
 ·exact⟨h2.1,hm _ h2.2⟩
 ·split at h2
  ·exact⟨h2.1,h2.2.imp (hm _) fun h=>⟨h.1,h.2.1,hm _ h.2.2⟩⟩
  ·exact h2
 ·exact⟨h2.1,hm _ h2.2⟩
 ·exact⟨h2.1,hm _ h2.2⟩
 ·obtain⟨a,r,h3,h4,h6⟩:=h2;exact⟨a,r,h3,h4,fun rds hp=>⟨(h6 rds hp).1,hm _ (h6 rds hp).2⟩⟩
 ·exact h2
theorem BP{P:Program}{n:Nat}{ops:Array Oper}{o:Oper}{Φ Ψ:St→Prop}{s:St}(hm:∀s,Φ s→Ψ s)(h:ep P n ops o Φ s):ep P n ops o Ψ s:=by
 rcases xu h with⟨h1,h2⟩ | ⟨h1,h2⟩
 ·exact h2 Ψ s rfl (VA hm h1)
 ·exact h2 Ψ s rfl ⟨h1.1,hm _ h1.2⟩
inductive Kind where
 | plain
 | look
 | alloc
 | box
 | uX
 deriving DecidableEq
def bY:Op→Kind
 | .move _ | .assign _ | .pick .. | .binOp .. | .unOp .. | .convert .. | .slice .. | .field .. | .extract .. | .makeFunc ..=>.plain
 | .load .. | .fieldAddr .. | .indexAddr .. | .nilCheck _ | .build ..=>.look
 | .call {callee:=.builtin .len,.. } | .call {callee:=.builtin .max,.. } | .call {callee:=.builtin .min,.. }=>.look
 | .alloc _=>.alloc
 | .box .. | .buildSlice ..=>.box
 | _=>.uX
def writes:Op→Bool
 | .store ..=>true
 | .call {callee:=.builtin _,.. }=>true
 | _=>false
theorem ju{P:Program}{o:Oper}{e:Operand→V}{h:Nat→Option Ob}(hk:bY o.op=.plain∨bY o.op=.look):(∃p v,gF P o e h=.val p v)∨gF P o e h=.bad:=by
 have ld:∀(t:TypeId) (p:Prop) (imp:Bool) (row:List V) (j:Nat),(∃q v,fD P t p imp row j=.val q v)∨fD P t p imp row j=.bad:=by
  intro t p imp row j;unfold fD
  split
  ·exact .inl ⟨_,_,rfl⟩
  ·split
   ·split
    ·split
     ·exact .inl ⟨_,_,rfl⟩
     ·exact .inr rfl
    ·exact .inr rfl
   ·exact .inr rfl
 have vb:∀(p:Prop) (v:V),(∃q w,AR.val p v=.val q w)∨AR.val p v=.bad:=fun p v=>.inl ⟨p,v,rfl⟩
 have bb:(∃q w,AR.bad=.val q w)∨AR.bad=.bad:=.inr rfl;obtain⟨dst,op,ty,pos,after,guard⟩:=o;unfold gF;cases op<;>simp only[bY]at hk<;>(try (rcases hk with hk | hk<;>cases hk;done))<;>dsimp only
 case move=>exact vb _ _
 case assign=>exact vb _ _
 case pick=>split<;>first | exact vb _ _ | exact bb
 case build=>
  unfold iD
  split
  ·split
   ·split<;>first | exact vb _ _ | exact bb
   ·exact bb
  ·exact bb
 case load=>
  split
  ·unfold ic
   split
   ·split
    ·split
     ·exact ld _ _ _ _ _
     ·exact bb
    ·exact bb
   ·exact ld _ _ _ _ _
   ·exact bb
  ·exact bb
 case binOp=>split<;>first | exact vb _ _ | exact bb
 case unOp op t x=>cases op<;>dsimp only<;>(try exact bb)<;>split<;>first | exact vb _ _ | exact bb
 case convert=>
  split
  ·split<;>first | exact vb _ _ | exact bb
  ·exact bb
 case slice t x lo hi mx=>
  cases mx<;>dsimp only
  ·unfold eH
   split
   ·exact bb
   split
   ·exact bb
   split<;>(try exact bb)<;>split<;>first | exact vb _ _ | exact bb
  ·exact bb
 case fieldAddr=>
  unfold df
  split
  ·split
   ·split<;>first | exact vb _ _ | exact bb
   ·exact bb
  ·split<;>first | exact vb _ _ | exact bb
  ·exact bb
 case field=>
  unfold kN
  split
  ·split
   ·split
    ·exact vb _ _
    ·split
     ·split<;>first | exact vb _ _ | exact bb
     ·exact bb
   ·exact bb
  ·exact bb
 case indexAddr=>
  split
  ·unfold dL
   split
   ·split
    ·exact bb
    ·split
     ·split<;>first | exact vb _ _ | exact bb
     ·exact bb
   ·exact bb
  ·unfold eo
   split
   ·split
    ·exact bb
    ·split
     ·split<;>first | exact vb _ _ | exact bb
     ·exact bb
   ·exact bb
  ·unfold dx
   split
   ·split
    ·exact bb
    ·split<;>(try exact bb)<;>split<;>first | exact vb _ _ | exact bb
   ·exact bb
 case extract=>
  split
  ·split<;>first | exact vb _ _ | exact bb
  ·exact bb
 case makeFunc fn first bZ=>
  cases fn<;>dsimp only<;>(try exact bb)
  split<;>first | exact vb _ _ | exact bb
 case nilCheck=>split<;>first | exact vb _ _ | exact bb
 case call c=>
  obtain⟨callee,args,argTypes⟩:=c;unfold fh
  dsimp only
  cases callee with
  | value f=>rcases hk with hk | hk<;>cases hk
  | invoke r m=>exact bb
  | builtin b=>
   cases b<;>(try (rcases hk with hk | hk<;>cases hk;done))<;>dsimp only
   case len=>
    split
    ·split
     ·exact vb _ _
     ·split<;>first | exact vb _ _ | exact bb
    ·exact bb
   case max=>split<;>first | exact vb _ _ | exact bb
   case min=>split<;>first | exact vb _ _ | exact bb
theorem jv{P:Program}{o:Oper}{e:Operand→V}{h:Nat→Option Ob}(hk:bY o.op=.alloc∨bY o.op=.box):(∃p ob r,gF P o e h=.new p ob r)∨gF P o e h=.bad:=by
 obtain⟨dst,op,ty,pos,after,guard⟩:=o;unfold gF;cases op<;>simp only[bY]at hk<;>(try (rcases hk with hk | hk<;>cases hk;done))<;>dsimp only
 case alloc=>
  unfold nB
  split
  ·split
   ·split<;>first | exact .inl ⟨_,_,_,rfl⟩ | exact .inr rfl
   ·exact .inl ⟨_,_,_,rfl⟩
  ·exact .inr rfl
 case box=>exact .inl ⟨_,_,_,rfl⟩
 case buildSlice=>
  unfold cY
  split
  ·split<;>first | exact .inl ⟨_,_,_,rfl⟩ | exact .inr rfl
  ·exact .inr rfl
 case call c=>
  obtain⟨callee,args,argTypes⟩:=c;cases callee with
  | value f=>rcases hk with hk | hk<;>cases hk
  | invoke r m=>rcases hk with hk | hk<;>cases hk
  | builtin b=>cases b<;>(rcases hk with hk | hk<;>cases hk)
theorem DM{P:Program}{o:Oper}{e e':Operand→V}{h h':Nat→Option Ob}(hk:bY o.op=.plain∨bY o.op=.alloc)(he:∀x∈o.op.operands.toList,e x=e' x):gF P o e h=gF P o e' h':=by
 obtain⟨dst,op,ty,pos,after,guard⟩:=o;unfold gF;simp only at he ⊢;cases op<;>simp only[bY]at hk<;>(try (rcases hk with hk | hk<;>cases hk;done))<;>simp only[Op.operands]at he<;>(try dsimp only)
 case move x=>rw[he x (by simp)]
 case assign x=>rw[he x (by simp)]
 case pick c a b=>rw[he c (by simp),he a (by simp),he b (by simp)]
 case binOp op t x y yt=>rw[he x (by simp),he y (by simp)]
 case unOp op t x=>cases op<;>simp only[]<;>rw[he x (by simp)]
 case convert s d x=>rw[he x (by simp)]
 case slice t x lo hi mx=>
  cases mx<;>simp only[]
  rw[he x (by simp)];have h1:lo.map e=lo.map e':=by cases lo with | none=>rfl | some z=>simp;exact he z (by simp)
  have h2:hi.map e=hi.map e':=by cases hi with | none=>rfl | some z=>simp;exact he z (by simp)
  rw[h1,h2]
 case field t x f=>rw[he x (by simp)]
 case extract x i=>rw[he x (by simp)]
 case makeFunc fn first bZ=>
  cases fn<;>simp only[]
  have hc:bZ.toList.map e=bZ.toList.map e':=aDu fun x hx=>he x (by simp;exact .inr (by simpa using hx))
  rw[hc]
 case call c=>
  obtain⟨callee,args,argTypes⟩:=c;cases callee with
  | value f=>rcases hk with hk | hk<;>cases hk
  | invoke r m=>rfl
  | builtin b=>cases b<;>(rcases hk with hk | hk<;>cases hk)
def St.o8(s:St)(dst:Option Nat)(v:V)(obo:Option Ob):St:=
 match dst,obo with
 | some d,some ob=>⟨fun i=>if i=d then v else s.t i,fun p=>if p=d then some ob else s.h p⟩
 | dst,_=>s.put dst v
theorem lM(s:St)(dst:Option Nat)(v:V):s.o8 dst v none=s.put dst v:=by cases dst<;>rfl
theorem wI.QX{K:Nat→Bool}{s:St}(hs:wI K s){d:Nat}(hd:K d=true){ob:Ob}(cA:kL K ob)(v:V):s.new d ob v=s.o8 (some d) v (some ob):=by
 have hm:∀p,(p == d)=true→K p=true:=fun p hp=>by have:p=d:=(by simpa using hp);rw[this];exact hd
 have FD:=hs.mono (K':=(· == d)) hm;have awd:kL (· == d) ob:=fun row hr x hx=>⟨eM hm (cA row hr x hx).1,(cA row hr x hx).2⟩
 unfold St.new St.o8 eS
 congr 1
 ·funext i
  by_cases hi:i=d
  ·simp[hi]
  ·simp only[aCo hi];exact fb (FD.t i)
 ·funext p
  by_cases hp:p=d
  ·simp only[aCr hp];rw[ef awd]
  ·simp only[aCo hp]
   cases hh:s.h p with
   | none=>rfl
   | some bM=>simp only[aCU];rw[ef (FD.h p bM hh)]
theorem wI.uH{K:Nat→Bool}{s:St}(hs:wI K s){d:Nat}(hd:K d=true)(ob:Ob):s.Fs d ob=s.put (some d) (.sl ob.rows):=by
 have hm:∀p,(p == d)=true→K p=true:=fun p hp=>by have:p=d:=(by simpa using hp);rw[this];exact hd
 have FD:=hs.mono (K':=(· == d)) hm;unfold St.Fs St.put;simp only
 congr 1
 ·funext i
  by_cases hi:i=d
  ·simp[hi]
  ·simp only[aCo hi,St.new];rw[fb (FD.t i)];exact fb (FD.t i)
 ·funext p
  unfold kk;by_cases hp:p=d
  ·rw[aCr hp,hp,hs.n d hd]
  ·simp only[aCo hp,St.new,eS]
   cases hh:s.h p with
   | none=>rfl
   | some bM=>simp only[aCU];rw[ef (FD.h p bM hh),ef (FD.h p bM hh)]
theorem kL.sl{K:Nat→Bool}{ob:Ob}(h:kL K ob)(himp:ob.imp=false):bN (.sl ob.rows):=.sl _ fun row hr x hx=>(h row hr x hx).2 himp
def minus(K:Nat→Bool)(dst:Option Nat):Nat→Bool:=fun p=>K p&&!(dst == some (p % 1000))
theorem dN{K:Nat→Bool}{dst:Option Nat}:∀p,minus K dst p=true→K p=true:=fun p h=>by
 simp only[minus,aCs]at h;exact h.1
