/- AI. -/
import Derived.Test.YtfggefeflojnkaaGreatAlRun
namespace Go.AL
theorem fc{K:Nat→Bool}{o n i j:Nat}(h:(V.ptr o n i j).kill K=.ptr o n i j):K o=false:=by
 simp only[V.kill,V.cc,V.bz]at h;grind
theorem fV{K:Nat→Bool}{o n:Nat}(h:(V.ref o n).kill K=.ref o n):K o=false:=by
 simp only[V.kill,V.cc,V.bz]at h;grind
section
variable {P:Program} {K:Nat→Bool} {e e':Operand→V} {h h':Nat→Option Ob}
theorem Ld(hh:∀p,K p=false→h p=h' p){t:TypeId}{x:V}(hx:x.kill K=x):iy P h t x=iy P h' t x:=by
 cases x<;>simp only[iy]
 grind[fc]
theorem GC(hh:∀p,K p=false→h p=h' p){t:TypeId}{x y:V}(hx:x.kill K=x)(hy:y.kill K=y):fh P h t x y=fh P h' t x y:=by
 have hs:y.fC h=y.fC h':=by
  cases y<;>simp only[V.fC]
  all_goals grind[fV,fc]
 cases x<;>simp only[fh]
 grind[fc]
theorem sI(hh:∀p,K p=false→h p=h' p){y:V}(hy:y.kill K=y):y.fC h=y.fC h':=by
 cases y<;>simp only[V.fC]
 all_goals grind[fV,fc]
theorem Nb(hh:∀p,K p=false→h p=h' p){y:V}(hy:y.kill K=y):y.live h=y.live h':=by
 cases y<;>simp only[V.live]
 grind[fV]
theorem FD(hh:∀p,K p=false→h p=h' p){y:V}(hy:y.kill K=y):rowsOf h y=rowsOf h' y:=by
 cases y with
 | ref o n=>grind[rowsOf,fV]
 | raw v=>
  cases v<;>try rfl
  rename_i a n c;cases n<;>rfl
 | _=>rfl
theorem DE(hh:∀p,K p=false→h p=h' p){t:TypeId}{x y:V}(hx:x.kill K=x)(hy:y.kill K=y):dM P h t x y=dM P h' t x y:=by
 grind[dM,FD,fV]
theorem Ll(c:Call)(he:∀x∈c.operands.toList,e x=e' x)(hh:∀p,K p=false→h p=h' p)(hk:∀x∈c.operands.toList,(e x).kill K=e x):fi P e h c=fi P e' h' c:=by
 obtain⟨callee,args,argTypes⟩:=c;have cZ:∀x∈args.toList,e x=e' x:=fun x hx=>he x (by simp[Call.operands];exact .inr (by grind))
 have Np:∀x∈args.toList,(e x).kill K=e x:=fun x hx=>hk x (by simp[Call.operands];exact .inr (by grind))
 have ap3:args.toList.map e=args.toList.map e':=aAA cZ;unfold fi;simp only;cases callee with
 | value f=>
  have:e f=e' f:=he f (by simp[Call.operands]);grind
 | invoke r m=>rfl
 | builtin b=>
  cases b<;>simp only[ap3]
  case append=>
   grind[DE]
  case len=>
   split
   all_goals grind[Nb]
theorem ER(o:Oper)(he:∀x∈o.op.operands.toList,e x=e' x)(hh:∀p,K p=false→h p=h' p)(hk:∀x∈o.op.operands.toList,(e x).kill K=e x):gH P o e h=gH P o e' h':=by
 obtain⟨dst,op,ty,pos,after,guard⟩:=o;unfold gH;simp only at he hk ⊢;cases op<;>simp only[Op.operands]at he hk<;>(try dsimp only)<;>try rfl
 case move x=>grind
 case assign x=>grind
 case pick c a b=>grind
 case box t x=>grind[sI]
 case build t parts=>
  have hp:(parts.toList.map fun q=>(q.1,e q.2))=(parts.toList.map fun q=>(q.1,e' q.2)):=aAA fun q hq=>by
   grind
  rw[← hp];unfold iL
  split<;>try rfl
  split<;>try rfl
  split<;>try rfl
  have hs:(∀q∈(parts.toList.map fun q=>(q.1,e q.2)),q.2.fC h)=(∀q∈(parts.toList.map fun q=>(q.1,e q.2)),q.2.fC h'):=by
   grind[sI]
  rw[hs]
 case buildSlice t len parts=>
  have hp:(parts.toList.map fun q=>(q.1,e q.2))=(parts.toList.map fun q=>(q.1,e' q.2)):=aAA fun q hq=>by
   grind
  rw[← hp];unfold cW
  split<;>try rfl
  split<;>try rfl
  have hs:(∀q∈(parts.toList.map fun q=>(q.1,e q.2)),q.2.fC h∧q.2.cells.length=aq P ‹_›)=(∀q∈(parts.toList.map fun q=>(q.1,e q.2)),q.2.fC h'∧q.2.cells.length=aq P ‹_›):=by
   grind[sI]
  rw[hs]
 case load t x=>
  grind[Ld]
 case store t x y=>
  grind[GC]
 case binOp op t x y yt=>grind
 case unOp op t x=>grind
 case convert s d x=>grind
 case slice t x lo hi mx=>
  cases mx<;>simp only[]
  rw[he x (by simp)];have h1:lo.map e=lo.map e':=by cases lo with | none=>rfl | some z=>simp;exact he z (by simp)
  have h2:hi.map e=hi.map e':=by cases hi with | none=>rfl | some z=>simp;exact he z (by simp)
  rw[h1,h2]
 case fieldAddr t x f=>
  rw[← he x (by simp)];have hx:=hk x (by simp);generalize e x=v at hx;cases v<;>simp only[dd]
  grind[fc]
 case field t x f=>grind
 case indexAddr t x i=>
  rw[← he x (by simp),← he i (by simp)];have hx:=hk x (by simp);generalize e x=v at hx;cases v<;>simp only[dG,dZ]
  all_goals grind[fV,fc]
 case extract x i=>grind
 case makeFunc fn first aw=>
  cases fn<;>simp only[]
  have hc:aw.toList.map e=aw.toList.map e':=aAA fun x hx=>he x (by grind)
  rw[hc]
 case nilCheck x=>
  rw[← he x (by simp)];have hx:=hk x (by simp);generalize e x=v at hx;cases v<;>simp only[]
  rw[hh _ (fc hx)]
 case call c=>exact Ll c he hh hk
 grind
end
inductive bJ:V→Prop
 | int (k:IntKind) (n:Int):bJ (.int k n)
 | bool (b:Bool):bJ (.bool b)
 | str (s:ByteArray):bJ (.str s)
 | nil:bJ .nil
 | raw (v:Value):bJ (.raw v)
 | sl (rows:List (List V)) (h:∀row∈rows,∀x∈row,bJ x):bJ (.sl rows)
theorem bJ.rows{rows:List (List V)}(h:bJ (.sl rows)):∀row∈rows,∀x∈row,bJ x:=by cases h;assumption
theorem dQ{w:World}{A:Nat→Prop}{x:V}{v:Value}(h:aY w A x v):bJ x:=by
 induction h with
 | int k n=>exact .int k n
 | bool b=>exact .bool b
 | str s=>exact .str s
 | nil=>exact .nil
 | slnil _=>exact .sl [] (fun r hr=>by simp at hr)
 | raw v h1=>exact .raw v
 | sl rows b off cap es f jM hb bI hc hr ih=>
  refine .sl rows fun row aK x hx=>?_
  obtain⟨i,hi⟩:=aAr aK;obtain⟨j,hj⟩:=aAr hx;grind
def oC(K:Nat→Bool):V→Prop
 | .rd rows=>∀row∈rows,∀x∈row,bJ x
 | .cp row _=>∀x∈row,bJ x
 | .ref o _=>K o=false
 | .ptr o _ _ _=>K o=false
 | .dead=>True
 | x=>bJ x
def C7(K:Nat→Bool):V→Prop
 | .agg cs=>∀x∈cs,bJ x
 | .eA cs=>∀x∈cs,oC K x
 | x=>oC K x
def iD(K:Nat→Bool):V→Prop
 | .kI vs=>∀x∈vs,C7 K x
 | .fn _ cs=>∀x∈cs,oC K x
 | x=>C7 K x
def kC(K:Nat→Bool)(ob:Ob):Prop:=∀row∈ob.rows,∀x∈row,oC K x∧(ob.imp=false→bJ x)
structure wo (K:Nat→Bool) (s:St):Prop where
 t:∀i,iD K (s.t i)
 h:∀o ob,s.h o=some ob→kC K ob
 n:∀o,K o=true→s.h o=none
theorem fE{K:Nat→Bool}{x:V}(h:bJ x):oC K x:=by cases h<;>first | exact .int _ _ | exact .bool _ | exact .str _ | exact .nil | exact .raw _ | exact .sl _ ‹_›
theorem oB{K:Nat→Bool}{x:V}(h:bJ x):iD K x:=by cases h<;>first | exact .int _ _ | exact .bool _ | exact .str _ | exact .nil | exact .raw _ | exact .sl _ ‹_›
theorem Bg{K:Nat→Bool}{x:V}(h:oC K x):iD K x:=by
 cases x<;>first | exact h | (cases h;done)
theorem Bh{K:Nat→Bool}{x:V}(h:C7 K x):iD K x:=by
 cases x<;>first | exact h | (cases h;done)
theorem nK{K K':Nat→Bool}(hK:∀p,K' p=true→K p=true){o:Nat}(ho:K o=false):K' o=false:=by
 grind
theorem eI{K K':Nat→Bool}(hK:∀p,K' p=true→K p=true){x:V}(h:oC K x):oC K' x:=by
 have f:∀o,K o=false→K' o=false:=fun o ho=>by
  grind
 cases x<;>first | exact h | exact f _ h
theorem X1{K K':Nat→Bool}(hK:∀p,K' p=true→K p=true){x:V}(h:C7 K x):C7 K' x:=by
 cases x<;>first | exact h | exact eI hK h | exact fun x hx=>eI hK (h x hx) | exact nK hK h
theorem dI{K K':Nat→Bool}(hK:∀p,K' p=true→K p=true){x:V}(h:iD K x):iD K' x:=by
 cases x<;>first | exact h | exact fun x hx=>X1 hK (h x hx) | exact fun x hx=>eI hK (h x hx) | exact nK hK h
theorem wo.mono{K K':Nat→Bool}(hK:∀p,K' p=true→K p=true){s:St}(h:wo K s):wo K' s:=
 ⟨fun i=>dI hK (h.t i),fun o ob ho row hr x hx=>⟨eI hK (h.h o ob ho row hr x hx).1,(h.h o ob ho row hr x hx).2⟩,fun o ho=>h.n o (hK o ho)⟩
theorem wM{K:Nat→Bool}{x:V}(h:oC K x):x.bz K=x:=by
 cases x<;>try rfl
 ·have h':K _=false:=h
  grind[V.bz]
 ·have h':K _=false:=h
  grind[V.bz]
theorem X2{K:Nat→Bool}{x:V}(h:C7 K x):x.cc K=x:=by
 cases x with
 | eA cs=>
  simp only[V.cc]
  congr 1
  exact(aAA (fun x hx=>wM (h x hx))).trans (aAW _)
 | ref o n=>have h':K _=false:=h;grind[V.cc,V.bz]
 | ptr o n i j=>have h':K _=false:=h;grind[V.cc,V.bz]
 | _=>rfl
theorem e9{K:Nat→Bool}{x:V}(h:iD K x):x.kill K=x:=by
 cases x with
 | kI vs=>
  simp only[V.kill]
  congr 1
  exact(aAA (fun x hx=>X2 (h x hx))).trans (aAW _)
 | fn f cs=>
  simp only[V.kill];have:cs.any (V.names K)=false:=by
   rw[aBD];intro x hx;have h':=h x hx;cases x<;>simp only[V.names]<;>first | (intro e;cases e;done) | (have h2:K _=false:=h';simp[h2])
  simp[this]
 | eA cs=>
  simp only[V.kill,V.cc]
  congr 1
  exact(aAA (fun x hx=>wM (h x hx))).trans (aAW _)
 | ref o n=>have h':K _=false:=h;grind[V.kill,V.cc,V.bz]
 | ptr o n i j=>have h':K _=false:=h;grind[V.kill,V.cc,V.bz]
 | _=>rfl
theorem dY{K:Nat→Bool}{ob:Ob}(h:kC K ob):ob.kill K=ob:=by
 unfold Ob.kill
 split
 ·have:ob.rows.map (·.map (V.bz K))=ob.rows:=by
   refine(aAA (fun r hr=>?_)).trans (aAW _);exact(aAA (fun x hx=>wM (h r hr x hx).1)).trans (aAW _)
  rw[this]
 ·rfl
theorem fa{E:Env}{K:Nat→Bool}{x:V}{v:Value}(h:bw E x v):oC K (x.bz K):=by
 have sl:∀(X:Nat→Prop) (rows:List (List V)),gF E.w E.A X rows v→∀row∈rows,∀x∈row,bJ x:=by
  intro X rows hs row aK x hx;rcases hs with⟨_,rfl⟩ | ⟨b,off,cap,es,f,hv,jM,hb,bI,hc,hr⟩
  ·simp at aK
  ·obtain⟨i,hi⟩:=aAr aK
   obtain⟨j,hj⟩:=aAr hx;grind[dQ]
 cases x with
 | rd rows=>exact sl _ _ h
 | ref o n=>
  grind[V.bz,oC]
 | ptr o n i j=>
  grind[V.bz,oC]
 | cp row j=>
  obtain⟨b,off,f,_,_,_,_,hr⟩:=h;intro x hx;obtain⟨j,hj⟩:=aAr hx;grind[dQ]
 | dead=>trivial
 | int k n=>exact .int k n
 | bool b=>exact .bool b
 | str s=>exact .str s
 | nil=>exact .nil
 | raw v=>exact .raw v
 | sl rows=>exact dQ h
 | agg cs=>cases h
 | eA cs=>cases h
 | kI cs=>cases h
 | fn f cs=>cases h
theorem sS{E:Env}{K:Nat→Bool}{x:V}{v:Value}(h:cD E x v):C7 K (x.cc K):=by
 cases x with
 | agg cs=>
  obtain⟨vs,_,_,hc⟩:=h;intro x hx;obtain⟨j,hj⟩:=aAr hx;grind[dQ]
 | eA cs=>
  obtain⟨vs,_,_,hc⟩:=h;intro x hx;obtain⟨y,hy,rfl⟩:=az4.1 hx;obtain⟨j,hj⟩:=aAr hy;grind[fa]
 | ref o n=>
  grind[fa,V.cc,V.bz,C7,oC]
 | ptr o n i j=>
  grind[V.cc,V.bz,C7,oC]
 | rd rows=>exact fa (K:=K) (x:=.rd rows) h
 | cp row j=>exact fa (K:=K) (x:=.cp row j) h
 | dead=>trivial
 | int k n=>exact .int k n
 | bool b=>exact .bool b
 | str s=>exact .str s
 | nil=>exact .nil
 | raw v=>exact .raw v
 | sl rows=>exact dQ h
 | kI cs=>cases h
 | fn f cs=>cases h
theorem MT{E:Env}{K:Nat→Bool}{x:V}{v:Value}(h:Rel E x v):iD K (x.kill K):=by
 cases x with
 | kI cs=>
  obtain⟨vs,_,_,hc⟩:=h;intro x hx;obtain⟨y,hy,rfl⟩:=az4.1 hx;obtain⟨j,hj⟩:=aAr hy;grind[sS]
 | fn f cs=>
  obtain⟨vs,_,_,hc⟩:=h;simp only[V.kill]
  split
  ·trivial
  ·rename_i Nv
   intro x hx;obtain⟨j,hj⟩:=aAr hx;obtain⟨u,_,h2⟩:=hc j x hj;have h3:=fa (K:=K) h2;simp only[aBm,not_exists,not_and]at Nv;have h5:=Nv x hx;cases x<;>simp only[V.names,V.bz]at h3 h5<;>first | exact h3 | (simp[h5]at h3;exact h3) | (simpa [oC]using h5)
 | agg cs=>exact sS (K:=K) (x:=.agg cs) h
 | eA cs=>exact sS (K:=K) (x:=.eA cs) h
 | ref o n=>
  grind[V.kill,V.cc,V.bz,iD,C7,oC]
 | ptr o n i j=>
  grind[V.kill,V.cc,V.bz,iD,C7,oC]
 | rd rows=>exact fa (K:=K) (x:=.rd rows) h
 | cp row j=>exact fa (K:=K) (x:=.cp row j) h
 | dead=>trivial
 | int k n=>exact .int k n
 | bool b=>exact .bool b
 | str s=>exact .str s
 | nil=>exact .nil
 | raw v=>exact .raw v
 | sl rows=>exact dQ h
end Go.AL
namespace Go.AL
def okR(K:Nat→Bool):AR→Prop
 | .val p v=>p→iD K v
 | .new p ob _=>p→kC K ob
 | .H3 p _ ob=>p→kC K ob
 | .app p _ ob=>p→kC K ob
 | _=>True
section
variable {P:Program} {K:Nat→Bool} {e:Operand→V} {h:Nat→Option Ob}
theorem wK{x:V}{h:Nat→Option Ob}(hx:iD K x)(hs:x.fC h):∀y∈x.cells,oC K y∧(x.pure=true→bJ y):=by
 cases x with
 | agg cs=>exact fun y hy=>⟨fE (hx y hy),fun _=>hx y hy⟩
 | eA cs=>exact fun y hy=>⟨hx y hy,fun h=>by cases h⟩
 | kI vs=>exact hs.elim
 | fn f cs=>exact hs.elim
 | cp row j=>exact hs.elim
 | dead=>exact hs.elim
 | rd rows=>intro y hy;simp[V.cells]at hy;subst hy;exact⟨hx,fun h=>by cases h⟩
 | ref o n=>intro y hy;simp[V.cells]at hy;subst hy;exact⟨hx,fun h=>by cases h⟩
 | ptr o n i j=>intro y hy;simp[V.cells]at hy;subst hy;exact⟨hx,fun h=>by cases h⟩
 | int k n=>intro y hy;simp[V.cells]at hy;subst hy;exact⟨hx,fun _=>hx⟩
 | bool b=>intro y hy;simp[V.cells]at hy;subst hy;exact⟨hx,fun _=>hx⟩
 | str s=>intro y hy;simp[V.cells]at hy;subst hy;exact⟨hx,fun _=>hx⟩
 | nil=>intro y hy;simp[V.cells]at hy;subst hy;exact⟨hx,fun _=>hx⟩
 | raw v=>intro y hy;simp[V.cells]at hy;subst hy;exact⟨hx,fun _=>hx⟩
 | sl rows=>intro y hy;simp[V.cells]at hy;subst hy;exact⟨hx,fun _=>hx⟩
theorem oy(v:Value)(hv:v.oneCell'=true):bJ (.db v):=by
 unfold V.db
 split<;>first | exact .int _ _ | exact .bool _ | exact .str _ | exact .nil | (rw[azE hv];exact .raw _)
theorem fU{t:TypeId}{z:List V}(hz:eX P t=some z):∀x∈z,bJ x:=by
 unfold eX at hz
 split at hz<;>try (cases hz;done)
 split at hz<;>try (cases hz;done)
 rename_i v _ hc;cases hz;intro x hx;obtain⟨u,hu,rfl⟩:=az4.1 hx;simp only[azF]at hc;grind[oy]
theorem xL{α:Type}{es:Nat}:∀{m:Nat} {z:List α} {row:List α} {x:α},row∈cL es m z→x∈row→x∈z
 | 0,z,row,x,h,hx=>by grind[cL]
 | m+1,z,row,x,h,hx=>by
  simp only[cL,azW]at h;rcases h with rfl | h
  ·grind
  ·exact aA2 (xL h hx)
theorem D5{p:V→Prop}{row cs:List V}{j:Nat}(h1:∀x∈row,p x)(h2:∀x∈cs,p x):∀x∈putAt row j cs,p x:=by
 intro x hx;simp only[putAt,aAp]at hx;grind
theorem Ew{p:V→Prop}{place:Nat→Option (Nat×Nat)}:∀(parts:List (Nat×V)) (cs eL:List V),(∀x∈cs,p x)→(∀q∈parts,∀x∈q.2.cells,p x)→lE place cs parts=some eL→∀x∈eL,p x
 | [],cs,eL,h1,_,h=>by grind[lE]
 | (i,v)::parts,cs,eL,h1,h2,h=>by
  simp only[lE]at h
  split at h
  ·cases h
  split at h<;>try trivial
  exact Ew parts _ eL (D5 h1 (h2 (i,v) (by simp))) (fun q hq=>h2 q (by simp[hq])) h
theorem JS{t:TypeId}{p:Prop}{imp:Bool}{row:List V}{j:Nat}(aK:∀x∈row,oC K x∧(imp=false→bJ x)):okR K (fF P t p imp row j):=by
 unfold fF
 split
 ·cases imp with
  | false=>exact fun _ x hx=>(aK x (aA2 (aAY hx))).2 rfl
  | true=>exact fun _ x hx=>(aK x (aA2 (aAY hx))).1
 ·split
  ·split
   ·rename_i x hx
    split
    ·exact fun _=>Bg (aK x (azO hx)).1
    ·trivial
   ·trivial
  ·trivial
theorem JD(hh:∀p ob,h p=some ob→kC K ob){y:V}(hy:iD K y){rows:List (List V)}(hr:rowsOf h y=some rows):∀row∈rows,∀x∈row,bJ x:=by
 unfold rowsOf at hr
 split at hr<;>try (cases hr;done)
 ·grind
 ·cases hr;exact bJ.rows hy
 ·cases hr;exact hy
 ·grind
 ·split at hr<;>try (cases hr;done)
  rename_i ob ho
  split at hr<;>try (cases hr;done)
  rename_i hc;cases hr;exact fun row aK x hx=>(hh _ ob ho row aK x hx).2 hc.2
theorem afN{op:BinOp}{t:TypeId}{x y:V}{p:Prop}{v:V}(hb:GA P op t x y=some (p,v)):bJ v:=by
 unfold GA at hb
 split at hb
 ·split at hb
  ·cases op<;>simp only[Fy]at hb<;>(try (cases hb;done))<;>(simp only[azN,azY]at hb;rw[← hb.2];exact .int _ _)
  ·split at hb<;>try (cases hb;done)
   cases op<;>simp only[age]at hb<;>(try (cases hb;done))<;>(simp only[azN,azY]at hb;rw[← hb.2];first | exact .int _ _ | exact .bool _)
 ·split at hb<;>(try (cases hb;done))<;>(simp only[azN,azY]at hb;rw[← hb.2];exact .bool _)
 ·split at hb<;>try (cases hb;done)
  all_goals
   simp at hb;rcases hb with⟨_,_,rfl⟩ | ⟨_,_,rfl⟩<;>exact .bool _
 ·unfold uw at hb
  split at hb<;>(try (cases hb;done))<;>(simp only[azN,azY]at hb;rw[← hb.2];exact .bool _)
 ·unfold uw at hb
  split at hb<;>(try (cases hb;done))<;>(simp only[azN,azY]at hb;rw[← hb.2];exact .bool _)
 ·unfold uw at hb
  split at hb<;>(try (cases hb;done))<;>(simp only[azN,azY]at hb;rw[← hb.2];exact .bool _)
 ·unfold uw at hb
  split at hb<;>(try (cases hb;done))<;>(simp only[azN,azY]at hb;rw[← hb.2];exact .bool _)
 ·cases hb
theorem JR{parts:List (Nat×V)}(hk:∀q∈parts,iD K q.2)(hs:∀q∈parts,q.2.fC h):∀q∈parts,∀x∈q.2.cells,oC K x∧((!(parts.all (·.2.pure)))=false→bJ x):=by
 intro q hq x hx;obtain⟨h1,h2⟩:=wK (hk q hq) (hs q hq) x hx;grind
theorem XW{imp:Bool}{cs:List V}(hc:∀x∈cs,oC K x∧(imp=false→bJ x)):iD K (np imp cs):=by
 cases imp with
 | false=>exact fun x hx=>(hc x hx).2 rfl
 | true=>exact fun x hx=>(hc x hx).1
theorem aaC(o:Oper)(he:∀x∈o.op.operands.toList,iD K (e x))(hh:∀p ob,h p=some ob→kC K ob):okR K (gH P o e h):=by
 obtain⟨dst,op,ty,pos,after,guard⟩:=o;unfold gH;simp only at he ⊢;cases op<;>simp only[Op.operands]at he<;>(try dsimp only)<;>try trivial
 case move x=>exact fun _=>he x (by simp)
 case assign x=>exact fun _=>he x (by simp)
 case pick c a b=>
  split
  ·rename_i t ht
   intro _;grind
  ·trivial
 case alloc t=>
  unfold mY
  split
  ·rename_i z hz
   split
   ·split
    ·intro _ row aK x hx
     grind[fU,xL,fE]
    ·trivial
   intro _ row aK x hx;grind[fU,fE]
  ·trivial
 case box t x=>
  rintro⟨hs,_⟩ row aK y hy;grind[wK]
 case build t parts=>
  unfold iL
  split
  ·split
   ·rename_i z hz
    split
    ·rename_i cs uR
     intro hs;refine XW ?_;refine Ew (p:=fun x=>oC K x∧((!((parts.toList.map fun q=>(q.1,e q.2)).all (·.2.pure)))=false→bJ x)) _ z cs (fun x hx=>⟨fE (fU hz x hx),fun _=>fU hz x hx⟩) ?_ uR;exact JR (h:=h) (fun q hq=>by
      grind) hs
    ·trivial
   ·trivial
  ·trivial
 case buildSlice t len parts=>
  unfold cW
  split
  ·split
   ·intro hs row aK x hx
    obtain⟨q,hq,rfl⟩:=az4.1 aK;exact JR (h:=h) (fun q hq=>by
      grind) (fun q hq=>(hs q hq).1) q hq x hx
   ·trivial
  ·trivial
 case load t x=>
  split
  ·have hx:=he x (by simp)
   unfold iy
   split
   ·split
    ·rename_i ob ho
     split
     ·rename_i row aK
      exact JS (hh _ ob ho row (azO aK))
     ·trivial
    ·trivial
   ·rename_i row j gp
    rw[gp]at hx;exact JS fun y hy=>⟨fE (hx y hy),fun _=>hx y hy⟩
   ·trivial
  ·trivial
 case store t x y=>
  split
  ·unfold fh
   split
   ·split
    ·rename_i ob ho
     split
     ·rename_i row aK
      rintro⟨_,hs,_⟩ r hr z hz;simp only at hr;have hy:=wK (he y (by simp)) hs;have hold:=hh _ ob ho;have hpa:∀jj,∀q∈putAt row jj (e y).cells,oC K q∧((ob.imp || !(e y).pure)=false→bJ q):=
       fun jj=>D5 (fun q hq=>⟨(hold row (azO aK) q hq).1,fun hi=>(hold row (azO aK) q hq).2 (by grind)⟩)
        (fun q hq=>⟨(hy q hq).1,fun hi=>(hy q hq).2 (by grind)⟩)
      rcases List.mem_or_eq_of_mem_set hr with h1 | h1
      ·exact⟨(hold r h1 z hz).1,fun hi=>(hold r h1 z hz).2 (by grind)⟩
      grind
     ·trivial
    ·trivial
   ·trivial
  ·trivial
 case binOp op t x y yt=>
  split
  ·rename_i p v hb
   exact fun _=>oB (afN hb)
  ·trivial
 case unOp op t x=>
  cases op<;>dsimp only<;>(try trivial)<;>split<;>first | trivial | exact fun _=>.bool _ | exact fun _=>.int _ _
 case convert s d x=>
  split
  ·split
   ·exact fun _=>.int _ _
   ·trivial
  ·trivial
 case slice t x lo hi mx=>
  cases mx with
  | some m=>trivial
  | none=>
   dsimp only
   have hx:=he x (by simp);unfold ez
   split
   ·trivial
   split
   ·trivial
   split
   ·trivial
   ·split
    ·rename_i gp;rw[gp]at hx;exact fun _=>.sl _ fun r hr=>bJ.rows hx r (aAY hr)
    ·rename_i gp;rw[gp]at hx;exact fun _ r hr=>hx r (aAY hr)
    ·exact fun _=>bJ.nil
    ·trivial
   ·split
    ·rename_i gp;rw[gp]at hx;exact fun _=>.sl _ fun r hr=>bJ.rows hx r (aA2 hr)
    ·rename_i gp;rw[gp]at hx;exact fun _ r hr=>hx r (aA2 hr)
    ·exact fun _=>bJ.nil
    ·trivial
   ·split
    ·rename_i gp;rw[gp]at hx;exact fun _=>.sl _ fun r hr=>bJ.rows hx r (aAY (aA2 hr))
    ·rename_i gp;rw[gp]at hx;exact fun _ r hr=>hx r (aAY (aA2 hr))
    ·exact fun _=>bJ.nil
    ·trivial
   ·trivial
 case fieldAddr t x f=>
  have hx:=he x (by simp);unfold dd
  split
  ·rename_i gp
   rw[gp]at hx
   split
   ·split
    ·exact fun _=>hx
    ·trivial
   ·trivial
  ·rename_i gp
   rw[gp]at hx
   split
   ·exact fun _=>hx
   ·trivial
  ·trivial
 case field t x f=>
  have hx:=he x (by simp);unfold kH
  split
  ·rename_i gp
   rw[gp]at hx
   split
   ·split
    ·exact fun _ y hy=>hx y (aA2 (aAY hy))
    ·split
     ·split
      ·rename_i y hy
       exact fun _=>oB (hx y (azO hy))
      ·trivial
     ·trivial
   ·trivial
  ·trivial
 case indexAddr t x i=>
  have hx:=he x (by simp)
  split
  ·unfold dG
   split
   ·split
    ·trivial
    ·split
     ·rename_i gp
      rw[gp]at hx
      split
      ·exact fun _=>hx
      ·trivial
     ·trivial
   ·trivial
  ·unfold dZ
   split
   ·split
    ·trivial
    ·split
     ·rename_i gp
      rw[gp]at hx
      split
      ·exact fun _=>hx
      ·trivial
     ·trivial
   ·trivial
  ·unfold dy
   split
   ·split
    ·trivial
    ·split
     ·rename_i gp
      rw[gp]at hx
      split
      ·rename_i row aK
       exact fun _ y hy=>bJ.rows hx row (azO aK) y hy
      ·trivial
     ·rename_i gp
      rw[gp]at hx
      split
      ·rename_i row aK
       exact fun _ y hy=>hx row (azO aK) y hy
      ·trivial
     ·trivial
   ·trivial
 case extract x i=>
  have hx:=he x (by simp)
  split
  ·rename_i gp
   rw[gp]at hx
   split
   ·rename_i v hv
    exact fun _=>Bh (hx v (azO hv))
   ·trivial
  ·trivial
 case makeFunc fn first aw=>
  cases fn<;>dsimp only<;>try trivial
  split
  ·rename_i hc
   intro _ x hx;obtain⟨y,hy,rfl⟩:=az4.1 hx;have h1:=he y (by grind);have h2:=azU.1 hc.2 (e y) (az4.2 ⟨y,hy,rfl⟩);generalize e y=v at h1 h2;cases v<;>first | exact h1 | (simp[V.KU]at h2)
  ·trivial
 case nilCheck x=>
  have hx:=he x (by simp)
  split
  ·rename_i gp
   rw[gp]at hx;exact fun _=>hx
  ·trivial
 case makeSlice t l c=>
  unfold nu
  split
  ·split
   ·rename_i z hz
    split
    ·intro _ row aK x hx
     grind[fE,fU]
    ·trivial
   ·trivial
  ·trivial
 case call c=>
  obtain⟨callee,args,argTypes⟩:=c;have cZ:∀x∈args.toList,iD K (e x):=fun x hx=>he x (by simp[Call.operands];exact .inr (by grind))
  unfold fi
  dsimp only
  cases callee with
  | value f=>
   dsimp only
   split
   ·split<;>trivial
   ·trivial
  | invoke r m=>trivial
  | builtin b=>
   cases b<;>dsimp only<;>try trivial
   case append=>
    split
    ·rename_i x y t t' hl ht
     split
     ·unfold dM
      split
      ·rename_i e2 new he2 bF
       have wT:=JD hh (cZ y (by simp[hl])) bF
       split
       ·trivial
       ·split
        ·exact fun _ row aK z hz=>⟨fE (wT row aK z hz),fun _=>wT row aK z hz⟩
        ·split
         ·rename_i ob ho
          intro _ row aK z hz;rcases aAp.1 aK with h1 | h1
          ·exact hh _ ob ho row h1 z hz
          grind[fE]
         ·trivial
        ·trivial
      ·trivial
     ·trivial
    ·trivial
   case len=>
    split
    ·split
     ·exact fun _=>.int _ _
     ·split
      ·exact fun _=>.int _ _
      ·trivial
    ·trivial
   case max=>
    split
    ·rename_i v hv
     intro _;unfold ahq at hv
     split at hv<;>try (cases hv;done)
     split at hv<;>try (cases hv;done)
     cases hv
     exact .int _ _
    ·trivial
   case min=>
    split
    ·rename_i v hv
     intro _;unfold ahp at hv
     split at hv<;>try (cases hv;done)
     split at hv<;>try (cases hv;done)
     cases hv
     exact .int _ _
    ·trivial
end
end Go.AL
namespace Go.AL
def RD.deep:RD→Prop
 | .v x=>iD (fun _=>true) x
 | .o _ _ rows=>∀row∈rows,∀x∈row,bJ x
def zc(P:Program)(n:Nat)(o:Oper)(Φ:St→Prop)(s:St):Prop:=
 dOK n o.dst∧match gH P o s.ev s.h with
  | .val p v=>p∧Φ (s.put o.dst v)
  | .new p ob r=>match o.dst with
   | some d=>p∧(Φ (s.new d ob (if r then .ref d ob.rows.length else .ptr d ob.rows.length 0 0))∨(r=true∧ob.imp=false∧Φ (s.FR d ob)))
   | none=>False
  | .H3 p q ob=>p∧Φ ((s.bQ q ob).put o.dst .dead)
  | .app p q ob=>p∧Φ ((s.bQ q ob).put o.dst (.ref q ob.rows.length))
  | .call g args=>∃dk Pd,EW P g dk Pd∧kG s.h args dk∧∀rds,Pd rds→(∀rd∈rds,rd.deep)∧Φ (s.call o.dst rds)
  | .bad=>False
def EU(n:Nat)(o:Oper)(Φ:St→Prop)(s:St):Prop:=dOK n o.dst∧Φ (s.put o.dst (.kI []))
def ec(P:Program)(n:Nat)(ops:Array Oper)(o:Oper)(Φ:St→Prop)(s:St):Prop:=
 match Ge ops o s with
 | none=>zc P n o Φ s
 | some (.bool b,want)=>(b=want→zc P n o Φ s)∧(b = !want→EU n o Φ s)
 | some (.kI _,_)=>EU n o Φ s
 | _=>False
theorem xq{P:Program}{n:Nat}{ops:Array Oper}{o:Oper}{Φ:St→Prop}{s:St}(h:ec P n ops o Φ s):
  (zc P n o Φ s∧∀Ψ s',Ge ops o s'=Ge ops o s→zc P n o Ψ s'→ec P n ops o Ψ s')∨(EU n o Φ s∧∀Ψ s',Ge ops o s'=Ge ops o s→EU n o Ψ s'→ec P n ops o Ψ s'):=by
 unfold ec at h
 split at h
 ·grind[ec]
 ·rename_i b want hg
  by_cases hb:b=want
  ·grind[ec]
  ·have nC:b = !want:=by cases b<;>cases want<;>simp_all
   grind[ec]
 all_goals grind[ec]
theorem UI{P:Program}{n:Nat}{o:Oper}{Φ Ψ:St→Prop}{s:St}(hm:∀s,Φ s→Ψ s)(h:zc P n o Φ s):zc P n o Ψ s:=by
 grind[zc]
theorem CF{P:Program}{n:Nat}{ops:Array Oper}{o:Oper}{Φ Ψ:St→Prop}{s:St}(hm:∀s,Φ s→Ψ s)(h:ec P n ops o Φ s):ec P n ops o Ψ s:=by
 rcases xq h with⟨h1,h2⟩ | ⟨h1,h2⟩
 ·grind[UI]
 ·exact h2 Ψ s rfl ⟨h1.1,hm _ h1.2⟩
inductive Kind where
 | plain
 | look
 | alloc
 | box
 | uP
 deriving DecidableEq
def bN:Op→Kind
 | .move _ | .assign _ | .pick .. | .binOp .. | .unOp .. | .convert .. | .slice .. | .field .. | .extract .. | .makeFunc ..=>.plain
 | .load .. | .fieldAddr .. | .indexAddr .. | .nilCheck _ | .build ..=>.look
 | .call {callee:=.builtin .len,.. } | .call {callee:=.builtin .max,.. } | .call {callee:=.builtin .min,.. }=>.look
 | .alloc _=>.alloc
 | .box .. | .buildSlice ..=>.box
 | _=>.uP
def writes:Op→Bool
 | .store ..=>true
 | .call {callee:=.builtin _,.. }=>true
 | _=>false
theorem jH{P:Program}{o:Oper}{e:Operand→V}{h:Nat→Option Ob}(hk:bN o.op=.plain∨bN o.op=.look):(∃p v,gH P o e h=.val p v)∨gH P o e h=.bad:=by
 have ld:∀(t:TypeId) (p:Prop) (imp:Bool) (row:List V) (j:Nat),(∃q v,fF P t p imp row j=.val q v)∨fF P t p imp row j=.bad:=by
  grind[fF]
 have vb:∀(p:Prop) (v:V),(∃q w,AR.val p v=.val q w)∨AR.val p v=.bad:=fun p v=>.inl ⟨p,v,rfl⟩
 have bb:(∃q w,AR.bad=.val q w)∨AR.bad=.bad:=.inr rfl;obtain⟨dst,op,ty,pos,after,guard⟩:=o;unfold gH;cases op<;>simp only[bN]at hk<;>(try (rcases hk with hk | hk<;>cases hk;done))<;>dsimp only
 case move=>grind
 case assign=>grind
 case pick=>grind
 case build=>
  grind[iL]
 case load=>
  split
  ·unfold iy
   grind
  ·exact bb
 case binOp=>grind
 case unOp op t x=>grind
 case convert=>
  grind
 case slice t x lo hi mx=>
  cases mx<;>dsimp only
  all_goals grind[ez]
 case fieldAddr=>
  unfold dd
  grind
 case field=>
  unfold kH
  grind
 case indexAddr=>
  split
  ·unfold dG
   grind
  ·unfold dZ
   grind
  ·unfold dy
   grind
 all_goals grind[fi]
theorem jI{P:Program}{o:Oper}{e:Operand→V}{h:Nat→Option Ob}(hk:bN o.op=.alloc∨bN o.op=.box):(∃p ob r,gH P o e h=.new p ob r)∨gH P o e h=.bad:=by
 obtain⟨dst,op,ty,pos,after,guard⟩:=o;unfold gH;cases op<;>simp only[bN]at hk<;>(try (rcases hk with hk | hk<;>cases hk;done))<;>dsimp only
 all_goals grind[mY,cW]
theorem Ej{P:Program}{o:Oper}{e e':Operand→V}{h h':Nat→Option Ob}(hk:bN o.op=.plain∨bN o.op=.alloc)(he:∀x∈o.op.operands.toList,e x=e' x):gH P o e h=gH P o e' h':=by
 obtain⟨dst,op,ty,pos,after,guard⟩:=o;unfold gH;simp only at he ⊢;cases op<;>simp only[bN]at hk<;>(try (rcases hk with hk | hk<;>cases hk;done))<;>simp only[Op.operands]at he<;>(try dsimp only)
 case move x=>grind
 case assign x=>grind
 case pick c a b=>grind
 case binOp op t x y yt=>grind
 case unOp op t x=>grind
 case convert s d x=>grind
 case slice t x lo hi mx=>
  cases mx<;>simp only[]
  rw[he x (by simp)];have h1:lo.map e=lo.map e':=by cases lo with | none=>rfl | some z=>simp;exact he z (by simp)
  have h2:hi.map e=hi.map e':=by cases hi with | none=>rfl | some z=>simp;exact he z (by simp)
  rw[h1,h2]
 case field t x f=>grind
 case extract x i=>grind
 case makeFunc fn first aw=>
  cases fn<;>simp only[]
  have hc:aw.toList.map e=aw.toList.map e':=aAA fun x hx=>he x (by grind)
  rw[hc]
 grind
def St.oS(s:St)(dst:Option Nat)(v:V)(obo:Option Ob):St:=
 match dst,obo with
 | some d,some ob=>⟨fun i=>if i=d then v else s.t i,fun p=>if p=d then some ob else s.h p⟩
 | dst,_=>s.put dst v
theorem lG(s:St)(dst:Option Nat)(v:V):s.oS dst v none=s.put dst v:=by cases dst<;>rfl
theorem wo.PR{K:Nat→Bool}{s:St}(hs:wo K s){d:Nat}(hd:K d=true){ob:Ob}(cR:kC K ob)(v:V):s.new d ob v=s.oS (some d) v (some ob):=by
 have hm:∀p,(p == d)=true→K p=true:=fun p hp=>by have:p=d:=(by grind);rw[this];exact hd
 have F3:=hs.mono (K':=(· == d)) hm;have atw:kC (· == d) ob:=fun row hr x hx=>⟨eI hm (cR row hr x hx).1,(cR row hr x hx).2⟩
 unfold St.new St.oS eT
 congr 1
 ·funext i
  by_cases hi:i=d
  ·simp[hi]
  ·simp only[azD hi];exact e9 (F3.t i)
 ·funext p
  by_cases hp:p=d
  ·simp only[azE hp];rw[dY atw]
  ·simp only[azD hp]
   cases hh:s.h p with
   | none=>rfl
   | some bE=>simp only[az7];rw[dY (F3.h p bE hh)]
theorem wo.uy{K:Nat→Bool}{s:St}(hs:wo K s){d:Nat}(hd:K d=true)(ob:Ob):s.FR d ob=s.put (some d) (.sl ob.rows):=by
 have hm:∀p,(p == d)=true→K p=true:=fun p hp=>by have:p=d:=(by grind);rw[this];exact hd
 have F3:=hs.mono (K':=(· == d)) hm;unfold St.FR St.put;simp only
 congr 1
 ·funext i
  by_cases hi:i=d
  ·simp[hi]
  ·simp only[azD hi,St.new];rw[e9 (F3.t i)];exact e9 (F3.t i)
 ·funext p
  unfold ko;by_cases hp:p=d
  ·rw[azE hp,hp,hs.n d hd]
  ·simp only[azD hp,St.new,eT]
   cases hh:s.h p with
   | none=>rfl
   | some bE=>simp only[az7];rw[dY (F3.h p bE hh),dY (F3.h p bE hh)]
theorem kC.sl{K:Nat→Bool}{ob:Ob}(h:kC K ob)(himp:ob.imp=false):bJ (.sl ob.rows):=.sl _ fun row hr x hx=>(h row hr x hx).2 himp
def minus(K:Nat→Bool)(dst:Option Nat):Nat→Bool:=fun p=>K p&&!(dst == some (p % 1000))
theorem dJ{K:Nat→Bool}{dst:Option Nat}:∀p,minus K dst p=true→K p=true:=fun p h=>by
 simp only[minus,azF]at h;exact h.1
