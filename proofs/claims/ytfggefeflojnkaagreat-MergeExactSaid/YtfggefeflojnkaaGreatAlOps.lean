/- AI. -/
import Derived.Test.YtfggefeflojnkaaGreatA0
import Derived.WalkKit
import Derived.Below
import Derived.Deep.MidRow
import Derived.Laws.AppendOwn
import Derived.Great.BuildSlice
import Derived.Laws.StructEq
import Derived.Laws.MakeOwn
import Derived.WalkLawsBesides
namespace Go.AL
inductive V where
 | int (k:IntKind) (n:Int)
 | bool (b:Bool)
 | str (s:ByteArray)
 | nil
 | sl (rows:List (List V))
 | rd (rows:List (List V))
 | ref (o n:Nat)
 | ptr (o n i j:Nat)
 | cp (row:List V) (j:Nat)
 | agg (cs:List V)
 | eA (cs:List V)
 | kI (vs:List V)
 | raw (v:Value)
 | fn (f:FuncId) (aw:List V)
 | dead
structure Ob where
 ty:TypeId
 es:Nat
 imp:Bool
 rows:List (List V)
structure St where
 t:Nat→V
 h:Nat→Option Ob
inductive aY (w:World) (A:Nat→Prop):V→Value→Prop
 | int (k:IntKind) (n:Int):aY w A (.int k n) (.int k n)
 | bool (b:Bool):aY w A (.bool b) (.bool b)
 | str (s:ByteArray):aY w A (.str s) (.string s)
 | nil:aY w A .nil (.slice none 0 0)
 | slnil (a:Option Addr):aY w A (.sl []) (.slice a 0 0)
 | sl (rows:List (List V)) (b off cap es:Nat) (f:Nat→Nat→Value) (jM:rows.length≤cap)
   (hb:rows ≠ []→b<w.heap.size∧¬ A b) (bI:∀row∈rows,row.length=es)
   (hc:∀(i:Nat) (row:List V),rows[i]? = some row→∀(j:Nat) (x:V),row[j]? = some x→w.cell? ⟨b,off+i*es+j,none⟩=some (f i j))
   (hr:∀(i:Nat) (row:List V),rows[i]? = some row→∀(j:Nat) (x:V),row[j]? = some x→aY w A x (f i j)) :
   aY w A (.sl rows) (.slice (some ⟨b,off,none⟩) rows.length cap)
 | raw (v:Value) (h1:v.oneCell'=true):aY w A (.raw v) v
theorem aY.gT{w:World}{A:Nat→Prop}{x:V}{v:Value}(h:aY w A x v):v.oneCell'=true:=by
 cases h<;>first | rfl | assumption
def gF(w:World)(A X:Nat→Prop)(rows:List (List V))(v:Value):Prop:=
 ((∃a,v=.slice a 0 0)∧rows=[])∨
 ∃(b off cap es:Nat) (f:Nat→Nat→Value),v=.slice (some ⟨b,off,none⟩) rows.length cap∧rows.length≤cap∧
  (rows ≠ []→b<w.heap.size∧¬ X b)∧(∀row∈rows,row.length=es)∧
  (∀(i:Nat) (row:List V),rows[i]? = some row→∀(j:Nat) (x:V),row[j]? = some x→w.cell? ⟨b,off+i*es+j,none⟩=some (f i j))∧
  (∀(i:Nat) (row:List V),rows[i]? = some row→∀(j:Nat) (x:V),row[j]? = some x→aY w A x (f i j))
theorem me{w:World}{A:Nat→Prop}{rows:List (List V)}{v:Value}:aY w A (.sl rows) v↔gF w A A rows v:=by
 constructor
 ·intro h
  cases h with
  | slnil a=>exact .inl ⟨⟨a,rfl⟩,rfl⟩
  | sl _ b off cap es f jM hb bI hc hr=>exact .inr ⟨b,off,cap,es,f,rfl,jM,hb,bI,hc,hr⟩
 ·rintro(⟨⟨a,rfl⟩,rfl⟩ | ⟨b,off,cap,es,f,rfl,jM,hb,bI,hc,hr⟩)
  ·exact .slnil a
  ·exact .sl rows b off cap es f jM hb bI hc hr
structure Env where
 w:World
 A:Nat→Prop
 h:Nat→Option Ob
 β:Nat→Option Nat
def Env.M(E:Env)(b:Nat):Prop:=∃o ob,E.h o=some ob∧E.β o=some b
def QM(E:Env)(ob:Ob)(bo:Option Nat)(n:Nat)(v:Value):Prop:=
 n≤ob.rows.length∧(n=ob.rows.length→match bo with
  | none=>v=.slice none 0 0
  | some b=>∃cap cur,v=.slice (some ⟨b,0,none⟩) n cap∧n≤cap∧cap≤maxLen∧E.w.heap[b]? = some (.cells cur ob.ty (0,0))∧cur.size=cap*ob.es)
def arf(ob:Ob)(bo:Option Nat)(n i j:Nat)(v:Value):Prop:=
 n≤ob.rows.length∧(n=ob.rows.length→∃b,bo=some b∧v=.pointer (some ⟨b,i*ob.es+j,none⟩))
def bw(E:Env):V→Value→Prop
 | .rd rows,v=>gF E.w E.A E.M rows v
 | .ref o n,v=>∀ob,E.h o=some ob→QM E ob (E.β o) n v
 | .ptr o n i j,v=>∀ob,E.h o=some ob→arf ob (E.β o) n i j v
 | .cp row j,v=>∃(b off:Nat) (f:Nat→Value),v=.pointer (some ⟨b,off+j,none⟩)∧b<E.w.heap.size∧¬ E.M b∧
   (∀(k:Nat) (x:V),row[k]? = some x→E.w.cell? ⟨b,off+k,none⟩=some (f k))∧(∀(k:Nat) (x:V),row[k]? = some x→aY E.w E.A x (f k))
 | .dead,_=>True
 | x,v=>aY E.w E.A x v
def cD(E:Env):V→Value→Prop
 | .agg cs,v=>∃vs,v=.agg vs∧vs.size=cs.length∧∀(i:Nat) (x:V),cs[i]? = some x→∃u,vs[i]? = some u∧aY E.w E.A x u
 | .eA cs,v=>∃vs,v=.agg vs∧vs.size=cs.length∧∀(i:Nat) (x:V),cs[i]? = some x→∃u,vs[i]? = some u∧u.oneCell'=true∧bw E x u
 | x,v=>bw E x v
def Rel(E:Env):V→Value→Prop
 | .kI xs,v=>∃vs,v=.tuple vs∧vs.size=xs.length∧∀(i:Nat) (x:V),xs[i]? = some x→∃u,vs[i]? = some u∧cD E x u
 | .fn f cs,v=>∃vs,v=.func (.func f) #[] vs∧vs.size=cs.length∧∀(i:Nat) (x:V),cs[i]? = some x→∃u,vs[i]? = some u∧bw E x u
 | x,v=>cD E x v
def si(E:Env)(ob:Ob):Option Nat→Prop
 | none=>ob.rows=[]
 | some b=>E.A b∧∃cur,E.w.heap[b]? = some (.cells cur ob.ty (0,0))∧(∀row∈ob.rows,row.length=ob.es)∧ob.rows.length*ob.es≤cur.size∧
   ∀(i:Nat) (row:List V),ob.rows[i]? = some row→∀(j:Nat) (x:V),row[j]? = some x→
    ∃v,cur[i*ob.es+j]? = some v∧v.oneCell'=true∧bw E x v∧(ob.imp=false→aY E.w E.A x v)
structure bU (E:Env):Prop where
 ok:∀o ob,E.h o=some ob→si E ob (E.β o)
 inj:∀o o' ob ob' b,E.h o=some ob→E.h o'=some ob'→E.β o=some b→E.β o'=some b→o=o'
 lt:∀b,E.A b→b<E.w.heap.size
theorem bU.mA{E:Env}(H:bU E){b:Nat}(h:E.M b):E.A b:=by
 obtain⟨o,ob,ho,hb⟩:=h;have:=H.ok o ob ho;rw[hb]at this;exact this.1
def cz(X:Nat→Prop)(w w':World):Prop:=∀b,b<w.heap.size→¬ X b→w'.heap[b]? = w.heap[b]?
theorem cz.cell{X:Nat→Prop}{w w':World}(h:cz X w w'){b:Nat}(hb:b<w.heap.size)(hX:¬ X b)(o:Nat):w'.cell? ⟨b,o,none⟩=w.cell? ⟨b,o,none⟩:=by
 simp[World.cell?,h b hb hX]
theorem aY.frame{w w':World}{A A':Nat→Prop}(hw:cz A w w')(hs:w.heap.size≤w'.heap.size)(hA:∀b,b<w.heap.size→A' b→A b){x:V}{v:Value}
  (h:aY w A x v):aY w' A' x v:=by
 induction h with
 | int k n=>exact .int k n
 | bool b=>exact .bool b
 | str s=>exact .str s
 | nil=>exact .nil
 | slnil a=>exact .slnil a
 | raw v h1=>exact .raw v h1
 | sl rows b off cap es f jM hb bI hc _ ih=>
  refine .sl rows b off cap es f jM (fun dU=>?_) bI (fun i row hi j x hx=>?_) (fun i row hi j x hx=>ih i row hi j x hx)
  ·grind
  ·have dU:rows ≠ []:=fun e=>by rw[e]at hi;simp at hi
   obtain⟨h1,h2⟩:=hb dU;rw[hw.cell h1 h2];grind
theorem gF.frame{w w':World}{A A' X X':Nat→Prop}(hw:cz A w w')(hwX:cz X w w')(hs:w.heap.size≤w'.heap.size)(hA:∀b,b<w.heap.size→A' b→A b)(hX:∀b,b<w.heap.size→X' b→X b)
  {rows:List (List V)} {v:Value} (h:gF w A X rows v):gF w' A' X' rows v:=by
 rcases h with h | ⟨b,off,cap,es,f,hv,jM,hb,bI,hc,hr⟩
 ·exact .inl h
 ·refine .inr ⟨b,off,cap,es,f,hv,jM,fun dU=>?_,bI,fun i row hi j x hx=>?_,fun i row hi j x hx=>(hr i row hi j x hx).frame hw hs hA⟩
  ·grind
  ·have dU:rows ≠ []:=fun e=>by rw[e]at hi;simp at hi
   obtain⟨h1,h2⟩:=hb dU;rw[hwX.cell h1 h2];grind
def V.bz(K:Nat→Bool):V→V
 | .ref p n=>if K p then .dead else .ref p n
 | .ptr p n i j=>if K p then .dead else .ptr p n i j
 | x=>x
def V.names(K:Nat→Bool):V→Bool
 | .ref p _=>K p
 | .ptr p _ _ _=>K p
 | _=>false
def V.cc(K:Nat→Bool):V→V
 | .eA cs=>.eA (cs.map (V.bz K))
 | x=>x.bz K
def V.kill(K:Nat→Bool):V→V
 | .kI vs=>.kI (vs.map (V.cc K))
 | .fn f cs=>if cs.any (V.names K)then .dead else .fn f cs
 | x=>x.cc K
def Ob.kill(K:Nat→Bool)(ob:Ob):Ob:=if ob.imp then {ob with rows:=ob.rows.map (·.map (V.bz K)) } else ob
def St.kill(K:Nat→Bool)(s:St):St:=⟨fun i=>(s.t i).kill K,fun p=>if K p then none else(s.h p).map (Ob.kill K)⟩
theorem Ob.gU(K:Nat→Bool)(ob:Ob):(ob.kill K).ty=ob.ty:=by grind[Ob.kill]
theorem Ob.eP(K:Nat→Bool)(ob:Ob):(ob.kill K).es=ob.es:=by grind[Ob.kill]
theorem Ob.uD(K:Nat→Bool)(ob:Ob):(ob.kill K).imp=ob.imp:=by grind[Ob.kill]
theorem Ob.dg(K:Nat→Bool)(ob:Ob):(ob.kill K).rows.length=ob.rows.length:=by grind[Ob.kill]
structure Step (E E':Env):Prop where
 agree:cz E.M E.w E'.w
 size:E.w.heap.size≤E'.w.heap.size
 A:∀b,b<E.w.heap.size→E'.A b→E.A b
 M:∀b,b<E.w.heap.size→E'.M b→E.M b
def qJ(E E':Env)(o:Nat):Prop:=∀ob',E'.h o=some ob'→∃ob,E.h o=some ob∧ob.rows.length≤ob'.rows.length∧
 (ob'.rows.length=ob.rows.length→E'.β o=E.β o∧ob'.es=ob.es∧ob'.ty=ob.ty∧
  ∀b cur,E.β o=some b→E.w.heap[b]? = some (.cells cur ob.ty (0,0))→∃cur',E'.w.heap[b]? = some (.cells cur' ob.ty (0,0))∧cur'.size=cur.size)
theorem cz.mono{X Y:Nat→Prop}{w w':World}(h:cz X w w')(hXY:∀b,X b→Y b):cz Y w w':=fun b hb hY=>h b hb (fun hX=>hY (hXY b hX))
section
variable {E E':Env} (H:bU E) (S:Step E E')
include H S
theorem aY.step{x:V}{v:Value}(h:aY E.w E.A x v):aY E'.w E'.A x v:=
 h.frame (S.agree.mono (fun _ h=>H.mA h)) S.size S.A
theorem bw.step{x:V}{v:Value}(K:Nat→Bool)(hk:∀p,K p=false→qJ E E' p)(h:bw E x v):bw E' (x.bz K) v:=by
 cases x with
 | rd rows=>exact gF.frame (S.agree.mono (fun _ h=>H.mA h)) S.agree S.size S.A S.M h
 | ref p n=>
  simp only[V.bz]
  split
  ·trivial
  ·rename_i hp
   intro ob' dT;obtain⟨ob,ho,hle,BL⟩:=hk p (by grind) ob' dT;obtain⟨h1,h2⟩:=h ob ho;refine⟨az0 h1 hle,fun hn=>?_⟩;grind
 | ptr p n i j=>
  simp only[V.bz]
  split
  ·trivial
  ·rename_i hp
   intro ob' dT;obtain⟨ob,ho,hle,BL⟩:=hk p (by grind) ob' dT;obtain⟨h1,h2⟩:=h ob ho;refine⟨az0 h1 hle,fun hn=>?_⟩;grind
 | cp row j=>
  obtain⟨b,off,f,hv,hb,hM,hc,hr⟩:=h;refine⟨b,off,f,hv,az3 hb S.size,fun h=>hM (S.M b hb h),fun k x hx=>?_,fun k x hx=>(hr k x hx).step H S⟩;rw[S.agree.cell hb hM];grind
 | dead=>trivial
 | int k n=>exact aY.step H S h
 | bool b=>exact aY.step H S h
 | str s=>exact aY.step H S h
 | nil=>exact aY.step H S h
 | sl rows=>exact aY.step H S h
 | agg cs=>exact aY.step H S h
 | eA cs=>exact aY.step H S h
 | kI vs=>exact aY.step H S h
 | raw v=>exact aY.step H S h
 | fn f aw=>exact aY.step H S h
theorem cD.step{x:V}{v:Value}(K:Nat→Bool)(hk:∀p,K p=false→qJ E E' p)(h:cD E x v):cD E' (x.cc K) v:=by
 cases x with
 | agg cs=>
  obtain⟨vs,hv,hs,hc⟩:=h;exact⟨vs,hv,hs,fun i x hx=>let ⟨u,h1,h2⟩:=hc i x hx;⟨u,h1,h2.step H S⟩⟩
 | eA cs=>
  obtain⟨vs,hv,hs,hc⟩:=h;refine⟨vs,hv,by simpa using hs,fun i x hx=>?_⟩;rw[aAv]at hx;cases hi:cs[i]? with
  | none=>grind
  | some y=>
   simp[hi]at hx;subst hx;obtain⟨u,h1,h2,h3⟩:=hc i y hi;exact⟨u,h1,h2,h3.step H S K hk⟩
 | int k n=>exact bw.step (x:=.int k n) H S K hk h
 | bool b=>exact bw.step (x:=.bool b) H S K hk h
 | str s=>exact bw.step (x:=.str s) H S K hk h
 | nil=>exact bw.step (x:=.nil) H S K hk h
 | sl rows=>exact bw.step (x:=.sl rows) H S K hk h
 | rd rows=>exact bw.step (x:=.rd rows) H S K hk h
 | ref p n=>
  have h2:bw E' ((V.ref p n).bz K) v:=bw.step (x:=.ref p n) H S K hk h;by_cases hp:K p=true
  ·simp only[V.cc,V.bz,azE hp];trivial
  ·simp only[V.cc,V.bz,azD hp]at h2 ⊢;exact h2
 | ptr p n i j=>
  have h2:bw E' ((V.ptr p n i j).bz K) v:=bw.step (x:=.ptr p n i j) H S K hk h;by_cases hp:K p=true
  ·simp only[V.cc,V.bz,azE hp];trivial
  ·simp only[V.cc,V.bz,azD hp]at h2 ⊢;exact h2
 | cp row j=>exact bw.step (x:=.cp row j) H S K hk h
 | kI xs=>exact bw.step (x:=.kI xs) H S K hk h
 | raw u=>exact bw.step (x:=.raw u) H S K hk h
 | fn f cs=>exact bw.step (x:=.fn f cs) H S K hk h
 | dead=>trivial
theorem Rel.step{x:V}{v:Value}(K:Nat→Bool)(hk:∀p,K p=false→qJ E E' p)(h:Rel E x v):Rel E' (x.kill K) v:=by
 cases x with
 | kI xs=>
  obtain⟨vs,hv,hs,hc⟩:=h;refine⟨vs,hv,by simpa using hs,fun i x hx=>?_⟩;rw[aAv]at hx;cases hi:xs[i]? with
  | none=>grind
  | some y=>
   simp[hi]at hx;subst hx;obtain⟨u,h1,h3⟩:=hc i y hi;exact⟨u,h1,h3.step H S K hk⟩
 | fn f cs=>
  simp only[V.kill]
  split
  ·trivial
  ·rename_i Nv
   obtain⟨vs,hv,hs,hc⟩:=h;refine⟨vs,hv,hs,fun i x hx=>?_⟩;obtain⟨u,h1,h3⟩:=hc i x hx;have hm:=azO hx;simp only[aBm,not_exists,not_and]at Nv;have h5:=Nv x hm;have h6:=h3.step H S K hk;refine⟨u,h1,?_⟩;cases x<;>simp only[V.names,V.bz]at h5 h6<;>first | exact h6 | (rw[azD h5]at h6;exact h6)
 | int k n=>exact cD.step (x:=.int k n) H S K hk h
 | bool b=>exact cD.step (x:=.bool b) H S K hk h
 | str s=>exact cD.step (x:=.str s) H S K hk h
 | nil=>exact cD.step (x:=.nil) H S K hk h
 | sl rows=>exact cD.step (x:=.sl rows) H S K hk h
 | rd rows=>exact cD.step (x:=.rd rows) H S K hk h
 | ref p n=>
  have h2:cD E' ((V.ref p n).cc K) v:=cD.step (x:=.ref p n) H S K hk h;by_cases hp:K p=true
  ·simp only[V.kill,V.cc,V.bz,azE hp];trivial
  ·simp only[V.kill,V.cc,V.bz,azD hp]at h2 ⊢;exact h2
 | ptr p n i j=>
  have h2:cD E' ((V.ptr p n i j).cc K) v:=cD.step (x:=.ptr p n i j) H S K hk h;by_cases hp:K p=true
  ·simp only[V.kill,V.cc,V.bz,azE hp];trivial
  ·simp only[V.kill,V.cc,V.bz,azD hp]at h2 ⊢;exact h2
 | cp row j=>exact cD.step (x:=.cp row j) H S K hk h
 | agg cs=>exact cD.step (x:=.agg cs) H S K hk h
 | eA cs=>exact cD.step (x:=.eA cs) H S K hk h
 | raw u=>exact cD.step (x:=.raw u) H S K hk h
 | dead=>trivial
theorem si.step{ob:Ob}{bo:Option Nat}(K:Nat→Bool)(hk:∀p,K p=false→qJ E E' p)(hb:∀b,bo=some b→E'.w.heap[b]? = E.w.heap[b]?∧E'.A b)(h:si E ob bo):si E' (ob.kill K) bo:=by
 cases bo with
 | none=>
  have h':ob.rows=[]:=h;show(ob.kill K).rows=[];grind[Ob.kill]
 | some b=>
  obtain⟨h1,h2⟩:=hb b rfl;obtain⟨_,cur,hh,bI,hlen,hc⟩:=h;refine⟨h2,cur,by rw[h1,Ob.gU];exact hh,?_,by rw[Ob.dg,Ob.eP];exact hlen,?_⟩
  ·intro row aK
   rw[Ob.eP];unfold Ob.kill at aK
   grind
  ·intro i row hi j x hx
   rw[Ob.eP,Ob.uD];unfold Ob.kill at hi
   split at hi
   ·rename_i himp
    simp only[aAv]at hi;cases hri:ob.rows[i]? with
    | none=>grind
    | some r=>
     simp[hri]at hi;subst hi;rw[aAv]at hx;cases hxj:r[j]? with
     | none=>grind
     | some y=>
      simp[hxj]at hx;subst hx;obtain⟨v,c1,c2,c3,_⟩:=hc i r hri j y hxj;exact⟨v,c1,c2,c3.step H S K hk,fun h=>by simp[himp]at h⟩
   ·rename_i himp
    obtain⟨v,c1,c2,_,c4⟩:=hc i row hi j x hx;have c5:=(c4 (by grind)).step H S;refine⟨v,c1,c2,?_,fun _=>c5⟩;cases x<;>first | exact c5 | cases c5
end
theorem V.mq(x:V):x.bz (fun _=>false)=x:=by cases x<;>rfl
theorem V.Nc(x:V):x.cc (fun _=>false)=x:=by
 cases x<;>simp only[V.cc,V.bz,aAE,aAd]
 congr 1
 exact(aAA (fun x _=>V.mq x)).trans (aAW _)
theorem V.bK(x:V):x.kill (fun _=>false)=x:=by
 cases x<;>simp only[V.kill,V.cc,V.bz,aAE,aAd]
 ·congr 1
  exact(aAA (fun x _=>V.mq x)).trans (aAW _)
 ·congr 1
  exact(aAA (fun x _=>V.Nc x)).trans (aAW _)
 ·rename_i f cs
  have:(cs.any (V.names fun _=>false))=false:=by
   rw[aBD];intro x _;cases x<;>simp[V.names]
  simp[this]
theorem Ob.bK(ob:Ob):ob.kill (fun _=>false)=ob:=by
 unfold Ob.kill
 split
 ·have:ob.rows.map (·.map (V.bz (fun _=>false)))=ob.rows:=by
   refine(aAA (fun r _=>?_)).trans (aAW _);exact(aAA (fun x _=>V.mq x)).trans (aAW _)
  rw[this]
 ·rfl
end Go.AL
namespace Go.AL
def aq(P:Program)(t:TypeId):Nat:=((P.info? t).map (·.size)).getD 0
def cE(P:Program)(t:TypeId):Bool:=match P.underlying t with | some (.struct _) | some (.array _ _)=>true | _=>false
def dC(P:Program)(t:TypeId):Option TypeId:=match P.underlying t with | some (.slice e)=>some e | _=>none
def bytesOf(P:Program)(t:TypeId):Nat:=((P.info? t).map (·.bytes)).getD 0
def eQ(P:Program)(t:TypeId)(f:Nat):Option (Nat×TypeId):=
 match P.underlying t with
 | some (.struct fs)=>(fs[f]?).bind fun f=>(P.info? f.type).bind fun i=>if i.size=0 then none else some (f.offset,f.type)
 | _=>none
def V.db:Value→V
 | .int k n=>.int k n
 | .bool b=>.bool b
 | .string s=>.str s
 | .slice none 0 0=>.nil
 | v=>if v.oneCell' then .raw v else .dead
def V.oD:Value→V
 | .agg cs=>if cs.toList.all (·.oneCell')then .agg (cs.toList.map V.db)else .dead
 | v=>.db v
def eX(P:Program)(t:TypeId):Option (List V):=
 match(P.info? t).bind (·.zero)with
 | some v=>if v.cells.toList.all (·.oneCell')&&v.cells.size == aq P t then some (v.cells.toList.map V.db)else none
 | none=>none
def V.pure:V→Bool
 | .int .. | .bool _ | .str _ | .nil | .sl _ | .raw _ | .agg _=>true
 | _=>false
def V.cells:V→List V
 | .agg cs=>cs
 | .eA cs=>cs
 | x=>[x]
def V.fC(h:Nat→Option Ob):V→Prop
 | .int .. | .bool _ | .str _ | .nil | .sl _ | .rd _ | .raw _ | .agg _ | .eA _=>True
 | .ref o n=>∃ob,h o=some ob∧n=ob.rows.length
 | .ptr o n _ _=>∃ob,h o=some ob∧n=ob.rows.length
 | _=>False
def np(imp:Bool)(cs:List V):V:=match imp with | true=>.eA cs | false=>.agg cs
def cut(row:List V)(j n:Nat):List V:=(row.drop j).take n
def putAt(row:List V)(j:Nat)(cs:List V):List V:=row.take j++cs++row.drop (j+cs.length)
def lE(place:Nat→Option (Nat×Nat)):List V→List (Nat×V)→Option (List V)
 | cs,[]=>some cs
 | cs,(i,v)::rest=>match place i with
  | none=>none
  | some (off,size)=>if v.cells.length=size∧off+v.cells.length≤cs.length then lE place (putAt cs off v.cells) rest else none
def eV:List V→List V→Option Bool
 | [],[]=>some true
 | .int k a::xs,.int k' b::ys=>if k=k' then(eV xs ys).map (a == b&&·)else none
 | .bool a::xs,.bool b::ys=>(eV xs ys).map (a == b&&·)
 | _,_=>none
def age(op:BinOp)(k:IntKind)(a b:Int):Option (Prop×V):=
 match op with
 | .add=>some (True,.int k (k.wrap (a+b)))
 | .sub=>some (True,.int k (k.wrap (a-b)))
 | .mul=>some (True,.int k (k.wrap (a*b)))
 | .quo=>some (b ≠ 0,.int k (k.wrap (a.tdiv b)))
 | .rem=>some (b ≠ 0,.int k (a.tmod b))
 | .and=>some (True,.int k (k.wrap ((BitVec.ofInt k.bits a&&&BitVec.ofInt k.bits b).toNat)))
 | .or=>some (True,.int k (k.wrap ((BitVec.ofInt k.bits a ||| BitVec.ofInt k.bits b).toNat)))
 | .eql=>some (True,.bool (a == b))
 | .neq=>some (True,.bool (a != b))
 | .lss=>some (True,.bool (decide (a<b)))
 | .leq=>some (True,.bool (decide (a≤b)))
 | .gtr=>some (True,.bool (decide (a>b)))
 | .geq=>some (True,.bool (decide (a≥b)))
 | _=>none
def FY:BinOp→Bool
 | .shl | .shr=>true
 | _=>false
def Fy(op:BinOp)(k:IntKind)(a b:Int):Option (Prop×V):=
 match op with
 | .shl=>some (0≤b,.int k (k.wrap (a*2 ^ (min b.toNat k.bits))))
 | .shr=>some (0≤b,.int k (a.fdiv (2 ^ (min b.toNat k.bits))))
 | _=>none
def T8(P:Program)(rec:TypeId→Option (List Bool)):List Field→Nat→Option (List Bool)
 | [],_=>some []
 | f::fs,off=>if f.name ≠ "_"∧f.offset=off then
   match rec f.type with
   | some m=>if aq P f.type=m.length∧0<m.length then(T8 P rec fs (off+m.length)).map (m++·)else none
   | none=>none
  else none
def ZQ(P:Program):Nat→TypeId→Option (List Bool)
 | 0,_=>none
 | d+1,t=>match P.underlying t with
  | some .bool=>some [false]
  | some (.int _)=>some [true]
  | some (.struct fs)=>if P.stoodInHeld t then none else T8 P (ZQ P d) fs.toList 0
  | _=>none
def fG:V→Option Bool
 | .int ..=>some true
 | .bool _=>some false
 | _=>none
def T7(P:Program)(t:TypeId):Option (List Bool):=if P.eqGuardType P.depth t then none else ZQ P 8 t
def uw(P:Program)(op:BinOp)(t:TypeId)(p:Prop)(b:Bool):Option (Prop×V):=match op with
 | .eql=>some (p∧(dC P t).isSome,.bool b)
 | .neq=>some (p∧(dC P t).isSome,.bool (!b))
 | _=>none
def GA(P:Program)(op:BinOp)(t:TypeId)(x y:V):Option (Prop×V):=
 match x,y with
 | .int k a,.int k' b=>if FY op then Fy op k a b else if k=k' then age op k a b else none
 | .bool a,.bool b=>match op with
  | .eql=>some (P.underlying t=some .bool,.bool (a == b))
  | .neq=>some (P.underlying t=some .bool,.bool (a != b))
  | _=>none
 | .agg xs,.agg ys=>match op with
  | .eql=>(eV xs ys).map fun b=>(cE P t=true∧T7 P t=some (xs.filterMap fG),.bool b)
  | .neq=>(eV xs ys).map fun b=>(cE P t=true∧T7 P t=some (xs.filterMap fG),.bool (!b))
  | _=>none
 | .nil,.nil=>uw P op t True true
 | .sl rows,.nil=>uw P op t (rows ≠ []) false
 | .rd rows,.nil=>uw P op t (rows ≠ []) false
 | .raw (.slice (some _) _ _),.nil=>uw P op t True false
 | _,_=>none
def V.KU:V→Bool
 | .ptr .. | .int .. | .bool _ | .str _ | .sl _ | .nil | .cp _ _=>true
 | _=>false
inductive AR where
 | val (p:Prop) (v:V)
 | new (p:Prop) (ob:Ob) (isRef:Bool)
 | H3 (p:Prop) (o:Nat) (ob:Ob)
 | app (p:Prop) (o:Nat) (ob:Ob)
 | call (f:FuncId) (args:List V)
 | bad
def rowsOf(h:Nat→Option Ob):V→Option (List (List V))
 | .nil=>some []
 | .sl rows=>some rows
 | .rd rows=>some rows
 | .raw (.slice _ 0 _)=>some []
 | .ref o n=>match h o with
  | some ob=>if n=ob.rows.length∧ob.imp=false then some ob.rows else none
  | none=>none
 | _=>none
def V.live(h:Nat→Option Ob):V→Prop
 | .ref o n=>∃ob,h o=some ob∧n=ob.rows.length
 | _=>True
def lenOf:V→Option Nat
 | .nil=>some 0
 | .sl rows=>some rows.length
 | .rd rows=>some rows.length
 | .ref _ n=>some n
 | _=>none
def fF(P:Program)(t:TypeId)(p:Prop)(imp:Bool)(row:List V)(j:Nat):AR:=
 if cE P t then .val (p∧j+aq P t≤row.length) (np imp (cut row j (aq P t)))
 else if(P.underlying t).isSome then match row[j]? with
  | some x=>if imp=true∨x.pure=true then .val p x else .bad
  | none=>.bad
 else .bad
def iy(P:Program)(h:Nat→Option Ob)(t:TypeId):V→AR
 | .ptr o n i j=>match h o with
  | some ob=>match ob.rows[i]? with
   | some row=>fF P t (n=ob.rows.length) ob.imp row j
   | none=>.bad
  | none=>.bad
 | .cp row j=>fF P t True false row j
 | _=>.bad
def fh(P:Program)(h:Nat→Option Ob)(t:TypeId)(x y:V):AR:=
 match x with
 | .ptr o n i j=>match h o with
  | some ob=>match ob.rows[i]? with
   | some row=>.H3 (n=ob.rows.length∧y.fC h∧y.cells.length=aq P t∧j+y.cells.length≤row.length) o {ob with imp:=ob.imp || !y.pure,rows:=ob.rows.set i (putAt row j y.cells) }
   | none=>.bad
  | none=>.bad
 | _=>.bad
def Be(P:Program)(t:TypeId):Bool:=match P.underlying t with
 | some (.struct fs)=>(fs.toList.mapM (fun f=>(P.info? f.type).map fun i=>(f.offset,i.size))).isSome
 | _=>false
def iL(P:Program)(h:Nat→Option Ob)(t:TypeId)(parts:List (Nat×V)):AR:=
 if Be P t then match eX P t with
  | some z=>match lE (fun i=>(eQ P t i).map fun f=>(f.1,aq P f.2)) z parts with
   | some cs=>.val (∀q∈parts,q.2.fC h) (np (!(parts.all (·.2.pure))) cs)
   | none=>.bad
  | none=>.bad
 else .bad
def cW(P:Program)(h:Nat→Option Ob)(t:TypeId)(len:Nat)(parts:List (Nat×V)):AR:=
 match dC P t with
 | some e=>if parts.map (·.1)=List.range len∧len*aq P e≤2 ^ 24∧0<aq P e∧(eX P e).isSome then
   .new (∀q∈parts,q.2.fC h∧q.2.cells.length=aq P e) ⟨e,aq P e,!(parts.all (·.2.pure)),parts.map (·.2.cells)⟩ true else .bad
 | none=>.bad
def nu(P:Program)(t:TypeId)(x y:V):AR:=
 match dC P t,x,y with
 | some e,.int _ l,.int _ c=>match eX P e with
  | some z=>if 0<aq P e then .new (0≤l∧l≤c∧(bytesOf P e:Int)*c≤140737488355328∧c≤9223372036854775807) ⟨e,aq P e,false,List.replicate l.toNat z⟩ true else .bad
  | none=>.bad
 | _,_,_=>.bad
def dd(P:Program)(h:Nat→Option Ob)(t:TypeId)(f:Nat):V→AR
 | .ptr o n i j=>match h o with
  | some ob=>match eQ P t f with | some (off,_)=>.val (n=ob.rows.length) (.ptr o n i (j+off)) | none=>.bad
  | none=>.bad
 | .cp row j=>match eQ P t f with | some (off,_)=>.val True (.cp row (j+off)) | none=>.bad
 | _=>.bad
def kH(P:Program)(t:TypeId)(f:Nat):V→AR
 | .agg cs=>match eQ P t f with
  | some (off,ft)=>if cE P ft then .val (off+aq P ft≤cs.length) (.agg (cut cs off (aq P ft)))
   else if(P.underlying ft).isSome∧aq P ft=1 then match cs[off]? with | some x=>.val True x | none=>.bad
   else .bad
  | none=>.bad
 | _=>.bad
def dy(P:Program)(t:TypeId)(x ix:V):AR:=
 match dC P t,ix with
 | some e,.int _ i=>if aq P e=0 then .bad else match x with
  | .sl rows=>match rows[i.toNat]? with
   | some row=>.val (0≤i∧row.length=aq P e) (.cp row 0)
   | none=>.bad
  | .rd rows=>match rows[i.toNat]? with
   | some row=>.val (0≤i∧row.length=aq P e) (.cp row 0)
   | none=>.bad
  | _=>.bad
 | _,_=>.bad
def dG(P:Program)(h:Nat→Option Ob)(t:TypeId)(x ix:V):AR:=
 match dC P t,ix with
 | some e,.int _ i=>if aq P e=0 then .bad else match x with
  | .ref o n=>match h o with
   | some ob=>.val (0≤i∧i<n∧n=ob.rows.length∧ob.es=aq P e) (.ptr o n i.toNat 0)
   | none=>.bad
  | _=>.bad
 | _,_=>.bad
def EN(P:Program)(t:TypeId):Option (Nat×TypeId):=match P.underlying t with | some (.array n e)=>some (n,e) | _=>none
def cL{α:Type}(es:Nat):Nat→List α→List (List α)
 | 0,_=>[]
 | n+1,l=>l.take es::cL es n (l.drop es)
def mY(P:Program)(t:TypeId):AR:=match eX P t with
 | some z=>match EN P t with
  | some (m,e)=>if 0<m∧0<aq P e∧z.length=m*aq P e then .new True ⟨t,aq P e,false,cL (aq P e) m z⟩ false else .bad
  | none=>.new True ⟨t,aq P t,false,[z]⟩ false
 | none=>.bad
theorem jd(P:Program)(t:TypeId):mY P t=.bad∨∃ob,mY P t=.new True ob false:=by
 grind[mY]
def dZ(P:Program)(h:Nat→Option Ob)(t:TypeId)(x ix:V):AR:=
 match EN P t,ix with
 | some (m,e),.int _ i=>if aq P e=0 then .bad else match x with
  | .ptr o n 0 0=>match h o with
   | some ob=>.val (0≤i∧i<m∧m=ob.rows.length∧n=ob.rows.length∧ob.es=aq P e) (.ptr o n i.toNat 0)
   | none=>.bad
  | _=>.bad
 | _,_=>.bad
def ez(P:Program)(t:TypeId)(x:V)(lo hi:Option V):AR:=
 match dC P t with
 | none=>.bad
 | some e=>if aq P e=0 then .bad else
  match lo,hi with
  | none,none=>.bad
  | none,some (.int _ h)=>match x with
   | .sl rows=>.val (0≤h∧h≤rows.length) (.sl (rows.take h.toNat))
   | .rd rows=>.val (0≤h∧h≤rows.length) (.rd (rows.take h.toNat))
   | .nil=>.val (h=0) .nil
   | _=>.bad
  | some (.int _ l),none=>match x with
   | .sl rows=>.val (0≤l∧l≤rows.length∧∀r∈rows,r.length=aq P e) (.sl (rows.drop l.toNat))
   | .rd rows=>.val (0≤l∧l≤rows.length∧∀r∈rows,r.length=aq P e) (.rd (rows.drop l.toNat))
   | .nil=>.val (l=0) .nil
   | _=>.bad
  | some (.int _ l),some (.int _ h)=>match x with
   | .sl rows=>.val (0≤l∧l≤h∧h≤rows.length∧∀r∈rows,r.length=aq P e) (.sl ((rows.take h.toNat).drop l.toNat))
   | .rd rows=>.val (0≤l∧l≤h∧h≤rows.length∧∀r∈rows,r.length=aq P e) (.rd ((rows.take h.toNat).drop l.toNat))
   | .nil=>.val (l=0∧h=0) .nil
   | _=>.bad
  | _,_=>.bad
def dM(P:Program)(h:Nat→Option Ob)(t:TypeId)(x y:V):AR:=
 match dC P t,rowsOf h y with
 | some e,some new=>if aq P e=0∨(eX P e).isNone then .bad else match x with
  | .nil=>.new ((∀r∈new,r.length=aq P e)∧new.length*bytesOf P e≤140737488355328∧new.length≤maxLen) ⟨e,aq P e,false,new⟩ true
  | .ref o n=>match h o with
   | some ob=>.app (n=ob.rows.length∧ob.ty=e∧ob.es=aq P e∧(∀r∈new,r.length=aq P e)∧(n+new.length)*bytesOf P e≤140737488355328∧n+new.length≤maxLen) o
     {ob with rows:=ob.rows++new }
   | none=>.bad
  | _=>.bad
 | _,_=>.bad
def ahq:List V→Option V
 | [.int k a,.int k' b]=>if k=k' then some (.int k (if b>a then b else a))else none
 | _=>none
def ahp:List V→Option V
 | [.int k a,.int k' b]=>if k=k' then some (.int k (if b<a then b else a))else none
 | _=>none
def B8(P:Program)(g:FuncId):Bool:=match P.funcs[g]? with
 | some fn=>fn.body.isSome&&!(fn.name == "runtime.NumGoroutine")
 | none=>false
def fi(P:Program)(e:Operand→V)(h:Nat→Option Ob)(c:Call):AR:=
 match c.callee with
 | .value f=>match e f with
  | .fn g aw=>if B8 P g then .call g (c.args.toList.map e++aw)else .bad
  | _=>.bad
 | .builtin .len=>match c.args.toList with
  | [x]=>match e x with
   | .str s=>.val (c.argTypes.toList.map P.underlying=[some .string]) (.int .i64 s.size)
   | v=>match lenOf v with
    | some n=>.val (v.live h∧c.argTypes.toList.map (fun t=>(dC P t).isSome)=[true]) (.int .i64 n)
    | none=>.bad
  | _=>.bad
 | .builtin .append=>match c.args.toList,c.argTypes.toList with
  | [x,y],[t,t']=>if t=t' then dM P h t (e x) (e y)else .bad
  | _,_=>.bad
 | .builtin .max=>match ahq (c.args.toList.map e)with | some v=>.val True v | none=>.bad
 | .builtin .min=>match ahp (c.args.toList.map e)with | some v=>.val True v | none=>.bad
 | _=>.bad
def gH(P:Program)(o:Oper)(e:Operand→V)(h:Nat→Option Ob):AR:=
 match o.op with
 | .move x=>.val True (e x)
 | .assign x=>.val True (e x)
 | .pick c a b=>match e c with | .bool t=>.val True (if t then e a else e b) | _=>.bad
 | .alloc t=>mY P t
 | .box t x=>.new ((e x).fC h∧(e x).cells.length=aq P t) ⟨t,aq P t,!(e x).pure,[(e x).cells]⟩ false
 | .build t parts=>iL P h t (parts.toList.map fun q=>(q.1,e q.2))
 | .buildSlice t len parts=>cW P h t len (parts.toList.map fun q=>(q.1,e q.2))
 | .load t x=>if 0<aq P t then iy P h t (e x)else .bad
 | .store t x y=>if 0<aq P t then fh P h t (e x) (e y)else .bad
 | .binOp op t x y _=>match GA P op t (e x) (e y)with | some (p,v)=>.val p v | none=>.bad
 | .unOp .not _ x=>match e x with | .bool b=>.val True (.bool (!b)) | _=>.bad
 | .unOp .neg _ x=>match e x with | .int k n=>.val True (.int k (k.wrap (0-n))) | _=>.bad
 | .convert src dst x=>match e x with
  | .int _ n=>match P.underlying src,P.underlying dst with
   | some _,some (.int k)=>.val True (.int k (k.wrap n))
   | _,_=>.bad
  | _=>.bad
 | .slice t x lo hi none=>ez P t (e x) (lo.map e) (hi.map e)
 | .fieldAddr t x f=>dd P h t f (e x)
 | .field t x f=>kH P t f (e x)
 | .indexAddr t x i=>match e x with
  | .ref ..=>dG P h t (e x) (e i)
  | .ptr ..=>dZ P h t (e x) (e i)
  | _=>dy P t (e x) (e i)
 | .extract x i=>match e x with | .kI vs=>(match vs[i]? with | some v=>.val True v | none=>.bad) | _=>.bad
 | .makeFunc (.func f) first aw=>if first.toList=[]∧(aw.toList.map e).all V.KU then .val True (.fn f (aw.toList.map e))else .bad
 | .nilCheck x=>match e x with
  | .ptr o n i j=>.val (∃ob,h o=some ob∧n=ob.rows.length) (.ptr o n i j)
  | _=>.bad
 | .call c=>fi P e h c
 | .makeSlice t l c=>nu P t (e l) (e c)
 | _=>.bad
