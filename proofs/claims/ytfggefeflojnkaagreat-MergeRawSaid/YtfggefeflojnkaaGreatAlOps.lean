/- By an AI agent. -/
import Derived.Test.YtfggefeflojnkaaGreatA0
import Derived.WalkKit
import Derived.Below
import Derived.Deep.MidRow
import Derived.Laws.AppendOwn
import Derived.Great.BuildSlice
import Derived.Laws.StructEq
import Derived.Laws.MakeOwn
import Derived.WalkLawsBesides
namespace Go.AL
inductive V where
 | int (k:IntKind) (n:Int)
 | bool (b:Bool)
 | str (s:ByteArray)
 | nil
 | sl (rows:List (List V))
 | rd (rows:List (List V))
 | ref (o n:Nat)
 | ptr (o n i j:Nat)
 | cp (row:List V) (j:Nat)
 | agg (cs:List V)
 | dP (cs:List V)
 | kQ (vs:List V)
 | raw (v:Value)
 | fn (f:FuncId) (bZ:List V)
 | dead
structure Ob where
 ty:TypeId
 es:Nat
 imp:Bool
 rows:List (List V)
structure St where
 t:Nat→V
 h:Nat→Option Ob
inductive bh (w:World) (A:Nat→Prop):V→Value→Prop
 | int (k:IntKind) (n:Int):bh w A (.int k n) (.int k n)
 | bool (b:Bool):bh w A (.bool b) (.bool b)
 | str (s:ByteArray):bh w A (.str s) (.string s)
 | nil:bh w A .nil (.slice none 0 0)
 | slnil (a:Option Addr):bh w A (.sl []) (.slice a 0 0)
 | sl (rows:List (List V)) (b off cap es:Nat) (f:Nat→Nat→Value) (jy:rows.length≤cap)
   (hb:rows ≠ []→b<w.heap.size∧¬ A b) (bQ:∀row∈rows,row.length=es)
   (hc:∀(i:Nat) (row:List V),rows[i]? = some row→∀(j:Nat) (x:V),row[j]? = some x→w.cell? ⟨b,off+i*es+j,none⟩=some (f i j))
   (hr:∀(i:Nat) (row:List V),rows[i]? = some row→∀(j:Nat) (x:V),row[j]? = some x→bh w A x (f i j)) :
   bh w A (.sl rows) (.slice (some ⟨b,off,none⟩) rows.length cap)
 | raw (v:Value) (h1:v.oneCell'=true):bh w A (.raw v) v
theorem bh.fH{w:World}{A:Nat→Prop}{x:V}{v:Value}(h:bh w A x v):v.oneCell'=true:=by
 cases h<;>first | rfl | assumption
def gC(w:World)(A X:Nat→Prop)(rows:List (List V))(v:Value):Prop:=
 ((∃a,v=.slice a 0 0)∧rows=[])∨
 ∃(b off cap es:Nat) (f:Nat→Nat→Value),v=.slice (some ⟨b,off,none⟩) rows.length cap∧rows.length≤cap∧
  (rows ≠ []→b<w.heap.size∧¬ X b)∧(∀row∈rows,row.length=es)∧
  (∀(i:Nat) (row:List V),rows[i]? = some row→∀(j:Nat) (x:V),row[j]? = some x→w.cell? ⟨b,off+i*es+j,none⟩=some (f i j))∧
  (∀(i:Nat) (row:List V),rows[i]? = some row→∀(j:Nat) (x:V),row[j]? = some x→bh w A x (f i j))
theorem mM{w:World}{A:Nat→Prop}{rows:List (List V)}{v:Value}:bh w A (.sl rows) v↔gC w A A rows v:=by
 constructor
 ·intro h
  cases h with
  | slnil a=>exact .inl ⟨⟨a,rfl⟩,rfl⟩
  | sl _ b off cap es f jy hb bQ hc hr=>exact .inr ⟨b,off,cap,es,f,rfl,jy,hb,bQ,hc,hr⟩
 ·rintro(⟨⟨a,rfl⟩,rfl⟩ | ⟨b,off,cap,es,f,rfl,jy,hb,bQ,hc,hr⟩)
  ·exact .slnil a
  ·exact .sl rows b off cap es f jy hb bQ hc hr
structure Env where
 w:World
 A:Nat→Prop
 h:Nat→Option Ob
 β:Nat→Option Nat
def Env.M(E:Env)(b:Nat):Prop:=∃o ob,E.h o=some ob∧E.β o=some b
def RO(E:Env)(ob:Ob)(bo:Option Nat)(n:Nat)(v:Value):Prop:=
 n≤ob.rows.length∧(n=ob.rows.length→match bo with
  | none=>v=.slice none 0 0
  | some b=>∃cap cur,v=.slice (some ⟨b,0,none⟩) n cap∧n≤cap∧cap≤maxLen∧E.w.heap[b]? = some (.cells cur ob.ty (0,0))∧cur.size=cap*ob.es)
def aue(ob:Ob)(bo:Option Nat)(n i j:Nat)(v:Value):Prop:=
 n≤ob.rows.length∧(n=ob.rows.length→∃b,bo=some b∧v=.pointer (some ⟨b,i*ob.es+j,none⟩))
def bB(E:Env):V→Value→Prop
 | .rd rows,v=>gC E.w E.A E.M rows v
 | .ref o n,v=>∀ob,E.h o=some ob→RO E ob (E.β o) n v
 | .ptr o n i j,v=>∀ob,E.h o=some ob→aue ob (E.β o) n i j v
 | .cp row j,v=>∃(b off:Nat) (f:Nat→Value),v=.pointer (some ⟨b,off+j,none⟩)∧b<E.w.heap.size∧¬ E.M b∧
   (∀(k:Nat) (x:V),row[k]? = some x→E.w.cell? ⟨b,off+k,none⟩=some (f k))∧(∀(k:Nat) (x:V),row[k]? = some x→bh E.w E.A x (f k))
 | .dead,_=>True
 | x,v=>bh E.w E.A x v
def cH(E:Env):V→Value→Prop
 | .agg cs,v=>∃vs,v=.agg vs∧vs.size=cs.length∧∀(i:Nat) (x:V),cs[i]? = some x→∃u,vs[i]? = some u∧bh E.w E.A x u
 | .dP cs,v=>∃vs,v=.agg vs∧vs.size=cs.length∧∀(i:Nat) (x:V),cs[i]? = some x→∃u,vs[i]? = some u∧u.oneCell'=true∧bB E x u
 | x,v=>bB E x v
def Rel(E:Env):V→Value→Prop
 | .kQ xs,v=>∃vs,v=.tuple vs∧vs.size=xs.length∧∀(i:Nat) (x:V),xs[i]? = some x→∃u,vs[i]? = some u∧cH E x u
 | .fn f cs,v=>∃vs,v=.func (.func f) #[] vs∧vs.size=cs.length∧∀(i:Nat) (x:V),cs[i]? = some x→∃u,vs[i]? = some u∧bB E x u
 | x,v=>cH E x v
def sR(E:Env)(ob:Ob):Option Nat→Prop
 | none=>ob.rows=[]
 | some b=>E.A b∧∃cur,E.w.heap[b]? = some (.cells cur ob.ty (0,0))∧(∀row∈ob.rows,row.length=ob.es)∧ob.rows.length*ob.es≤cur.size∧
   ∀(i:Nat) (row:List V),ob.rows[i]? = some row→∀(j:Nat) (x:V),row[j]? = some x→
    ∃v,cur[i*ob.es+j]? = some v∧v.oneCell'=true∧bB E x v∧(ob.imp=false→bh E.w E.A x v)
structure cz (E:Env):Prop where
 ok:∀o ob,E.h o=some ob→sR E ob (E.β o)
 inj:∀o o' ob ob' b,E.h o=some ob→E.h o'=some ob'→E.β o=some b→E.β o'=some b→o=o'
 lt:∀b,E.A b→b<E.w.heap.size
theorem cz.mA{E:Env}(H:cz E){b:Nat}(h:E.M b):E.A b:=by
 obtain⟨o,ob,ho,hb⟩:=h;have:=H.ok o ob ho;rw[hb]at this;exact this.1
def cZ(X:Nat→Prop)(w w':World):Prop:=∀b,b<w.heap.size→¬ X b→w'.heap[b]? = w.heap[b]?
theorem cZ.cell{X:Nat→Prop}{w w':World}(h:cZ X w w'){b:Nat}(hb:b<w.heap.size)(hX:¬ X b)(o:Nat):w'.cell? ⟨b,o,none⟩=w.cell? ⟨b,o,none⟩:=by
 simp[World.cell?,h b hb hX]
theorem bh.frame{w w':World}{A A':Nat→Prop}(hw:cZ A w w')(hs:w.heap.size≤w'.heap.size)(hA:∀b,b<w.heap.size→A' b→A b){x:V}{v:Value}
  (h:bh w A x v):bh w' A' x v:=by
 induction h with
 | int k n=>exact .int k n
 | bool b=>exact .bool b
 | str s=>exact .str s
 | nil=>exact .nil
 | slnil a=>exact .slnil a
 | raw v h1=>exact .raw v h1
 | sl rows b off cap es f jy hb bQ hc _ ih=>
  refine .sl rows b off cap es f jy (fun ec=>?_) bQ (fun i row hi j x hx=>?_) (fun i row hi j x hx=>ih i row hi j x hx)
  ·obtain⟨h1,h2⟩:=hb ec
   exact⟨aCP h1 hs,fun h3=>h2 (hA b h1 h3)⟩
  ·have ec:rows ≠ []:=fun e=>by rw[e]at hi;simp at hi
   obtain⟨h1,h2⟩:=hb ec;rw[hw.cell h1 h2];exact hc i row hi j x hx
theorem gC.frame{w w':World}{A A' X X':Nat→Prop}(hw:cZ A w w')(hwX:cZ X w w')(hs:w.heap.size≤w'.heap.size)(hA:∀b,b<w.heap.size→A' b→A b)(hX:∀b,b<w.heap.size→X' b→X b)
  {rows:List (List V)} {v:Value} (h:gC w A X rows v):gC w' A' X' rows v:=by
 rcases h with h | ⟨b,off,cap,es,f,hv,jy,hb,bQ,hc,hr⟩
 ·exact .inl h
 ·refine .inr ⟨b,off,cap,es,f,hv,jy,fun ec=>?_,bQ,fun i row hi j x hx=>?_,fun i row hi j x hx=>(hr i row hi j x hx).frame hw hs hA⟩
  ·obtain⟨h1,h2⟩:=hb ec
   exact⟨aCP h1 hs,fun h3=>h2 (hX b h1 h3)⟩
  ·have ec:rows ≠ []:=fun e=>by rw[e]at hi;simp at hi
   obtain⟨h1,h2⟩:=hb ec;rw[hwX.cell h1 h2];exact hc i row hi j x hx
def V.bI(K:Nat→Bool):V→V
 | .ref p n=>if K p then .dead else .ref p n
 | .ptr p n i j=>if K p then .dead else .ptr p n i j
 | x=>x
def V.names(K:Nat→Bool):V→Bool
 | .ref p _=>K p
 | .ptr p _ _ _=>K p
 | _=>false
def V.cu(K:Nat→Bool):V→V
 | .dP cs=>.dP (cs.map (V.bI K))
 | x=>x.bI K
def V.kill(K:Nat→Bool):V→V
 | .kQ vs=>.kQ (vs.map (V.cu K))
 | .fn f cs=>if cs.any (V.names K)then .dead else .fn f cs
 | x=>x.cu K
def Ob.kill(K:Nat→Bool)(ob:Ob):Ob:=if ob.imp then {ob with rows:=ob.rows.map (·.map (V.bI K)) } else ob
def St.kill(K:Nat→Bool)(s:St):St:=⟨fun i=>(s.t i).kill K,fun p=>if K p then none else(s.h p).map (Ob.kill K)⟩
theorem Ob.gP(K:Nat→Bool)(ob:Ob):(ob.kill K).ty=ob.ty:=by unfold Ob.kill;split<;>rfl
theorem Ob.eQ(K:Nat→Bool)(ob:Ob):(ob.kill K).es=ob.es:=by unfold Ob.kill;split<;>rfl
theorem Ob.uL(K:Nat→Bool)(ob:Ob):(ob.kill K).imp=ob.imp:=by unfold Ob.kill;split<;>rfl
theorem Ob.dm(K:Nat→Bool)(ob:Ob):(ob.kill K).rows.length=ob.rows.length:=by unfold Ob.kill;split<;>simp
structure Step (E E':Env):Prop where
 agree:cZ E.M E.w E'.w
 size:E.w.heap.size≤E'.w.heap.size
 A:∀b,b<E.w.heap.size→E'.A b→E.A b
 M:∀b,b<E.w.heap.size→E'.M b→E.M b
def rz(E E':Env)(o:Nat):Prop:=∀ob',E'.h o=some ob'→∃ob,E.h o=some ob∧ob.rows.length≤ob'.rows.length∧
 (ob'.rows.length=ob.rows.length→E'.β o=E.β o∧ob'.es=ob.es∧ob'.ty=ob.ty∧
  ∀b cur,E.β o=some b→E.w.heap[b]? = some (.cells cur ob.ty (0,0))→∃cur',E'.w.heap[b]? = some (.cells cur' ob.ty (0,0))∧cur'.size=cur.size)
theorem cZ.mono{X Y:Nat→Prop}{w w':World}(h:cZ X w w')(hXY:∀b,X b→Y b):cZ Y w w':=fun b hb hY=>h b hb (fun hX=>hY (hXY b hX))
section
variable {E E':Env} (H:cz E) (S:Step E E')
include H S
theorem bh.step{x:V}{v:Value}(h:bh E.w E.A x v):bh E'.w E'.A x v:=
 h.frame (S.agree.mono (fun _ h=>H.mA h)) S.size S.A
theorem bB.step{x:V}{v:Value}(K:Nat→Bool)(hk:∀p,K p=false→rz E E' p)(h:bB E x v):bB E' (x.bI K) v:=by
 cases x with
 | rd rows=>exact gC.frame (S.agree.mono (fun _ h=>H.mA h)) S.agree S.size S.A S.M h
 | ref p n=>
  simp only[V.bI]
  split
  ·trivial
  ·rename_i hp
   intro ob' dW;obtain⟨ob,ho,hle,Bf⟩:=hk p (by simpa using hp) ob' dW;obtain⟨h1,h2⟩:=h ob ho;refine⟨aCO h1 hle,fun hn=>?_⟩;have hlen:ob'.rows.length=ob.rows.length:=by omega
   obtain⟨hβ,bQ,rS,hbl⟩:=Bf hlen;have h3:=h2 (by omega);rw[hβ];cases hb:E.β p with
   | none=>rw[hb]at h3;exact h3
   | some b=>
    rw[hb]at h3;obtain⟨cap,cur,hv,hc,hm,hh,hs⟩:=h3;obtain⟨cur',hh',FD⟩:=hbl b cur hb hh;exact⟨cap,cur',hv,hc,hm,by rw[rS];exact hh',by rw[FD,hs,bQ]⟩
 | ptr p n i j=>
  simp only[V.bI]
  split
  ·trivial
  ·rename_i hp
   intro ob' dW;obtain⟨ob,ho,hle,Bf⟩:=hk p (by simpa using hp) ob' dW;obtain⟨h1,h2⟩:=h ob ho;refine⟨aCO h1 hle,fun hn=>?_⟩;have hlen:ob'.rows.length=ob.rows.length:=by omega
   obtain⟨hβ,bQ,rS,hbl⟩:=Bf hlen;rw[hβ,bQ];exact h2 (by omega)
 | cp row j=>
  obtain⟨b,off,f,hv,hb,hM,hc,hr⟩:=h;refine⟨b,off,f,hv,aCP hb S.size,fun h=>hM (S.M b hb h),fun k x hx=>?_,fun k x hx=>(hr k x hx).step H S⟩;rw[S.agree.cell hb hM];exact hc k x hx
 | dead=>trivial
 | int k n=>exact bh.step H S h
 | bool b=>exact bh.step H S h
 | str s=>exact bh.step H S h
 | nil=>exact bh.step H S h
 | sl rows=>exact bh.step H S h
 | agg cs=>exact bh.step H S h
 | dP cs=>exact bh.step H S h
 | kQ vs=>exact bh.step H S h
 | raw v=>exact bh.step H S h
 | fn f bZ=>exact bh.step H S h
theorem cH.step{x:V}{v:Value}(K:Nat→Bool)(hk:∀p,K p=false→rz E E' p)(h:cH E x v):cH E' (x.cu K) v:=by
 cases x with
 | agg cs=>
  obtain⟨vs,hv,hs,hc⟩:=h;exact⟨vs,hv,hs,fun i x hx=>let ⟨u,h1,h2⟩:=hc i x hx;⟨u,h1,h2.step H S⟩⟩
 | dP cs=>
  obtain⟨vs,hv,hs,hc⟩:=h;refine⟨vs,hv,by simpa using hs,fun i x hx=>?_⟩;rw[aDm]at hx;cases hi:cs[i]? with
  | none=>simp[hi]at hx
  | some y=>
   simp[hi]at hx;subst hx;obtain⟨u,h1,h2,h3⟩:=hc i y hi;exact⟨u,h1,h2,h3.step H S K hk⟩
 | int k n=>exact bB.step (x:=.int k n) H S K hk h
 | bool b=>exact bB.step (x:=.bool b) H S K hk h
 | str s=>exact bB.step (x:=.str s) H S K hk h
 | nil=>exact bB.step (x:=.nil) H S K hk h
 | sl rows=>exact bB.step (x:=.sl rows) H S K hk h
 | rd rows=>exact bB.step (x:=.rd rows) H S K hk h
 | ref p n=>
  have h2:bB E' ((V.ref p n).bI K) v:=bB.step (x:=.ref p n) H S K hk h;by_cases hp:K p=true
  ·simp only[V.cu,V.bI,aCr hp];trivial
  ·simp only[V.cu,V.bI,aCo hp]at h2 ⊢;exact h2
 | ptr p n i j=>
  have h2:bB E' ((V.ptr p n i j).bI K) v:=bB.step (x:=.ptr p n i j) H S K hk h;by_cases hp:K p=true
  ·simp only[V.cu,V.bI,aCr hp];trivial
  ·simp only[V.cu,V.bI,aCo hp]at h2 ⊢;exact h2
 | cp row j=>exact bB.step (x:=.cp row j) H S K hk h
 | kQ xs=>exact bB.step (x:=.kQ xs) H S K hk h
 | raw u=>exact bB.step (x:=.raw u) H S K hk h
 | fn f cs=>exact bB.step (x:=.fn f cs) H S K hk h
 | dead=>trivial
theorem Rel.step{x:V}{v:Value}(K:Nat→Bool)(hk:∀p,K p=false→rz E E' p)(h:Rel E x v):Rel E' (x.kill K) v:=by
 cases x with
 | kQ xs=>
  obtain⟨vs,hv,hs,hc⟩:=h;refine⟨vs,hv,by simpa using hs,fun i x hx=>?_⟩;rw[aDm]at hx;cases hi:xs[i]? with
  | none=>simp[hi]at hx
  | some y=>
   simp[hi]at hx;subst hx;obtain⟨u,h1,h3⟩:=hc i y hi;exact⟨u,h1,h3.step H S K hk⟩
 | fn f cs=>
  simp only[V.kill]
  split
  ·trivial
  ·rename_i NP
   obtain⟨vs,hv,hs,hc⟩:=h;refine⟨vs,hv,hs,fun i x hx=>?_⟩;obtain⟨u,h1,h3⟩:=hc i x hx;have hm:=aCC hx;simp only[aEf,not_exists,not_and]at NP;have h5:=NP x hm;have h6:=h3.step H S K hk;refine⟨u,h1,?_⟩;cases x<;>simp only[V.names,V.bI]at h5 h6<;>first | exact h6 | (rw[aCo h5]at h6;exact h6)
 | int k n=>exact cH.step (x:=.int k n) H S K hk h
 | bool b=>exact cH.step (x:=.bool b) H S K hk h
 | str s=>exact cH.step (x:=.str s) H S K hk h
 | nil=>exact cH.step (x:=.nil) H S K hk h
 | sl rows=>exact cH.step (x:=.sl rows) H S K hk h
 | rd rows=>exact cH.step (x:=.rd rows) H S K hk h
 | ref p n=>
  have h2:cH E' ((V.ref p n).cu K) v:=cH.step (x:=.ref p n) H S K hk h;by_cases hp:K p=true
  ·simp only[V.kill,V.cu,V.bI,aCr hp];trivial
  ·simp only[V.kill,V.cu,V.bI,aCo hp]at h2 ⊢;exact h2
 | ptr p n i j=>
  have h2:cH E' ((V.ptr p n i j).cu K) v:=cH.step (x:=.ptr p n i j) H S K hk h;by_cases hp:K p=true
  ·simp only[V.kill,V.cu,V.bI,aCr hp];trivial
  ·simp only[V.kill,V.cu,V.bI,aCo hp]at h2 ⊢;exact h2
 | cp row j=>exact cH.step (x:=.cp row j) H S K hk h
 | agg cs=>exact cH.step (x:=.agg cs) H S K hk h
 | dP cs=>exact cH.step (x:=.dP cs) H S K hk h
 | raw u=>exact cH.step (x:=.raw u) H S K hk h
 | dead=>trivial
theorem sR.step{ob:Ob}{bo:Option Nat}(K:Nat→Bool)(hk:∀p,K p=false→rz E E' p)(hb:∀b,bo=some b→E'.w.heap[b]? = E.w.heap[b]?∧E'.A b)(h:sR E ob bo):sR E' (ob.kill K) bo:=by
 cases bo with
 | none=>
  have h':ob.rows=[]:=h;show(ob.kill K).rows=[];unfold Ob.kill;split<;>simp[h']
 | some b=>
  obtain⟨h1,h2⟩:=hb b rfl;obtain⟨_,cur,hh,bQ,hlen,hc⟩:=h;refine⟨h2,cur,by rw[h1,Ob.gP];exact hh,?_,by rw[Ob.dm,Ob.eQ];exact hlen,?_⟩
  ·intro row aO
   rw[Ob.eQ];unfold Ob.kill at aO
   split at aO
   ·simp only[aCN]at aO
    obtain⟨r,hr,rfl⟩:=aO;simpa using bQ r hr
   ·exact bQ row aO
  ·intro i row hi j x hx
   rw[Ob.eQ,Ob.uL];unfold Ob.kill at hi
   split at hi
   ·rename_i himp
    simp only[aDm]at hi;cases hri:ob.rows[i]? with
    | none=>simp[hri]at hi
    | some r=>
     simp[hri]at hi;subst hi;rw[aDm]at hx;cases hxj:r[j]? with
     | none=>simp[hxj]at hx
     | some y=>
      simp[hxj]at hx;subst hx;obtain⟨v,c1,c2,c3,_⟩:=hc i r hri j y hxj;exact⟨v,c1,c2,c3.step H S K hk,fun h=>by simp[himp]at h⟩
   ·rename_i himp
    obtain⟨v,c1,c2,_,c4⟩:=hc i row hi j x hx;have c5:=(c4 (by simpa using himp)).step H S;refine⟨v,c1,c2,?_,fun _=>c5⟩;cases x<;>first | exact c5 | cases c5
end
theorem V.mS(x:V):x.bI (fun _=>false)=x:=by cases x<;>rfl
theorem V.Nx(x:V):x.cu (fun _=>false)=x:=by
 cases x<;>simp only[V.cu,V.bI,aDt,aC4]
 congr 1
 exact(aDu (fun x _=>V.mS x)).trans (aDP _)
theorem V.bV(x:V):x.kill (fun _=>false)=x:=by
 cases x<;>simp only[V.kill,V.cu,V.bI,aDt,aC4]
 ·congr 1
  exact(aDu (fun x _=>V.mS x)).trans (aDP _)
 ·congr 1
  exact(aDu (fun x _=>V.Nx x)).trans (aDP _)
 ·rename_i f cs
  have:(cs.any (V.names fun _=>false))=false:=by
   rw[aEq];intro x _;cases x<;>simp[V.names]
  simp[this]
theorem Ob.bV(ob:Ob):ob.kill (fun _=>false)=ob:=by
 unfold Ob.kill
 split
 ·have:ob.rows.map (·.map (V.bI (fun _=>false)))=ob.rows:=by
   refine(aDu (fun r _=>?_)).trans (aDP _);exact(aDu (fun x _=>V.mS x)).trans (aDP _)
  rw[this]
 ·rfl
end Go.AL
namespace Go.AL
def aB(P:Program)(t:TypeId):Nat:=((P.info? t).map (·.size)).getD 0
def cK(P:Program)(t:TypeId):Bool:=match P.underlying t with | some (.struct _) | some (.array _ _)=>true | _=>false
def dH(P:Program)(t:TypeId):Option TypeId:=match P.underlying t with | some (.slice e)=>some e | _=>none
def bytesOf(P:Program)(t:TypeId):Nat:=((P.info? t).map (·.bytes)).getD 0
def eR(P:Program)(t:TypeId)(f:Nat):Option (Nat×TypeId):=
 match P.underlying t with
 | some (.struct fs)=>(fs[f]?).bind fun f=>(P.info? f.type).bind fun i=>if i.size=0 then none else some (f.offset,f.type)
 | _=>none
def V.de:Value→V
 | .int k n=>.int k n
 | .bool b=>.bool b
 | .string s=>.str s
 | .slice none 0 0=>.nil
 | v=>if v.oneCell' then .raw v else .dead
def V.oT:Value→V
 | .agg cs=>if cs.toList.all (·.oneCell')then .agg (cs.toList.map V.de)else .dead
 | v=>.de v
def eW(P:Program)(t:TypeId):Option (List V):=
 match(P.info? t).bind (·.zero)with
 | some v=>if v.cells.toList.all (·.oneCell')&&v.cells.size == aB P t then some (v.cells.toList.map V.de)else none
 | none=>none
def V.pure:V→Bool
 | .int .. | .bool _ | .str _ | .nil | .sl _ | .raw _ | .agg _=>true
 | _=>false
def V.cells:V→List V
 | .agg cs=>cs
 | .dP cs=>cs
 | x=>[x]
def V.fB(h:Nat→Option Ob):V→Prop
 | .int .. | .bool _ | .str _ | .nil | .sl _ | .rd _ | .raw _ | .agg _ | .dP _=>True
 | .ref o n=>∃ob,h o=some ob∧n=ob.rows.length
 | .ptr o n _ _=>∃ob,h o=some ob∧n=ob.rows.length
 | _=>False
def ke(imp:Bool)(cs:List V):V:=match imp with | true=>.dP cs | false=>.agg cs
def cut(row:List V)(j n:Nat):List V:=(row.drop j).take n
def putAt(row:List V)(j:Nat)(cs:List V):List V:=row.take j++cs++row.drop (j+cs.length)
def lK(place:Nat→Option (Nat×Nat)):List V→List (Nat×V)→Option (List V)
 | cs,[]=>some cs
 | cs,(i,v)::rest=>match place i with
  | none=>none
  | some (off,size)=>if v.cells.length=size∧off+v.cells.length≤cs.length then lK place (putAt cs off v.cells) rest else none
def eT:List V→List V→Option Bool
 | [],[]=>some true
 | .int k a::xs,.int k' b::ys=>if k=k' then(eT xs ys).map (a == b&&·)else none
 | .bool a::xs,.bool b::ys=>(eT xs ys).map (a == b&&·)
 | _,_=>none
def ah1(op:BinOp)(k:IntKind)(a b:Int):Option (Prop×V):=
 match op with
 | .add=>some (True,.int k (k.wrap (a+b)))
 | .sub=>some (True,.int k (k.wrap (a-b)))
 | .mul=>some (True,.int k (k.wrap (a*b)))
 | .quo=>some (b ≠ 0,.int k (k.wrap (a.tdiv b)))
 | .rem=>some (b ≠ 0,.int k (a.tmod b))
 | .and=>some (True,.int k (k.wrap ((BitVec.ofInt k.bits a&&&BitVec.ofInt k.bits b).toNat)))
 | .or=>some (True,.int k (k.wrap ((BitVec.ofInt k.bits a ||| BitVec.ofInt k.bits b).toNat)))
 | .eql=>some (True,.bool (a == b))
 | .neq=>some (True,.bool (a != b))
 | .lss=>some (True,.bool (decide (a<b)))
 | .leq=>some (True,.bool (decide (a≤b)))
 | .gtr=>some (True,.bool (decide (a>b)))
 | .geq=>some (True,.bool (decide (a≥b)))
 | _=>none
def Fw:BinOp→Bool
 | .shl | .shr=>true
 | _=>false
def E0(op:BinOp)(k:IntKind)(a b:Int):Option (Prop×V):=
 match op with
 | .shl=>some (0≤b,.int k (k.wrap (a*2 ^ (min b.toNat k.bits))))
 | .shr=>some (0≤b,.int k (a.fdiv (2 ^ (min b.toNat k.bits))))
 | _=>none
def UZ(P:Program)(rec:TypeId→Option (List Bool)):List Field→Nat→Option (List Bool)
 | [],_=>some []
 | f::fs,off=>if f.name ≠ "_"∧f.offset=off then
   match rec f.type with
   | some m=>if aB P f.type=m.length∧0<m.length then(UZ P rec fs (off+m.length)).map (m++·)else none
   | none=>none
  else none
def eqN(P:Program):Nat→TypeId→Option (List Bool)
 | 0,_=>none
 | d+1,t=>match P.underlying t with
  | some .bool=>some [false]
  | some (.int _)=>some [true]
  | some (.struct fs)=>if P.stoodInHeld t then none else UZ P (eqN P d) fs.toList 0
  | _=>none
def fE:V→Option Bool
 | .int ..=>some true
 | .bool _=>some false
 | _=>none
def UY(P:Program)(t:TypeId):Option (List Bool):=if P.eqGuardType P.depth t then none else eqN P 8 t
def uF(P:Program)(op:BinOp)(t:TypeId)(p:Prop)(b:Bool):Option (Prop×V):=match op with
 | .eql=>some (p∧(dH P t).isSome,.bool b)
 | .neq=>some (p∧(dH P t).isSome,.bool (!b))
 | _=>none
def Gn(P:Program)(op:BinOp)(t:TypeId)(x y:V):Option (Prop×V):=
 match x,y with
 | .int k a,.int k' b=>if Fw op then E0 op k a b else if k=k' then ah1 op k a b else none
 | .bool a,.bool b=>match op with
  | .eql=>some (P.underlying t=some .bool,.bool (a == b))
  | .neq=>some (P.underlying t=some .bool,.bool (a != b))
  | _=>none
 | .agg xs,.agg ys=>match op with
  | .eql=>(eT xs ys).map fun b=>(cK P t=true∧UY P t=some (xs.filterMap fE),.bool b)
  | .neq=>(eT xs ys).map fun b=>(cK P t=true∧UY P t=some (xs.filterMap fE),.bool (!b))
  | _=>none
 | .nil,.nil=>uF P op t True true
 | .sl rows,.nil=>uF P op t (rows ≠ []) false
 | .rd rows,.nil=>uF P op t (rows ≠ []) false
 | .raw (.slice (some _) _ _),.nil=>uF P op t True false
 | _,_=>none
def V.K4:V→Bool
 | .ptr .. | .int .. | .bool _ | .str _ | .sl _ | .nil | .cp _ _=>true
 | _=>false
inductive AR where
 | val (p:Prop) (v:V)
 | new (p:Prop) (ob:Ob) (isRef:Bool)
 | H7 (p:Prop) (o:Nat) (ob:Ob)
 | app (p:Prop) (o:Nat) (ob:Ob)
 | call (f:FuncId) (args:List V)
 | bad
def rowsOf(h:Nat→Option Ob):V→Option (List (List V))
 | .nil=>some []
 | .sl rows=>some rows
 | .rd rows=>some rows
 | .raw (.slice _ 0 _)=>some []
 | .ref o n=>match h o with
  | some ob=>if n=ob.rows.length∧ob.imp=false then some ob.rows else none
  | none=>none
 | _=>none
def V.live(h:Nat→Option Ob):V→Prop
 | .ref o n=>∃ob,h o=some ob∧n=ob.rows.length
 | _=>True
def lenOf:V→Option Nat
 | .nil=>some 0
 | .sl rows=>some rows.length
 | .rd rows=>some rows.length
 | .ref _ n=>some n
 | _=>none
def fD(P:Program)(t:TypeId)(p:Prop)(imp:Bool)(row:List V)(j:Nat):AR:=
 if cK P t then .val (p∧j+aB P t≤row.length) (ke imp (cut row j (aB P t)))
 else if(P.underlying t).isSome then match row[j]? with
  | some x=>if imp=true∨x.pure=true then .val p x else .bad
  | none=>.bad
 else .bad
def ic(P:Program)(h:Nat→Option Ob)(t:TypeId):V→AR
 | .ptr o n i j=>match h o with
  | some ob=>match ob.rows[i]? with
   | some row=>fD P t (n=ob.rows.length) ob.imp row j
   | none=>.bad
  | none=>.bad
 | .cp row j=>fD P t True false row j
 | _=>.bad
def fg(P:Program)(h:Nat→Option Ob)(t:TypeId)(x y:V):AR:=
 match x with
 | .ptr o n i j=>match h o with
  | some ob=>match ob.rows[i]? with
   | some row=>.H7 (n=ob.rows.length∧y.fB h∧y.cells.length=aB P t∧j+y.cells.length≤row.length) o {ob with imp:=ob.imp || !y.pure,rows:=ob.rows.set i (putAt row j y.cells) }
   | none=>.bad
  | none=>.bad
 | _=>.bad
def AI(P:Program)(t:TypeId):Bool:=match P.underlying t with
 | some (.struct fs)=>(fs.toList.mapM (fun f=>(P.info? f.type).map fun i=>(f.offset,i.size))).isSome
 | _=>false
def iD(P:Program)(h:Nat→Option Ob)(t:TypeId)(parts:List (Nat×V)):AR:=
 if AI P t then match eW P t with
  | some z=>match lK (fun i=>(eR P t i).map fun f=>(f.1,aB P f.2)) z parts with
   | some cs=>.val (∀q∈parts,q.2.fB h) (ke (!(parts.all (·.2.pure))) cs)
   | none=>.bad
  | none=>.bad
 else .bad
def cY(P:Program)(h:Nat→Option Ob)(t:TypeId)(len:Nat)(parts:List (Nat×V)):AR:=
 match dH P t with
 | some e=>if parts.map (·.1)=List.range len∧len*aB P e≤2 ^ 24∧0<aB P e∧(eW P e).isSome then
   .new (∀q∈parts,q.2.fB h∧q.2.cells.length=aB P e) ⟨e,aB P e,!(parts.all (·.2.pure)),parts.map (·.2.cells)⟩ true else .bad
 | none=>.bad
def nY(P:Program)(t:TypeId)(x y:V):AR:=
 match dH P t,x,y with
 | some e,.int _ l,.int _ c=>match eW P e with
  | some z=>if 0<aB P e then .new (0≤l∧l≤c∧(bytesOf P e:Int)*c≤140737488355328∧c≤9223372036854775807) ⟨e,aB P e,false,List.replicate l.toNat z⟩ true else .bad
  | none=>.bad
 | _,_,_=>.bad
def df(P:Program)(h:Nat→Option Ob)(t:TypeId)(f:Nat):V→AR
 | .ptr o n i j=>match h o with
  | some ob=>match eR P t f with | some (off,_)=>.val (n=ob.rows.length) (.ptr o n i (j+off)) | none=>.bad
  | none=>.bad
 | .cp row j=>match eR P t f with | some (off,_)=>.val True (.cp row (j+off)) | none=>.bad
 | _=>.bad
def kN(P:Program)(t:TypeId)(f:Nat):V→AR
 | .agg cs=>match eR P t f with
  | some (off,ft)=>if cK P ft then .val (off+aB P ft≤cs.length) (.agg (cut cs off (aB P ft)))
   else if(P.underlying ft).isSome∧aB P ft=1 then match cs[off]? with | some x=>.val True x | none=>.bad
   else .bad
  | none=>.bad
 | _=>.bad
def dx(P:Program)(t:TypeId)(x ix:V):AR:=
 match dH P t,ix with
 | some e,.int _ i=>if aB P e=0 then .bad else match x with
  | .sl rows=>match rows[i.toNat]? with
   | some row=>.val (0≤i∧row.length=aB P e) (.cp row 0)
   | none=>.bad
  | .rd rows=>match rows[i.toNat]? with
   | some row=>.val (0≤i∧row.length=aB P e) (.cp row 0)
   | none=>.bad
  | _=>.bad
 | _,_=>.bad
def dL(P:Program)(h:Nat→Option Ob)(t:TypeId)(x ix:V):AR:=
 match dH P t,ix with
 | some e,.int _ i=>if aB P e=0 then .bad else match x with
  | .ref o n=>match h o with
   | some ob=>.val (0≤i∧i<n∧n=ob.rows.length∧ob.es=aB P e) (.ptr o n i.toNat 0)
   | none=>.bad
  | _=>.bad
 | _,_=>.bad
def Em(P:Program)(t:TypeId):Option (Nat×TypeId):=match P.underlying t with | some (.array n e)=>some (n,e) | _=>none
def cP{α:Type}(es:Nat):Nat→List α→List (List α)
 | 0,_=>[]
 | n+1,l=>l.take es::cP es n (l.drop es)
def nB(P:Program)(t:TypeId):AR:=match eW P t with
 | some z=>match Em P t with
  | some (m,e)=>if 0<m∧0<aB P e∧z.length=m*aB P e then .new True ⟨t,aB P e,false,cP (aB P e) m z⟩ false else .bad
  | none=>.new True ⟨t,aB P t,false,[z]⟩ false
 | none=>.bad
theorem iU(P:Program)(t:TypeId):nB P t=.bad∨∃ob,nB P t=.new True ob false:=by
 unfold nB
 split
 ·split
  ·split
   ·exact .inr ⟨_,rfl⟩
   ·exact .inl rfl
  ·exact .inr ⟨_,rfl⟩
 ·exact .inl rfl
def eo(P:Program)(h:Nat→Option Ob)(t:TypeId)(x ix:V):AR:=
 match Em P t,ix with
 | some (m,e),.int _ i=>if aB P e=0 then .bad else match x with
  | .ptr o n 0 0=>match h o with
   | some ob=>.val (0≤i∧i<m∧m=ob.rows.length∧n=ob.rows.length∧ob.es=aB P e) (.ptr o n i.toNat 0)
   | none=>.bad
  | _=>.bad
 | _,_=>.bad
def eH(P:Program)(t:TypeId)(x:V)(lo hi:Option V):AR:=
 match dH P t with
 | none=>.bad
 | some e=>if aB P e=0 then .bad else
  match lo,hi with
  | none,none=>.bad
  | none,some (.int _ h)=>match x with
   | .sl rows=>.val (0≤h∧h≤rows.length) (.sl (rows.take h.toNat))
   | .rd rows=>.val (0≤h∧h≤rows.length) (.rd (rows.take h.toNat))
   | .nil=>.val (h=0) .nil
   | _=>.bad
  | some (.int _ l),none=>match x with
   | .sl rows=>.val (0≤l∧l≤rows.length∧∀r∈rows,r.length=aB P e) (.sl (rows.drop l.toNat))
   | .rd rows=>.val (0≤l∧l≤rows.length∧∀r∈rows,r.length=aB P e) (.rd (rows.drop l.toNat))
   | .nil=>.val (l=0) .nil
   | _=>.bad
  | some (.int _ l),some (.int _ h)=>match x with
   | .sl rows=>.val (0≤l∧l≤h∧h≤rows.length∧∀r∈rows,r.length=aB P e) (.sl ((rows.take h.toNat).drop l.toNat))
   | .rd rows=>.val (0≤l∧l≤h∧h≤rows.length∧∀r∈rows,r.length=aB P e) (.rd ((rows.take h.toNat).drop l.toNat))
   | .nil=>.val (l=0∧h=0) .nil
   | _=>.bad
  | _,_=>.bad
def dQ(P:Program)(h:Nat→Option Ob)(t:TypeId)(x y:V):AR:=
 match dH P t,rowsOf h y with
 | some e,some new=>if aB P e=0∨(eW P e).isNone then .bad else match x with
  | .nil=>.new ((∀r∈new,r.length=aB P e)∧new.length*bytesOf P e≤140737488355328∧new.length≤maxLen) ⟨e,aB P e,false,new⟩ true
  | .ref o n=>match h o with
   | some ob=>.app (n=ob.rows.length∧ob.ty=e∧ob.es=aB P e∧(∀r∈new,r.length=aB P e)∧(n+new.length)*bytesOf P e≤140737488355328∧n+new.length≤maxLen) o
     {ob with rows:=ob.rows++new }
   | none=>.bad
  | _=>.bad
 | _,_=>.bad
def aj5:List V→Option V
 | [.int k a,.int k' b]=>if k=k' then some (.int k (if b>a then b else a))else none
 | _=>none
def aj4:List V→Option V
 | [.int k a,.int k' b]=>if k=k' then some (.int k (if b<a then b else a))else none
 | _=>none
def BC(P:Program)(g:FuncId):Bool:=match P.funcs[g]? with
 | some fn=>fn.body.isSome&&!(fn.name == "runtime.NumGoroutine")
 | none=>false
def fh(P:Program)(e:Operand→V)(h:Nat→Option Ob)(c:Call):AR:=
 match c.callee with
 | .value f=>match e f with
  | .fn g bZ=>if BC P g then .call g (c.args.toList.map e++bZ)else .bad
  | _=>.bad
 | .builtin .len=>match c.args.toList with
  | [x]=>match e x with
   | .str s=>.val (c.argTypes.toList.map P.underlying=[some .string]) (.int .i64 s.size)
   | v=>match lenOf v with
    | some n=>.val (v.live h∧c.argTypes.toList.map (fun t=>(dH P t).isSome)=[true]) (.int .i64 n)
    | none=>.bad
  | _=>.bad
 | .builtin .append=>match c.args.toList,c.argTypes.toList with
  | [x,y],[t,t']=>if t=t' then dQ P h t (e x) (e y)else .bad
  | _,_=>.bad
 | .builtin .max=>match aj5 (c.args.toList.map e)with | some v=>.val True v | none=>.bad
 | .builtin .min=>match aj4 (c.args.toList.map e)with | some v=>.val True v | none=>.bad
 | _=>.bad
def gF(P:Program)(o:Oper)(e:Operand→V)(h:Nat→Option Ob):AR:=
 match o.op with
 | .move x=>.val True (e x)
 | .assign x=>.val True (e x)
 | .pick c a b=>match e c with | .bool t=>.val True (if t then e a else e b) | _=>.bad
 | .alloc t=>nB P t
 | .box t x=>.new ((e x).fB h∧(e x).cells.length=aB P t) ⟨t,aB P t,!(e x).pure,[(e x).cells]⟩ false
 | .build t parts=>iD P h t (parts.toList.map fun q=>(q.1,e q.2))
 | .buildSlice t len parts=>cY P h t len (parts.toList.map fun q=>(q.1,e q.2))
 | .load t x=>if 0<aB P t then ic P h t (e x)else .bad
 | .store t x y=>if 0<aB P t then fg P h t (e x) (e y)else .bad
 | .binOp op t x y _=>match Gn P op t (e x) (e y)with | some (p,v)=>.val p v | none=>.bad
 | .unOp .not _ x=>match e x with | .bool b=>.val True (.bool (!b)) | _=>.bad
 | .unOp .neg _ x=>match e x with | .int k n=>.val True (.int k (k.wrap (0-n))) | _=>.bad
 | .convert src dst x=>match e x with
  | .int _ n=>match P.underlying src,P.underlying dst with
   | some _,some (.int k)=>.val True (.int k (k.wrap n))
   | _,_=>.bad
  | _=>.bad
 | .slice t x lo hi none=>eH P t (e x) (lo.map e) (hi.map e)
 | .fieldAddr t x f=>df P h t f (e x)
 | .field t x f=>kN P t f (e x)
 | .indexAddr t x i=>match e x with
  | .ref ..=>dL P h t (e x) (e i)
  | .ptr ..=>eo P h t (e x) (e i)
  | _=>dx P t (e x) (e i)
 | .extract x i=>match e x with | .kQ vs=>(match vs[i]? with | some v=>.val True v | none=>.bad) | _=>.bad
 | .makeFunc (.func f) first bZ=>if first.toList=[]∧(bZ.toList.map e).all V.K4 then .val True (.fn f (bZ.toList.map e))else .bad
 | .nilCheck x=>match e x with
  | .ptr o n i j=>.val (∃ob,h o=some ob∧n=ob.rows.length) (.ptr o n i j)
  | _=>.bad
 | .call c=>fh P e h c
 | .makeSlice t l c=>nY P t (e l) (e c)
 | _=>.bad
