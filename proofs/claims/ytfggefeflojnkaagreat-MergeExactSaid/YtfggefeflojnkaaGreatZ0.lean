/- AI. -/
import Derived.Laws.OwnMore
import Derived.Deep.RegionHeld3
import Derived.Deep.Cut
import Derived.Deep.AppendLies
import Derived.ArgAppend
import Derived.Test.YtfggefeflojnkaaGreatAxStable
set_option linter.unusedVariables false
namespace Go.AL
open Go.RowKit
def HB(W:World)(B:Nat)(t:TypeId)(cs:Array Value):Prop:=W.heap[B]? = some (.cells cs t (0,0))
section
variable {W W':World} {B:Nat} {t:TypeId} {cs:Array Value}
theorem HB.lt(h:HB W B t cs):B<W.heap.size:=(aAP.1 h).1
theorem HB.cell(h:HB W B t cs)(j:Nat):W.cell? ⟨B,j,none⟩=cs[j]?:=by simp[World.cell?,show W.heap[B]? = _ from h]
theorem HB.frozen(h:HB W B t cs)(j:Nat):W.frozen? ⟨B,j,none⟩=false:=by simp[World.frozen?,show W.heap[B]? = _ from h]
theorem HB.new(W:World)(t:TypeId)(cs:Array Value):HB (W.alloc (.cells cs t)) W.heap.size t cs:=heap_alloc_new W _
theorem HB.ev(h:HB W B t cs){X:Nat→Prop}(hb:Ev W W' X)(hX:¬ X B):HB W' B t cs:=(hb.block B h.lt hX).trans h
theorem HB.below(h:HB W B t cs){n:Nat}(hb:Below n W W')(bO:B<n):HB W' B t cs:=(hb.block B bO).trans h
theorem HB.alloc(h:HB W B t cs)(o:Obj):HB (W.alloc o) B t cs:=h.below ((Below.refl W.heap.size W).alloc (azJ _) o) h.lt
theorem HB.set(h:HB W B t cs)(j:Nat)(v:Value):HB (W.setCell ⟨B,j,none⟩ v) B t (cs.setIfInBounds j v):=by
 obtain⟨bO,hk⟩:=aAP.1 h;show(W.heap.modify B _)[B]? = _;grind
end
theorem Ev.rf(w:World)(X:Nat→Prop):Ev w w X:=⟨rfl,rfl,rfl,azJ _,fun _ _ _=>rfl⟩
theorem Ev.mono{w w':World}{X Y:Nat→Prop}(h:Ev w w' X)(hXY:∀b,b<w.heap.size→X b→Y b):Ev w w' Y:=⟨h.os,h.tape,h.output,h.size,fun k hk hY=>h.block k hk (fun hx=>hY (hXY k hk hx))⟩
theorem Ev.tr{w w1 w2:World}{X:Nat→Prop}(h:Ev w w1 X)(h':Ev w1 w2 X):Ev w w2 X:=
 ⟨h'.os.trans h.os,h'.tape.trans h.tape,h'.output.trans h.output,az0 h.size h'.size,fun k hk hX=>(h'.block k (az3 hk h.size) hX).trans (h.block k hk hX)⟩
theorem Ev.al{w w':World}{X:Nat→Prop}(h:Ev w w' X)(o:Obj):Ev w (w'.alloc o) X:=h.tr ⟨rfl,rfl,rfl,by simp,fun k hk _=>Below.heap_alloc _ _ _ hk⟩
theorem Ev.st{w w':World}{X:Nat→Prop}(h:Ev w w' X)(b j:Nat)(u:Value)(hb:X b∨w.heap.size≤b):Ev w (w'.setCell ⟨b,j,none⟩ u) X:=
 ⟨h.os,h.tape,h.output,by simpa [World.setCell]using h.size,fun k hk hX=>(Below.heap_setCell w' ⟨b,j,none⟩ u k (fun e=>by
  have e:k=b:=e;subst e;rcases hb with hb | hb
  ·exact hX hb
  ·omega)).trans (h.block k hk hX)⟩
theorem Ev.low{w w':World}{X:Nat→Prop}(h:Ev w w' X)(hX:∀b,¬ X b):Below w.heap.size w w':=⟨h.os,h.tape,h.output,h.size,fun k hk=>h.block k hk (hX k)⟩
theorem et{w w':World}(h:Below w.heap.size w w')(X:Nat→Prop):Ev w w' X:=⟨h.os,h.tape,h.output,h.size,fun k hk _=>h.block k hk⟩
def Cl(W:World)(A:Nat→Prop)(t:Ty)(x:t.T)(u:Value):Prop:=∃v,eM t x v∧aY W A v u
def Rw1(W:World)(A:Nat→Prop){B:Type}(f:B→Value→Prop):(τ:List Ty)→cI B τ→List Value→Prop
 | [],x,us=>∃u,us=[u]∧f x u
 | t::ts,x,us=>∃u r,us=u::r∧f (Prod.fst x) u∧Rw1 W A (Cl W A t) ts (Prod.snd x) r
def Rw(W:World)(A:Nat→Prop):(τ:List Ty)→aA τ→List Value→Prop
 | [],_,us=>us=[]
 | t::ts,x,us=>Rw1 W A (Cl W A t) ts x us
section
variable {w w':World} {A A':Nat→Prop}
theorem Xh{B:Type}{f:B→Value→Prop}{R:B→V→Prop}(hf:∀x v u,R x v→aY w A v u→f x u):∀(τ:List Ty) (x:cI B τ) (row:List V) (us:List Value),dz R τ x row→aJ (aY w A) row us→Rw1 w A f τ x us
 | [],x,row,us,h,ha=>by
  obtain⟨v,rfl,hv⟩:=qV.1 h
  match us,ha with
  | [u],ha=>exact⟨u,rfl,hf _ _ _ hv ha.1⟩
 | t::ts,x,row,us,h,ha=>by
  obtain⟨v,r,rfl,hv,hr⟩:=jA.1 h
  match us,ha with
  | u::us,ha=>exact⟨u,us,rfl,hf _ _ _ hv ha.1,Xh (fun x v u h1 h2=>⟨v,h1,h2⟩) ts _ r us hr ha.2⟩
theorem Ps{τ:List Ty}{x:aA τ}{row:List V}{us:List Value}(h:bW τ x row)(ha:aJ (aY w A) row us):Rw w A τ x us:=by
 cases τ with
 | nil=>
  have:=ou.1 h;subst this
  match us,ha with
  | [],_=>rfl
 | cons t ts=>exact Xh (fun x v u h1 h2=>⟨v,h1,h2⟩) ts x row us (jk.1 h) ha
theorem Xg{B:Type}{f:B→Value→Prop}{R:B→V→Prop}(hf:∀x u,f x u→∃v,R x v∧aY w A v u):∀(τ:List Ty) (x:cI B τ) (us:List Value),Rw1 w A f τ x us→∃row,dz R τ x row∧aJ (aY w A) row us
 | [],x,us,h=>by
  obtain⟨u,rfl,hu⟩:=h;obtain⟨v,h1,h2⟩:=hf _ _ hu;exact⟨[v],qV.2 ⟨v,rfl,h1⟩,h2,trivial⟩
 | t::ts,x,us,h=>by
  obtain⟨u,r,rfl,hu,hr⟩:=h;obtain⟨v,h1,h2⟩:=hf _ _ hu;obtain⟨row,h3,h4⟩:=Xg (fun x u h=>h) ts _ r hr;exact⟨v::row,jA.2 ⟨v,row,rfl,h1,h3⟩,h2,h4⟩
theorem DQ{τ:List Ty}{x:aA τ}{us:List Value}(h:Rw w A τ x us):∃row,bW τ x row∧aJ (aY w A) row us:=by
 cases τ with
 | nil=>
  have h:us=[]:=h;subst h;exact⟨[],ou.2 rfl,trivial⟩
 | cons t ts=>
  obtain⟨row,h1,h2⟩:=Xg (R:=eM t) (fun x u h=>h) ts x us h;exact⟨row,jk.2 h1,h2⟩
theorem Rw.one{τ:List Ty}{x:aA τ}{us:List Value}(h:Rw w A τ x us):∀u∈us,u.oneCell'=true:=fun u hu=>by
 obtain⟨row,h1,h2⟩:=DQ h;obtain⟨j,hj⟩:=aBW.1 hu;obtain⟨v,_,h3⟩:=h2.uS j u hj;exact h3.gT
theorem Cl.fr{t:Ty}{x:t.T}{u:Value}(h:Cl w A t x u)(hw:cz A w w')(hs:w.heap.size≤w'.heap.size)(hA:∀b,b<w.heap.size→A' b→A b):Cl w' A' t x u:=by
 obtain⟨v,h1,h2⟩:=h;exact⟨v,h1,h2.frame hw hs hA⟩
theorem Rw.fr{τ:List Ty}{x:aA τ}{us:List Value}(h:Rw w A τ x us)(hw:cz A w w')(hs:w.heap.size≤w'.heap.size)(hA:∀b,b<w.heap.size→A' b→A b):Rw w' A' τ x us:=by
 obtain⟨row,h1,h2⟩:=DQ h;exact Ps h1 (h2.mono fun a b h=>h.frame hw hs hA)
theorem Cl.ev{t:Ty}{x:t.T}{u:Value}(h:Cl w A t x u){X:Nat→Prop}(hw:Ev w w' X)(hX:∀b,b<w.heap.size→X b→A b)(hA:∀b,b<w.heap.size→A' b→A b):Cl w' A' t x u:=
 h.fr (fun b hb hn=>hw.block b hb (fun hx=>hn (hX b hb hx))) hw.size hA
theorem Rw.ev{τ:List Ty}{x:aA τ}{us:List Value}(h:Rw w A τ x us){X:Nat→Prop}(hw:Ev w w' X)(hX:∀b,b<w.heap.size→X b→A b)(hA:∀b,b<w.heap.size→A' b→A b):Rw w' A' τ x us:=
 h.fr (fun b hb hn=>hw.block b hb (fun hx=>hn (hX b hb hx))) hw.size hA
theorem Cl.int{k:IntKind}{n:Int}:Cl w A (.int k) n (.int k n):=⟨_,qS.2 rfl,.int _ _⟩
theorem Cl.bool{n:Bool}:Cl w A .bool n (.bool n):=⟨_,kM.2 rfl,.bool _⟩
theorem xh{k:IntKind}{n:Int}{u:Value}(h:Cl w A (.int k) n u):u=.int k n:=by
 obtain⟨v,h1,h2⟩:=h;have:=qS.1 h1;subst this;cases h2;rfl
theorem Gm{n:Bool}{u:Value}(h:Cl w A .bool n u):u=.bool n:=by
 obtain⟨v,h1,h2⟩:=h;have:=kM.1 h1;subst this;cases h2;rfl
end
def cvC:(t:Ty)→t.T→List Value→Value×List Value
 | .int k,n,ps=>(.int k n,ps)
 | .bool,b,ps=>(.bool b,ps)
 | .str,b,ps=>(.string b,ps)
 | .sl _,_,ps=>(ps.headD undef,ps.tail)
def ZZ{B:Type}(c:B→List Value→Value×List Value):(τ:List Ty)→cI B τ→List Value→List Value
 | [],x,ps=>[(c x ps).1]
 | t::ts,x,ps=>(c (Prod.fst x) ps).1::ZZ (cvC t) ts (Prod.snd x) (c (Prod.fst x) ps).2
def Xf:(τ:List Ty)→aA τ→List Value→List Value
 | [],_,_=>[]
 | t::ts,x,ps=>ZZ (cvC t) ts x ps
def cvP(w:World)(A:Nat→Prop):(t:Ty)→t.T→List Value→(List Value→Prop)→Prop
 | .sl σ,x,ps,K=>∃p r,ps=p::r∧Cl w A (.sl σ) x p∧K r
 | .int _,_,ps,K=>K ps
 | .bool,_,ps,K=>K ps
 | .str,_,ps,K=>K ps
def ag3(w:World)(A:Nat→Prop){B:Type}(g:B→List Value→(List Value→Prop)→Prop):(τ:List Ty)→cI B τ→List Value→Prop
 | [],x,ps=>g x ps (fun r=>r=[])
 | t::ts,x,ps=>g (Prod.fst x) ps (ag3 w A (cvP w A t) ts (Prod.snd x))
def Xe(w:World)(A:Nat→Prop):(τ:List Ty)→aA τ→List Value→Prop
 | [],_,ps=>ps=[]
 | t::ts,x,ps=>ag3 w A (cvP w A t) ts x ps
section
variable {w:World} {A:Nat→Prop}
theorem aiH(t:Ty)(x:t.T)(u:Value)(h:Cl w A t x u):∃q:List Value,(∀(r:List Value) (K:List Value→Prop),K r→cvP w A t x (q++r) K)∧∀r,cvC t x (q++r)=(u,r):=by
 cases t with
 | int k=>obtain rfl:=xh h;exact⟨[],fun r K h=>h,fun r=>rfl⟩
 | bool=>obtain rfl:=Gm h;exact⟨[],fun r K h=>h,fun r=>rfl⟩
 | str=>
  obtain⟨v,h1,h2⟩:=h;have:=tO.1 h1;subst this;cases h2;exact⟨[],fun r K h=>h,fun r=>rfl⟩
 | sl σ=>exact⟨[u],fun r K hk=>⟨u,r,rfl,h,hk⟩,fun r=>rfl⟩
theorem aiI(t:Ty)(x:t.T)(ps:List Value)(K:List Value→Prop)(h:cvP w A t x ps K):K (cvC t x ps).2∧Cl w A t x (cvC t x ps).1:=by
 cases t with
 | int k=>exact⟨h,Cl.int⟩
 | bool=>exact⟨h,Cl.bool⟩
 | str=>exact⟨h,⟨_,tO.2 rfl,.str _⟩⟩
 | sl σ=>obtain⟨p,r,rfl,h1,h2⟩:=h;exact⟨h2,h1⟩
theorem Z0:∀(τ:List Ty) {B:Type} {f:B→Value→Prop} {g:B→List Value→(List Value→Prop)→Prop} {c:B→List Value→Value×List Value} (hf:∀(x:B) (u:Value),f x u→∃q:List Value,(∀(r:List Value) (K:List Value→Prop),K r→g x (q++r) K)∧∀r,c x (q++r)=(u,r)) (x:cI B τ) (us:List Value),
  Rw1 w A f τ x us→∃ps,ag3 w A g τ x ps∧us=ZZ c τ x ps
 | [],B,f,g,c,hf,x,us,h=>by
  obtain⟨u,rfl,hu⟩:=h;obtain⟨q,h1,h2⟩:=hf x u hu;refine⟨q++[],h1 _ _ rfl,?_⟩;show[u]=[(c x (q++[])).1];rw[h2]
 | t::ts,B,f,g,c,hf,x,us,h=>by
  obtain⟨u,r,rfl,hu,hr⟩:=h;obtain⟨q,h1,h2⟩:=hf _ u hu;obtain⟨ps,h3,h4⟩:=Z0 ts (aiH t) _ r hr;refine⟨q++ps,h1 _ _ h3,?_⟩;grind[ZZ,cvC]
theorem Z1:∀(τ:List Ty) {B:Type} {f:B→Value→Prop} {g:B→List Value→(List Value→Prop)→Prop} {c:B→List Value→Value×List Value} (hf:∀(x:B) (ps:List Value) (K:List Value→Prop),g x ps K→K (c x ps).2∧f x (c x ps).1) (x:cI B τ) (ps:List Value),
  ag3 w A g τ x ps→Rw1 w A f τ x (ZZ c τ x ps)
 | [],B,f,g,c,hf,x,ps,h=>⟨_,rfl,(hf x ps _ h).2⟩
 | t::ts,B,f,g,c,hf,x,ps,h=>⟨_,_,rfl,(hf _ ps _ h).2,Z1 ts (aiI t) _ _ (hf _ ps _ h).1⟩
theorem Rw.to{τ:List Ty}{x:aA τ}{us:List Value}(h:Rw w A τ x us):∃ps,Xe w A τ x ps∧us=Xf τ x ps:=by
 cases τ with
 | nil=>exact⟨[],rfl,h⟩
 | cons t ts=>exact Z0 ts (aiH t) x us h
theorem Rw.of{τ:List Ty}{x:aA τ}{ps:List Value}(h:Xe w A τ x ps):Rw w A τ x (Xf τ x ps):=by
 cases τ with
 | nil=>rfl
 | cons t ts=>exact Z1 ts (aiI t) x ps h
end
def Sl(W:World)(A X:Nat→Prop)(τ:List Ty)(xs:List (aA τ))(u:Value):Prop:=∃rows,bD τ xs rows∧gF W A X rows u
section
variable {w w':World} {A A' X X':Nat→Prop} {τ:List Ty} {xs:List (aA τ)} {u:Value}
theorem cH:Cl w A (.sl τ) xs u↔Sl w A A τ xs u:=by
 constructor
 ·rintro⟨v,h1,h2⟩
  rcases jv.1 h1 with⟨e,rfl⟩ | ⟨rows,rfl,h3⟩
  ·cases h2
   have e:xs=[]:=e;subst e;exact⟨[],trivial,.inl ⟨⟨_,rfl⟩,rfl⟩⟩
  ·exact⟨rows,h3,me.1 h2⟩
 ·rintro⟨rows,h1,h2⟩
  exact⟨_,jv.2 (.inr ⟨rows,rfl,h1⟩),me.2 h2⟩
theorem Sl.fr(h:Sl w A X τ xs u)(hw:cz A w w')(hwX:cz X w w')(hs:w.heap.size≤w'.heap.size)(hA:∀b,b<w.heap.size→A' b→A b)(hX:∀b,b<w.heap.size→X' b→X b):Sl w' A' X' τ xs u:=by
 obtain⟨rows,h1,h2⟩:=h;exact⟨rows,h1,h2.frame hw hwX hs hA hX⟩
theorem Sl.low(h:Sl w A X τ xs u)(hb:Below w.heap.size w w'):Sl w' A X τ xs u:=h.fr (fun b gW _=>hb.block b gW) (fun b gW _=>hb.block b gW) hb.size (fun _ _ h=>h) (fun _ _ h=>h)
theorem Sl.form(h:Sl w A X τ xs u):∃a c,u=.slice a (xs.length:Nat) c:=by
 obtain⟨rows,h1,h2⟩:=h;have hl:xs.length=rows.length:=h1.len;rcases h2 with⟨⟨a,rfl⟩,rfl⟩ | ⟨b,off,cap,es,f,rfl,_⟩
 all_goals simp_all
theorem Sl.get(h:Sl w A X τ xs u){i:Nat}{x:aA τ}(hx:xs[i]? = some x):∃b off c us,u=.slice (some ⟨b,off,none⟩) (xs.length:Nat) c∧b<w.heap.size∧¬ X b∧Rw w A τ x us∧us.length=τ.length∧∀(j:Nat) (v:Value),us[j]? = some v→w.cell? ⟨b,off+i*τ.length+j,none⟩=some v:=by
 obtain⟨rows,h1,h2⟩:=h;have hl:xs.length=rows.length:=h1.len;obtain⟨row,hr,hrv⟩:=aJ.get h1 i x hx;rcases h2 with⟨⟨a,rfl⟩,rfl⟩ | ⟨b,off,cap,es,f,rfl,jM,hb,bI,hc,hrel⟩
 ·simp at hr
 ·have dU:rows ≠ []:=fun e=>by rw[e]at hr;simp at hr
  have hlr:=ib hrv;have he:es=τ.length:=by grind
  subst he
  let us:=(List.range row.length).map (f i)
  have gV:∀(j:Nat) (v:V),row[j]? = some v→us[j]? = some (f i j):=fun j v hv=>by
   grind
  have ha:aJ (aY w A) row us:=by
   have key:∀(row:List V) (us:List Value),row.length=us.length→(∀(j:Nat) (v:V) (q:Value),row[j]? = some v→us[j]? = some q→aY w A v q)→aJ (aY w A) row us:=by
    intro row;induction row with
    | nil=>intro us h _;cases us with
     | nil=>trivial
     | cons _ _=>simp at h
    | cons a row ih=>intro us h hr;cases us with
     | nil=>simp at h
     | cons q us=>exact⟨hr 0 a q rfl rfl,ih us (by simpa using h) (fun j v q h1 h2=>hr (j+1) v q (by simpa using h1) (by simpa using h2))⟩
   grind
  refine⟨b,off,cap,us,by rw[hl],(hb dU).1,(hb dU).2,Ps hrv ha,by simp[us,hlr],fun j v hv=>?_⟩;have hj:j<row.length:=by
   grind
  simp_all
theorem Sl.nil(a:Option Addr):Sl w A X τ [] (.slice a 0 0):=⟨[],trivial,.inl ⟨⟨a,rfl⟩,rfl⟩⟩
end
def Ag(W:World)(A:Nat→Prop)(k:AK)(x:k.T)(u:Value):Prop:=∃v,lZ k x v∧Rel ⟨W,A,fB,iE⟩ v u
def ahF(W:World)(A:Nat→Prop){B:Type}(f:B→Value→Prop):(ks:List AK)→dA.ky B ks→List Value→Prop
 | [],x,us=>∃u,us=[u]∧f x u
 | k::ks,x,us=>∃u r,us=u::r∧f (Prod.fst x) u∧ahF W A (Ag W A k) ks (Prod.snd x) r
def yE(W:World)(A:Nat→Prop):(ks:List AK)→dA ks→List Value→Prop
 | [],_,us=>us=[]
 | k::ks,x,us=>ahF W A (Ag W A k) ks x us
section
variable {w w':World} {A A':Nat→Prop}
theorem Ag.c{t:Ty}{x:t.T}{u:Value}(h:Cl w A t x u):Ag w A (.c t) x u:=by
 obtain⟨v,h1,h2⟩:=h;have h2:aY (⟨w,A,fB,iE⟩:Env).w (⟨w,A,fB,iE⟩:Env).A v u:=h2;exact⟨v,h1,(cD.aN h2).rel⟩
theorem Ag.int{k:IntKind}{n:Int}:Ag w A (.c (.int k)) n (.int k n):=Ag.c Cl.int
theorem Ag.g{τ:List Ty}{x:aA τ}{us:Array Value}(h:Rw w A τ x us.toList):Ag w A (.g τ) x (.agg us):=by
 obtain⟨row,h1,h2⟩:=DQ h;refine⟨.agg row,⟨row,rfl,h1⟩,⟨us,rfl,by rw[h2.len];simp,fun i v hv=>?_⟩⟩;obtain⟨u,h3,h4⟩:=h2.get i v hv;grind
theorem Ag.rd{τ:List Ty}{xs:List (aA τ)}{u:Value}(h:Sl w A (fun _=>False) τ xs u):Ag w A (.rd τ) xs u:=by
 obtain⟨rows,h1,h2⟩:=h;refine⟨.rd rows,⟨rows,rfl,h1⟩,?_⟩;show gF w A (⟨w,A,fB,iE⟩:Env).M rows u;exact h2.frame (cz.refl _ _) (cz.refl _ _) (azJ _) (fun _ _ h=>h) (fun b _ h=>by obtain⟨o,ob,h1,_⟩:=h;cases h1)
theorem Ag.rdc{τ:List Ty}{xs:List (aA τ)}{u:Value}(h:Cl w A (.sl τ) xs u):Ag w A (.rd τ) xs u:=by
 have h:=cH.1 h;exact Ag.rd (h.fr (cz.refl _ _) (cz.refl _ _) (azJ _) (fun _ _ h=>h) (fun b _ h=>h.elim))
theorem yE.one{k:AK}{x:k.T}{u:Value}(h:Ag w A k x u):yE w A [k] x [u]:=⟨u,rfl,h⟩
theorem yE.two{k k1:AK}{x:k.T}{x1:k1.T}{u u1:Value}(h:Ag w A k x u)(h1:Ag w A k1 x1 u1):yE w A [k,k1] (x,x1) [u,u1]:=⟨u,[u1],rfl,h,u1,rfl,h1⟩
theorem yE.three{k k1 k2:AK}{x:k.T}{x1:k1.T}{x2:k2.T}{u u1 u2:Value}(h:Ag w A k x u)(h1:Ag w A k1 x1 u1)(h2:Ag w A k2 x2 u2):yE w A [k,k1,k2] (x,x1,x2) [u,u1,u2]:=⟨u,_,rfl,h,u1,_,rfl,h1,u2,rfl,h2⟩
theorem QK{B:Type}{f:B→Value→Prop}{R:B→V→Prop}(hf:∀x u,f x u→∃v,R x v∧Rel ⟨w,A,fB,iE⟩ v u):∀(ks:List AK) (x:dA.ky B ks) (us:List Value),ahF w A f ks x us→∃vs,ed R ks x vs∧aJ (Rel ⟨w,A,fB,iE⟩) vs us
 | [],x,us,h=>by
  obtain⟨u,rfl,hu⟩:=h;obtain⟨v,h1,h2⟩:=hf _ _ hu;exact⟨[v],⟨v,rfl,h1⟩,h2,trivial⟩
 | k::ks,x,us,h=>by
  obtain⟨u,r,rfl,hu,hr⟩:=h;obtain⟨v,h1,h2⟩:=hf _ _ hu;obtain⟨row,h3,h4⟩:=QK (fun x u h=>h) ks _ r hr;exact⟨v::row,⟨v,row,rfl,h1,h3⟩,h2,h4⟩
theorem aaF:∀{ks:List AK} {x:dA ks} {us:List Value},yE w A ks x us→∃vs,bY ks x vs∧aJ (Rel ⟨w,A,fB,iE⟩) vs us
 | [],x,us,h=>by
  have h:us=[]:=h;subst h;exact⟨[],rfl,trivial⟩
 | k::ks,x,us,h=>QK (fun x u h=>h) ks x us h
theorem QL{B:Type}{f:B→Value→Prop}{R:B→V→Prop}(hf:∀x v u,R x v→Rel ⟨w,A,fB,iE⟩ v u→f x u):∀(ks:List AK) (x:dA.ky B ks) (vs:List V) (us:List Value),ed R ks x vs→aJ (Rel ⟨w,A,fB,iE⟩) vs us→ahF w A f ks x us
 | [],x,vs,us,h,ha=>by
  obtain⟨v,rfl,hv⟩:=h
  match us,ha with
  | [u],ha=>exact⟨u,rfl,hf _ _ _ hv ha.1⟩
 | k::ks,x,vs,us,h,ha=>by
  obtain⟨v,r,rfl,hv,hr⟩:=h
  match us,ha with
  | u::us,ha=>exact⟨u,us,rfl,hf _ _ _ hv ha.1,QL (fun x v u h1 h2=>⟨v,h1,h2⟩) ks _ r us hr ha.2⟩
theorem anh:∀{ks:List AK} {x:dA ks} {vs:List V} {us:List Value},bY ks x vs→aJ (Rel ⟨w,A,fB,iE⟩) vs us→yE w A ks x us
 | [],x,vs,us,h,ha=>by
  have h:vs=[]:=h;subst h
  match us,ha with
  | [],_=>rfl
 | k::ks,x,vs,us,h,ha=>QL (fun x v u h1 h2=>⟨v,h1,h2⟩) ks x vs us h ha
theorem aaG{t:Ty}{x:t.T}{u:Value}(h:Ag w A (.c t) x u):Cl w A t x u:=by
 obtain⟨v,h1,h2⟩:=h;have h1:eM t x v:=h1;refine⟨v,h1,?_⟩;cases t with
 | int k=>have:=qS.1 h1;subst this;exact h2
 | bool=>have:=kM.1 h1;subst this;exact h2
 | str=>have:=tO.1 h1;subst this;exact h2
 | sl cs=>rcases jv.1 h1 with⟨_,rfl⟩ | ⟨rows,rfl,_⟩<;>exact h2
theorem aq6{τ:List Ty}{x:aA τ}{u:Value}(h:Ag w A (.g τ) x u):∃us:Array Value,u=.agg us∧Rw w A τ x us.toList:=by
 obtain⟨v,⟨row,rfl,h1⟩,us,rfl,hs,hc⟩:=h;refine⟨us,rfl,Ps h1 ?_⟩;have key:∀(row:List V) (us:List Value),row.length=us.length→(∀(j:Nat) (v:V) (q:Value),row[j]? = some v→us[j]? = some q→aY w A v q)→aJ (aY w A) row us:=by
  intro row;induction row with
  | nil=>intro us h _;cases us with
   | nil=>trivial
   | cons _ _=>simp at h
  | cons a row ih=>intro us h hr;cases us with
   | nil=>simp at h
   | cons q us=>exact⟨hr 0 a q rfl rfl,ih us (by simpa using h) (fun j v q h1 h2=>hr (j+1) v q (by simpa using h1) (by simpa using h2))⟩
 grind
theorem aq5{τ:List Ty}{xs:List (aA τ)}{u:Value}(h:Ag w A (.rd τ) xs u):Sl w A (fun _=>False) τ xs u:=by
 obtain⟨v,⟨rows,rfl,h1⟩,h2⟩:=h;have h2:gF w A (⟨w,A,fB,iE⟩:Env).M rows u:=h2;exact⟨rows,h1,h2.frame (cz.refl _ _) (cz.refl _ _) (azJ _) (fun _ _ h=>h) (fun b _ h=>h.elim)⟩
end
def aR(W:World)(A:Nat→Prop)(n0:Nat)(ty:TypeId)(es:Nat)(τ:List Ty)(xs:List (aA τ))(u:Value):Prop:=
 (u=.slice none 0 0∧xs=[])∨∃g cap cur,u=.slice (some ⟨g,0,none⟩) (xs.length:Nat) cap∧n0≤g∧HB W g ty cur∧cur.size=cap*es∧xs.length≤cap∧cap≤maxLen∧
  ∀(i:Nat) (x:aA τ),xs[i]? = some x→∃us,Rw W A τ x us∧us.length=es∧∀(j:Nat) (v:Value),us[j]? = some v→cur[i*es+j]? = some v
section
variable {w w':World} {A A':Nat→Prop} {n0 es:Nat} {ty:TypeId} {τ:List Ty} {xs:List (aA τ)} {u:Value}
theorem aR.lt(h:aR w A n0 ty es τ xs u){g:Nat}(hg:u.ownBlock=some g):n0≤g∧g<w.heap.size:=by
 rcases h with⟨rfl,_⟩ | ⟨g',cap,cur,rfl,h1,h2,_⟩
 ·cases hg
 ·cases hg;exact⟨h1,h2.lt⟩
theorem aR.one(h:aR w A n0 ty es τ xs u):u.oneCell'=true:=by
 rcases h with⟨rfl,_⟩ | ⟨g',cap,cur,rfl,_⟩<;>rfl
theorem aR.form(h:aR w A n0 ty es τ xs u):∃a c,u=.slice a (xs.length:Nat) c:=by
 rcases h with⟨rfl,rfl⟩ | ⟨g',cap,cur,rfl,_⟩<;>exact⟨_,_,rfl⟩
theorem aR.ev(h:aR w A n0 ty es τ xs u){X:Nat→Prop}(hw:Ev w w' X)(hX:∀b,b<w.heap.size→X b→A b)(hA:∀b,b<w.heap.size→A' b→A b)(hg:∀g,u.ownBlock=some g→¬ X g):aR w' A' n0 ty es τ xs u:=by
 rcases h with h | ⟨g,cap,cur,rfl,h1,h2,h3,h4,h5,h6⟩
 ·exact .inl h
 ·refine .inr ⟨g,cap,cur,rfl,h1,h2.ev hw (hg g rfl),h3,h4,h5,fun i x hx=>?_⟩
  obtain⟨us,e1,e2,e3⟩:=h6 i x hx;exact⟨us,e1.ev hw hX hA,e2,e3⟩
theorem aR.mono(h:aR w A n0 ty es τ xs u){n1:Nat}(hn:n1≤n0):aR w A n1 ty es τ xs u:=by
 rcases h with h | ⟨g,cap,cur,rfl,h1,h2⟩
 ·exact .inl h
 ·exact .inr ⟨g,cap,cur,rfl,az0 hn h1,h2⟩
theorem aR.sl(h:aR w A n0 ty es τ xs u)(bI:es=τ.length){X:Nat→Prop}(hX:∀g,u.ownBlock=some g→¬ X g):Sl w A X τ xs u:=by
 rcases h with⟨rfl,rfl⟩ | ⟨g,cap,cur,rfl,h1,h2,h3,h4,h5,h6⟩
 ·exact Sl.nil none
 ·subst bI
  have key:∀(l:List (aA τ)) (k:Nat),(∀(i:Nat) (x:aA τ),l[i]? = some x→∃us,Rw w A τ x us∧us.length=τ.length∧∀(j:Nat) (v:Value),us[j]? = some v→cur[(k+i)*τ.length+j]? = some v)→
    ∃rows,bD τ l rows∧(∀row∈rows,row.length=τ.length)∧∀(i:Nat) (row:List V),rows[i]? = some row→∀(j:Nat) (x:V),row[j]? = some x→∃q,cur[(k+i)*τ.length+j]? = some q∧aY w A x q:=by
   intro l;induction l with
   | nil=>intro k _;exact⟨[],trivial,fun r h=>(by cases h),fun i row h=>by simp at h⟩
   | cons x l ih=>
    intro k hl;obtain⟨us,e1,e2,e3⟩:=hl 0 x rfl;obtain⟨row,r1,r2⟩:=DQ e1;obtain⟨rows,r3,r4,r5⟩:=ih (k+1) (fun i y hy=>by
     obtain⟨us,e1,e2,e3⟩:=hl (i+1) y (by grind);refine⟨us,e1,e2,fun j v hv=>?_⟩;rw[show k+1+i=k+(i+1)by omega];exact e3 j v hv)
    refine⟨row::rows,⟨r1,r3⟩,fun r hr=>?_,fun i rr hi j y hy=>?_⟩
    ·rcases azW.1 hr with rfl | hr
     ·rw[ib r1]
     ·exact r4 r hr
    ·cases i with
     | zero=>
      simp at hi;subst hi;obtain⟨q,q1,q2⟩:=r2.get j y hy;exact⟨q,e3 j q q1,q2⟩
     | succ i=>
      obtain⟨q,q1,q2⟩:=r5 i rr (by grind) j y hy;exact⟨q,by rw[show k+(i+1)=k+1+i by omega];exact q1,q2⟩
  obtain⟨rows,r1,r2,r3⟩:=key xs 0 (fun i x hx=>by simpa using h6 i x hx);have hl:xs.length=rows.length:=r1.len;refine⟨rows,r1,.inr ⟨g,0,cap,τ.length,fun i j=>(cur[i*τ.length+j]?).getD undef,by rw[hl],by omega,fun _=>⟨h2.lt,hX g rfl⟩,r2,fun i row hi j x hx=>?_,fun i row hi j x hx=>?_⟩⟩
  ·obtain⟨q,q1,q2⟩:=r3 i row hi j x hx
   rw[az8]at q1;show w.cell? ⟨g,0+i*τ.length+j,none⟩=some ((cur[i*τ.length+j]?).getD undef);rw[h2.cell,az8,q1];rfl
  grind
theorem aR.cl(h:aR w A n0 ty es τ xs u)(bI:es=τ.length)(hA:∀g,u.ownBlock=some g→¬ A g):Cl w A (.sl τ) xs u:=cH.2 (h.sl bI hA)
theorem aR.row(h:aR w A n0 ty es τ xs u):∃cs,w.ownsRow n0 ty es u xs.length cs∧∀(i:Nat) (x:aA τ),xs[i]? = some x→∃us,Rw w A τ x us∧us.length=es∧∀(j:Nat) (v:Value),us[j]? = some v→cs[i*es+j]? = some v:=by
 rcases h with⟨rfl,rfl⟩ | ⟨g,cap,cur,rfl,h1,h2,h3,h4,h5,h6⟩
 ·exact⟨[],World.ownsRow_nil w n0 ty es,fun i x h=>by simp at h⟩
 ·have hle:xs.length*es≤cur.size:=by rw[h3];exact aAh _ h4
  refine⟨cur.toList.take (xs.length*es),⟨by rw[az5,aAU];exact aBA hle,.inr ⟨g,cap,cur,rfl,h1,h2,h4,h5,h3,rfl⟩⟩,fun i x hx=>?_⟩;obtain⟨us,e1,e2,e3⟩:=h6 i x hx;refine⟨us,e1,e2,fun j v hv=>?_⟩;have hj:j<es:=by grind
  have hi:i<xs.length:=(azR.1 hx).1;have hb:i*es+j<xs.length*es:=by
   have h7:(i+1)*es≤xs.length*es:=aAh _ hi;grind
  grind
theorem aR.MW{cs:List Value}(h:w.ownsRow n0 ty es u xs.length cs)(hc:∀(i:Nat) (x:aA τ),xs[i]? = some x→∃us,Rw w A τ x us∧us.length=es∧∀(j:Nat) (v:Value),us[j]? = some v→cs[i*es+j]? = some v):aR w A n0 ty es τ xs u:=by
 obtain⟨h0,h1⟩:=h;rcases h1 with⟨rfl,h2⟩ | ⟨g,cap,cur,rfl,h2,h3,h4,h5,h6,h7⟩
 ·exact .inl ⟨rfl,aBs.1 h2⟩
 ·refine .inr ⟨g,cap,cur,rfl,h2,h3,h6,h4,h5,fun i x hx=>?_⟩
  grind
theorem aR.app{P:Program}{t:TypeId}{i0:TypeInfo}{z:Value}{bytes:Nat}(ht:P.underlying t=some (.slice ty))(hi:P.info? ty=some i0)(hz:i0.zero=some z)(apK:i0.size=es)(V4:i0.bytes=bytes)(P7:z.cells.size=es)(dO:0<es)
  (h:aR w A n0 ty es τ xs u) {x:aA τ} {us:List Value} (hx:Rw w A τ x us) (hl:us.length=es) {bx off c:Nat} (hb:∀(j:Nat) (v:Value),us[j]? = some v→w.cell? ⟨bx,off+j,none⟩=some v)
  (hm:xs.length+1≤maxLen) (BP:(xs.length+1)*bytes≤140737488355328) (hn:n0≤w.heap.size) (hA:∀g,u.ownBlock=some g→A g) :
  ∃g cap w',(Builtin.append_ #[t,t] t #[u,.slice (some ⟨bx,off,none⟩) 1 c]).run P w=.ok (.slice (some ⟨g,0,none⟩) (xs.length+1) cap) w'∧(∀A':Nat→Prop,(∀b,b<w.heap.size→A' b→A b)→aR w' A' n0 ty es τ (xs++[x]) (.slice (some ⟨g,0,none⟩) (xs.length+1) cap))∧
   Ev w w' (fun b=>u.ownBlock=some b)∧(u.ownBlock=some g∨g=w.heap.size):=by
 obtain⟨cs,h1,h2⟩:=h.row;obtain⟨g,cap,w',hr,eU,iu,fP,bO⟩:=run_append_lies (P:=P) w t t n0 ty i0 z es bytes ht hi hz apK V4 P7 dO u xs.length cs h1 ⟨bx,off,none⟩ 1 c us (by omega) (fun j v hv=>by rw[Addr.add_mid];exact hb j v hv) hx.one (by omega) hm BP hn w.heap.size rfl;have bm:Ev w w' (fun b=>u.ownBlock=some b):=⟨iu.os,iu.tape,iu.output,iu.size,fun k hk dU=>iu.block k hk (fun e=>dU e.symm)⟩;refine⟨g,cap,w',hr,fun A' nW=>?_,bm,fP⟩;have apV:w'.ownsRow n0 ty es (.slice (some ⟨g,0,none⟩) (xs.length+1) cap) (xs++[x]).length (cs++us):=by grind
 have Zt:=aR.MW (A:=A') apV (fun i y hy=>?_)
 ·exact Zt
 ·have rX:cs.length=xs.length*es:=h1.1
  by_cases hi:i<xs.length
  ·rw[aAg hi]at hy
   obtain⟨AM,e1,e2,e3⟩:=h2 i y hy;refine⟨AM,e1.ev bm (fun b _ hb=>hA b hb) nW,e2,fun j v hv=>?_⟩;grind
  ·have Zo:i=xs.length:=by
    grind
   subst Zo;simp at hy;subst hy;refine⟨us,hx.ev bm (fun b _ hb=>hA b hb) nW,hl,fun j v hv=>?_⟩;grind
end
def Rs(W:World)(A:Nat→Prop)(n0:Nat):(k:RK)→k.T→Value→Prop
 | .v t,x,u=>Cl W A t x u
 | .g τ,x,u=>∃us:Array Value,u=.agg us∧Rw W A τ x us.toList
 | .o ty es τ,l,u=>aR W A n0 ty es τ l u∧∀g,u.ownBlock=some g→A g
def anj(W:World)(A:Nat→Prop)(n0:Nat){B:Type}(f:B→Value→Prop):(ks:List RK)→eC.jV B ks→List Value→Prop
 | [],x,us=>∃u,us=[u]∧f x u
 | k::ks,x,us=>∃u r,us=u::r∧f (Prod.fst x) u∧anj W A n0 (Rs W A n0 k) ks (Prod.snd x) r
def Rss(W:World)(A:Nat→Prop)(n0:Nat):(ks:List RK)→eC ks→List Value→Prop
 | [],_,us=>us=[]
 | k::ks,x,us=>anj W A n0 (Rs W A n0 k) ks x us
section
variable {w w':World} {A A':Nat→Prop} {rds:List RD} {us:List Value} {β':Nat→Option Nat}
theorem MQ{n0:Nat}{H:Nat→Option Ob}{k:Nat}{ty es:Nat}{rows:List (List V)}(cR:H k=some ⟨ty,es,false,rows⟩)(bZ:bU ⟨w',A',H,β'⟩)(hn:∀b,β' k=some b→n0≤b){q:Value}(hq:QM ⟨w',A',H,β'⟩ ⟨ty,es,false,rows⟩ (β' k) rows.length q):
  (∀g,q.ownBlock=some g→A' g)∧∀(σ:List Ty) (xs:List (aA σ)),bD σ xs rows→aR w' A' n0 ty es σ xs q:=by
 have aO:=bZ.ok k _ cR;simp only at aO;have h1:=hq.2 rfl;cases hb:β' k with
 | none=>
  rw[hb]at aO h1;have h1:q=.slice none 0 0:=h1;have aO:rows=[]:=aO;subst h1;subst aO;refine⟨(fun g hg=>by cases hg),fun σ xs hx=>.inl ⟨rfl,?_⟩⟩;exact aBs.1 (aJ.len hx)
 | some b=>
  rw[hb]at aO h1;obtain⟨cap,cur,rfl,h2,h3,h4,h5⟩:=h1;obtain⟨ha,cur',h6,h7,h8,h9⟩:=aO;simp only at h4 h6;rw[h4]at h6;cases h6;refine⟨(fun g hg=>by cases hg;exact ha),fun σ xs hx=>.inr ⟨b,cap,cur,by rw[show xs.length=rows.length from aJ.len hx],hn b hb,h4,h5,by rw[show xs.length=rows.length from aJ.len hx];exact h2,h3,fun i x hxi=>?_⟩⟩;obtain⟨row,hr,hrv⟩:=aJ.get hx i x hxi;have V5:=h9 i row hr;have key:∀(row:List V) (m:Nat),(∀(j:Nat) (x:V),row[j]? = some x→∃v,cur[m+j]? = some v∧v.oneCell'=true∧bw ⟨w',A',H,β'⟩ x v∧(false=false→aY w' A' x v))→∃us,aJ (aY w' A') row us∧∀(j:Nat) (v:Value),us[j]? = some v→cur[m+j]? = some v:=by
   intro row;induction row with
   | nil=>intro m _;exact⟨[],trivial,fun j v h=>by simp at h⟩
   | cons a row ih=>
    intro m hr;obtain⟨v,e1,_,_,e4⟩:=hr 0 a rfl;obtain⟨us,e5,e6⟩:=ih (m+1) (fun j x hj=>by
     obtain⟨v,e1,e2⟩:=hr (j+1) x (by grind);grind)
    refine⟨v::us,⟨e4 rfl,e5⟩,fun j q hq=>?_⟩;grind
  obtain⟨us,e1,e2⟩:=key row (i*es) V5;have he:row.length=es:=h7 row (azO hr);exact⟨us,Ps hrv e1,by rw[← e1.len,he],e2⟩
theorem ahP(h:vu w A rds w' us β' A'){k:Nat}{rk:RK}{x:rk.T}{rd:RD}(hk:rds[k]? = some rd)(hv:tn rk x rd):∃u,us[k]? = some u∧Rs w' A' w.heap.size rk x u:=by
 obtain⟨u,hu,hr⟩:=h.rel k rd hk;refine⟨u,hu,?_⟩;cases rk with
 | v t=>
  obtain⟨y,rfl,hy⟩:=hv;refine⟨y,hy,?_⟩;cases t with
  | int k=>have:=qS.1 hy;subst this;exact hr
  | bool=>have:=kM.1 hy;subst this;exact hr
  | str=>have:=tO.1 hy;subst this;exact hr
  | sl cs=>rcases jv.1 hy with⟨_,rfl⟩ | ⟨rows,rfl,_⟩<;>exact hr
 | g τ=>
  obtain⟨row,rfl,hy⟩:=hv;have hr:Rel ⟨w',A',fB,iE⟩ (.agg row) u:=hr;exact aq6 ⟨.agg row,⟨row,rfl,hy⟩,hr⟩
 | o ty es τ=>
  obtain⟨rows,rfl,hy⟩:=hv;have cR:gC rds k=some ⟨ty,es,false,rows⟩:=by grind[gC,RD.ob]
  have h1:=MQ (n0:=w.heap.size) cR h.bZ (fun b hb=>h.own k _ b cR hb) (q:=u) (hr _ cR);exact⟨h1.2 τ x hy,h1.1⟩
theorem Pt(h:vu w A rds w' us β' A'):∀(ks:List RK) {B:Type} (f:B→Value→Prop) (R:B→RD→Prop) (x:eC.jV B ks) (m:Nat),(∀(x:B) (rd:RD) (k:Nat),rds[k]? = some rd→R x rd→∃u,us[k]? = some u∧f x u)→df R ks x (rds.drop m)→anj w' A' w.heap.size f ks x (us.drop m)
 | [],B,f,R,x,m,hf,hr=>by
  obtain⟨rd,h1,h2⟩:=hr;have hk:rds[m]? = some rd:=by
   have:=azT (fun l=>l[0]?) h1;grind
  obtain⟨u,h3,h4⟩:=hf x rd m hk h2;refine⟨u,?_,h4⟩;have hl:(us.drop m).length=1:=by
   have:=azT List.length h1;rw[aAe]at this ⊢;rw[h.len];grind
  match gV:us.drop m,hl with
  | [v],_=>
   have:us[m]? = some v:=by
    have:=azT (fun l=>l[0]?) gV;simpa using this
   rw[h3]at this;cases this;rfl
 | k::ks,B,f,R,x,m,hf,hr=>by
  obtain⟨rd,r,h1,h2,h3⟩:=hr;have hk:rds[m]? = some rd:=by
   have:=azT (fun l=>l[0]?) h1;grind
  have hr:r=rds.drop (m+1):=by
   rw[← List.tail_drop,h1];rfl
  subst hr;obtain⟨u,h4,h5⟩:=hf _ rd m hk h2;refine⟨u,us.drop (m+1),?_,h5,Pt h ks _ (tn k) _ (m+1) (fun x rd j hj hv=>ahP h hj hv) h3⟩;have hm:m<us.length:=(azR.1 h4).1;rw[aA4 hm];grind
theorem akx(h:vu w A rds w' us β' A'){ks:List RK}{x:eC ks}(hr:cf ks x rds):Rss w' A' w.heap.size ks x us:=by
 cases ks with
 | nil=>
  have hr:rds=[]:=hr;subst hr;exact aBs.1 h.len
 | cons k ks=>exact Pt h ks _ (tn k) x 0 (fun x rd j hj hv=>ahP h hj hv) hr
end
theorem Hw.call{P:Program}{e:dn}(h:e.Ok P)(a:dA e.ad)(hp:e.pre a=true){w:World}{A:Nat→Prop}(hA:∀b,A b→b<w.heap.size){us:Array Value}(ha:yE w A e.ad a us.toList):
  Calls P e.g us w fun en w'=>∃AM A',en=.returned (jE AM)∧Rss w' A' w.heap.size e.rk (e.fn a) AM∧(∀b,A b→A' b)∧(∀b,A' b→b<w'.heap.size)∧Below w.heap.size w w':=by
 obtain⟨vs,h1,h2⟩:=aaF ha;refine((h a hp vs h1).2 w A us hA (by have:=h2.len;simpa using this.symm) (fun i x hx=>?_)).mono fun en w' h3=>?_
 ·obtain⟨u,e1,e2⟩:=h2.get i x hx
  grind
 ·obtain⟨rds,AM,β',A',h4,rfl,h5⟩:=h3
  exact⟨AM,A',rfl,akx h5 h4,fun b hb=>h5.a0 b (hA b hb) hb,h5.bZ.lt,Ev.low h5.ev (fun _ h=>h)⟩
theorem aR.BC{w:World}{A:Nat→Prop}{n0 es:Nat}{ty:TypeId}{τ:List Ty}{xs:List (aA τ)}{u:Value}(h:aR w A n0 ty es τ xs u)(bI:es=τ.length)(hA:∀b,A b→b<w.heap.size)(hg:∀g,u.ownBlock=some g→A g):
  ∃rows,bD τ xs rows∧bU ⟨w,A,cV [⟨ty,es,false,rows⟩],fun _=>u.ownBlock⟩∧Rel ⟨w,A,cV [⟨ty,es,false,rows⟩],fun _=>u.ownBlock⟩ (.ref 500 rows.length) u:=by
 have onl:∀(rows:List (List V)) o ob,cV [⟨ty,es,false,rows⟩] o=some ob→o=500∧ob=⟨ty,es,false,rows⟩:=fun rows o ob ho=>by
  unfold cV at ho;grind
 rcases h with⟨rfl,rfl⟩ | ⟨g,cap,cur,rfl,h1,h2,h3,h4,h5,h6⟩
 ·refine⟨[],trivial,⟨fun o ob ho=>?_,fun o o' ob ob' b h1 h2 _ _=>by rw[(onl _ _ _ h1).1,(onl _ _ _ h2).1],hA⟩,fun ob ho=>?_⟩
  ·obtain⟨_,rfl⟩:=onl _ _ _ ho;rfl
  ·obtain⟨_,rfl⟩:=onl [] 500 ob ho
   exact⟨azJ _,fun _=>rfl⟩
 ·subst bI
  have key:∀(l:List (aA τ)) (k:Nat),(∀(i:Nat) (x:aA τ),l[i]? = some x→∃us,Rw w A τ x us∧us.length=τ.length∧∀(j:Nat) (v:Value),us[j]? = some v→cur[(k+i)*τ.length+j]? = some v)→
    ∃rows,bD τ l rows∧(∀row∈rows,row.length=τ.length)∧∀(i:Nat) (row:List V),rows[i]? = some row→∀(j:Nat) (x:V),row[j]? = some x→∃q,cur[(k+i)*τ.length+j]? = some q∧aY w A x q:=by
   intro l;induction l with
   | nil=>intro k _;exact⟨[],trivial,fun r h=>(by cases h),fun i row h=>by simp at h⟩
   | cons x l ih=>
    intro k hl;obtain⟨us,e1,e2,e3⟩:=hl 0 x rfl;obtain⟨row,r1,r2⟩:=DQ e1;obtain⟨rows,r3,r4,r5⟩:=ih (k+1) (fun i y hy=>by
     obtain⟨us,e1,e2,e3⟩:=hl (i+1) y (by grind);refine⟨us,e1,e2,fun j v hv=>?_⟩;rw[show k+1+i=k+(i+1)by omega];exact e3 j v hv)
    refine⟨row::rows,⟨r1,r3⟩,fun r hr=>?_,fun i rr hi j y hy=>?_⟩
    ·rcases azW.1 hr with rfl | hr
     ·rw[ib r1]
     ·exact r4 r hr
    ·cases i with
     | zero=>
      simp at hi;subst hi;obtain⟨q,q1,q2⟩:=r2.get j y hy;exact⟨q,e3 j q q1,q2⟩
     | succ i=>
      obtain⟨q,q1,q2⟩:=r5 i rr (by grind) j y hy;exact⟨q,by rw[show k+(i+1)=k+1+i by omega];exact q1,q2⟩
  obtain⟨rows,r1,r2,r3⟩:=key xs 0 (fun i x hx=>by simpa using h6 i x hx);have hl:xs.length=rows.length:=r1.len;refine⟨rows,r1,⟨fun o ob ho=>?_,fun o o' ob ob' b h1 h2 _ _=>by rw[(onl _ _ _ h1).1,(onl _ _ _ h2).1],hA⟩,fun ob ho=>?_⟩
  ·obtain⟨_,rfl⟩:=onl _ _ _ ho
   refine⟨hg g rfl,cur,h2,r2,?_,fun i row hi j x hx=>?_⟩
   ·show rows.length*τ.length≤cur.size
    rw[h3,← hl];exact aAh _ h4
   ·obtain⟨q,q1,q2⟩:=r3 i row hi j x hx
    rw[az8]at q1;exact⟨q,q1,q2.gT,bw.aN q2,fun _=>q2⟩
  ·obtain⟨_,rfl⟩:=onl rows 500 ob ho
   refine⟨azJ _,fun _=>⟨cap,cur,by rw[hl],by rw[← hl];exact h4,h5,h2,h3⟩⟩
abbrev Wd{α:Type}(l:List α):Nat:=l.length
theorem Hw.nt{P:Program}{e:dW}(h:e.Ok P)(h2:e.two=false)(hmv:e.mv=false)(bI:e.es=e.τ.length)(l:List (aA e.τ))(a:dA e.ad)(hp:e.pre l [] a=true){w:World}{A:Nat→Prop}(hA:∀b,A b→b<w.heap.size){n0:Nat}{u:Value}(hu:aR w A n0 e.ty e.es e.τ l u)(hg:∀g,u.ownBlock=some g→A g)
  {us:List Value} (ha:∃vs,bY e.ad a vs∧∀H β,aJ (Rel ⟨w,A,H,β⟩) vs us) :
  Calls P e.g (u::us).toArray w fun en w'=>∃AM A' β',en=.returned (jE AM)∧(∃rds,cf e.rk (e.fn l [] a).1 rds∧AM.length=rds.length∧∀(k:Nat) (rd:RD),rds[k]? = some rd→∃q,AM[k]? = some q∧cD ⟨w',A',gC rds,β'⟩ (rd.val k) q)∧aR w' A' n0 e.ty e.es e.τ (e.fn l [] a).2 u∧(∀b,A b→A' b)∧(∀b,A' b→b<w'.heap.size)∧Ev w w' (fun b=>u.ownBlock=some b):=by
 obtain⟨rows,h3,h4,h5⟩:=hu.BC bI hA hg;obtain⟨vs,h6,h7⟩:=ha;unfold dW.Ok at h;rw[azD (by grind)]at h;have hf:=h l a hp rows vs h3 h6;refine(hf.2 w A (fun _=>u.ownBlock) (u::us).toArray h4 (by have:=(h7 fB iE).len;simp[this]) (fun i x hx=>?_)).mono fun en w' hh=>?_
 ·cases i with
  | zero=>grind
  | succ i=>
   obtain⟨q,q1,q2⟩:=(h7 (cV [⟨e.ty,e.es,false,rows⟩]) (fun _=>u.ownBlock)).get i x (by grind);grind
 ·obtain⟨rds,outs,AM,β',A',xP,rfl,hp⟩:=hh
  obtain⟨k1,k2⟩:=xP;rw[azD (by grind),azD (by grind)]at k2;obtain⟨bq,rfl,k3,k4⟩:=k2;have ho:ik [⟨e.ty,e.es,false,rows⟩] [some bq] 0=some ⟨e.ty,e.es,false,bq⟩:=rfl;have hkp:=hp.TH 0 _ _ rfl ho;have cR:eH [⟨e.ty,e.es,false,rows⟩] rds [some bq] 500=some ⟨e.ty,e.es,false,bq⟩:=by grind[eH]
  refine⟨AM,A',β',rfl,⟨rds,k1,hp.len,fun k rd hk=>?_⟩,?_,fun b hb=>hp.a0 b (hA b hb) hb,hp.bZ.lt,hp.ev.mono fun b _ hb=>?_⟩
  ·obtain⟨q,q1,q2⟩:=hp.rel k rd hk
   refine⟨q,q1,?_⟩;have V1:k<500:=az3 (azR.1 hk).1 hp.small;have key:∀(x:V) (q:Value),bw ⟨w',A',eH [⟨e.ty,e.es,false,rows⟩] rds [some bq],β'⟩ x q→(∀o n,x=.ref o n→o<500)→(∀o n i j,x ≠ .ptr o n i j)→(∀r,x ≠ .rd r)→(∀r j,x ≠ .cp r j)→bw ⟨w',A',gC rds,β'⟩ x q:=fun x q hx h1 h2 h3 h4=>by
    cases x with
    | ref o n=>
     intro ob cR;have:=h1 o n rfl;exact hx ob (by simp only[eH,azD (show ¬ 500≤o by omega)];exact cR)
    | ptr o n i j=>grind
    | rd r=>grind
    | cp r j=>grind
    | _=>exact hx
   have aO:=hf.1 rds _ ⟨k1,by rw[azD (by grind),azD (by grind)];exact⟨bq,rfl,k3,k4⟩⟩ rd (azO hk);cases rd with
   | v x=>
    cases x with
    | agg cs=>exact q2
    | int _ _=>exact q2
    | bool _=>exact q2
    | str _=>exact q2
    | nil=>exact q2
    | sl _=>exact q2
    | raw _=>exact q2
    | _=>grind[RD.ok,V.pure]
   | o ty es rows2=>
    intro ob atv;exact q2 ob (by simp only[eH,azD (show ¬ 500≤k by omega)];exact atv)
  ·have hlen:Wd (e.fn l [] a).2=bq.length:=aJ.len k3
   have hl0:Wd l=rows.length:=aJ.len h3;rcases hu with⟨rfl,rfl⟩ | ⟨g,cap,cur,rfl,g1,g2,g3,g4,g5,g6⟩
   ·left
    grind
   ·have aiy:β' 500=some g:=by have:=hkp.2.1;exact this
    obtain⟨cur',c1,c2⟩:=hkp.2.2 g cur rfl g2;have hq:QM ⟨w',A',eH [⟨e.ty,e.es,false,rows⟩] rds [some bq],β'⟩ ⟨e.ty,e.es,false,bq⟩ (β' 500) bq.length (.slice (some ⟨g,0,none⟩) (l.length:Nat) cap):=by
     refine⟨azJ _,fun _=>?_⟩;grind
    exact(MQ (n0:=n0) cR hp.bZ (fun b hb=>by rw[aiy]at hb;cases hb;exact g1) hq).2 _ _ k3
  grind
end Go.AL
