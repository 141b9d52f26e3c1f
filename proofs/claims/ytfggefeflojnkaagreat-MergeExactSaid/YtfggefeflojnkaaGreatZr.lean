/- AI. -/
import Derived.Test.YtfggefeflojnkaaGreatZ12
set_option linter.unusedSectionVars false
namespace Go.AL
open Go.Proofs Go.RowKit
variable [ZA]
attribute [local go_sem] Oper.semAt_some
abbrev wx:ay:=([],[],[],[],[],[])
theorem agf:(Tryz.prog.info? 38).map (fun i=>(i.zero,i.size,i.bytes))=some (some (.agg #[.slice none 0 0,.slice none 0 0,.slice none 0 0,.slice none 0 0,.slice none 0 0,.slice none 0 0]),6,144):=by kernel_rfl
theorem aeQ{w:World}{A:Nat→Prop}:Rw w A bl wx [.slice none 0 0,.slice none 0 0,.slice none 0 0,.slice none 0 0,.slice none 0 0,.slice none 0 0]:=
 kJ (x:=wx) (cH.2 (Sl.nil none)) (cH.2 (Sl.nil none)) (cH.2 (Sl.nil none)) (cH.2 (Sl.nil none)) (cH.2 (Sl.nil none)) (cH.2 (Sl.nil none))
theorem Zm.mk(w:World)(N:Nat)(hN:N≤1000):∃r w',(Instr.makeSlice 61 (.int .i64 (N:Int)) (.int .i64 (N:Int))).run Tryz.prog w=.ok r w'∧
  (r=.slice (some ⟨w.heap.size,0,none⟩) N N∧aR w' (ef w.heap.size) w.heap.size 38 6 bl (List.replicate N wx) (.slice (some ⟨w.heap.size,0,none⟩) N N)∧Below w.heap.size w w'):=by
 have BN:=agf;cases hi:Tryz.prog.info? 38 with
 | none=>grind
 | some i0=>
  rw[hi]at BN;simp only[az7,azN,azY]at BN;obtain⟨hz,hs,hb⟩:=BN;obtain⟨w',hr,eU,iu⟩:=run_makeSlice_full (P:=Tryz.prog) w w.heap.size 61 38 i0 _ 6 Tryz.underlying61 hi hz hs .i64 .i64 N (by omega) (by rw[hb];omega) (by unfold maxLen;omega) (azJ _);have hlen:(List.replicate N wx).length=N:=aCa;have Zg:∀n:Nat,n=N→w'.ownsRow w.heap.size 38 6 (.slice (some ⟨w.heap.size,0,none⟩) N N) n (madeCells (Value.agg #[.slice none 0 0,.slice none 0 0,.slice none 0 0,.slice none 0 0,.slice none 0 0,.slice none 0 0]).cells (N*6)).toList:=fun n e=>by rw[e];exact eU
  refine⟨_,w',hr,rfl,?_,⟨iu.os,iu.tape,iu.output,iu.size,fun k hk=>iu.block k hk (by simp)⟩⟩;refine aR.MW (τ:=bl) (xs:=List.replicate N wx) (Zg _ hlen) (fun i x hx=>?_);have hiN:i<N:=by
   grind
  have hx:x=wx:=by
   grind
  subst hx;refine⟨_,aeQ,rfl,fun j v hv=>?_⟩;have hj:j<6:=by grind
  have hv0:v=.slice none 0 0:=by
   grind
  subst hv0;have bO:i*6+j<N*6:=by omega
  have hm:(i*6+j) % 6=j:=by omega
  simp only[madeCells,aAG,Array.getElem?_map,Array.getElem?_range,bO,aAo,Value.cells];simp[hm]
  grind
theorem Zm.aoa{P:Program}{w:World}{ops:Array Oper}{rest:List Oper}{o:Oper}{a:Act}{Q:Exit→Act→World→Prop}(Km:o.guard=none)(t:TypeId)(l c:Operand)(ho:o.op=.makeSlice t l c){lv cv:Value}(hl:a.eval l=lv)(hc:a.eval c=cv)
  {R:Value→World→Prop} (hr:∃r w',(Instr.makeSlice t lv cv).run P w=.ok r w'∧R r w') (h:∀r w',R r w'→wpList P ops Q rest (a.put o.dst r) w'):wpList P ops Q (o::rest) a w:=by
 refine wpList_plain Km fun _ hK=>?_
 obtain⟨r,w',h1,h2⟩:=hr;unfold Oper.wp execOp;simp only[ho,Sem.run_bind,hl,hc,h1,Result.andThen_ok];exact hK _ _ (h r w' h2)
def Zm.L1(w3 wr:World)(G n0 N:Nat)(f:Int→ay)(ms:List Int)(k:Nat):Prop:=Ev w3 wr (fun b=>b=G)∧aR wr (ef G) n0 38 6 bl ((ms.take k).map f++List.replicate (N-k) wx) (.slice (some ⟨G,0,none⟩) N N)
theorem ahw{n k:Nat}{ms:List Int}{f:Int→ay}{c:Int}(hn:ms.length=n)(hk:k<n)(hc:ms[k]? = some c):((ms.take k).map f++List.replicate (n-k) wx).set k (f c)=(ms.take (k+1)).map f++List.replicate (n-(k+1)) wx:=by
 have hl:((ms.take k).map f).length=k:=by simp;omega
 rw[List.set_append,azD (by omega),hl,aAX,show n-k=(n-(k+1))+1 by omega,List.replicate_succ,List.set_cons_zero,aAz,hc];simp
theorem Zm.ahv{w3:World}{G n0 N:Nat}{f:Int→ay}{ms:List Int}(h:aR w3 (ef G) n0 38 6 bl (List.replicate N wx) (.slice (some ⟨G,0,none⟩) N N)):Zm.L1 w3 w3 G n0 N f ms 0:=⟨Ev.rf _ _,h⟩
theorem Zm.ahx{w3 w':World}{G n0 N k:Nat}{f:Int→ay}{ms:List Int}{x:ay}{c:Int}(bm:Ev w3 w' (fun b=>b=G))(h:aR w' (ef G) n0 38 6 bl (List.set (α:=ay) ((ms.take k).map f++List.replicate (N-k) wx) k x) (.slice (some ⟨G,0,none⟩) N N))(hx:x=f c)
  (hn:ms.length=N) (hk:k<N) (hc:ms[k]? = some c):Zm.L1 w3 w' G n0 N f ms (k+1):=⟨bm,by subst hx;rw[← ahw hn hk hc];exact h⟩
theorem Zm.aj6{P:Program}{w:World}{ops:Array Oper}{rest:List Oper}{o:Oper}{a:Act}{Q:Exit→Act→World→Prop}(Km:o.guard=none)(ty:TypeId)(x y:Operand)(ho:o.op=.store ty x y)
  {b off:Nat} (hx:a.eval x=.pointer (some ⟨b,off,none⟩)) {us:List Value} (hy:a.eval y=.agg us.toArray) {n:Nat} (hl:us.length=n) (hi:(P.info? ty).map (·.size)=some n) (ht:w.there b off n) (h1:∀v∈us,v.oneCell'=true)
  (hds:o.dst=none) (h:wpList P ops Q rest a (w.setCells b off us)):wpList P ops Q (o::rest) a w:=by
 refine wpList_store_mid Km ty x y ho b off us.toArray hx hy (by simpa [hl]using ht) (by rw[hi];simp[hl]) (all_oneCell_toArray h1) ?_;have e:a.put o.dst undef=a:=by rw[hds];rfl
 rw[e];exact h
theorem Lg{l:List cC}(h:xe l=true):l.length≤1000000∧(allM l).length≤1000000:=by
 simp only[xe,azF,azM,azU]at h;refine⟨by omega,?_⟩;have key:∀l:List cC,(∀r∈l,(rR r).length≤1000)→(allM l).length≤1000*l.length:=by
  intro l;induction l with
  | nil=>intro _;simp[allM]
  | cons r l ih=>
   intro hr;have h1:=hr r az1;have h2:=ih (fun x hx=>hr x (az6 _ hx));simp only[allM,aBO,azG,aA7,azL]at h2 ⊢;omega
 grind
theorem akh{au:Int}{ab:List cC}(hs:au≤1000000)(hp:ab.all AZ=true)(c:Int):ct (dp (c,au,ab)).1=true:=by
 have hp:=azU.1 hp;by_cases h0:bu (fun q=>decide (q.1=c)) ab 0<0
 ·simp only[dp,azC h0,azH]
  refine uo (by simp;omega) fun s hs=>?_
  rw[(aBH.1 hs).2];rfl
 ·have bO:bu (fun q:cC=>decide (q.1=c)) ab 0<0+(ab.length:Nat):=jO _ ab 0 (aBl 0)
  have hm:=hp (ab.getD (bu (fun q=>decide (q.1=c)) ab 0).toNat zq5) (by
   grind)
  simp only[AZ,azF,azM]at hm;simp only[dp,azK h0,azI];exact hm.1
end Go.AL
namespace Go.AL
open Go.Proofs Go.RowKit
variable [ZA]
attribute [local go_sem] Oper.semAt_some
def Zs.A2(A:Nat→Prop)(n0:Nat)(W:World)(b:Nat):Prop:=A b∨(n0≤b∧b<W.heap.size)
def Zs.Ao(A:Nat→Prop)(n0:Nat)(q:Value)(b:Nat):Prop:=A b∨b=n0∨q.ownBlock=some b
theorem Zs.arg{w W:World}{A:Nat→Prop}(hb:Below w.heap.size w W){t:Ty}{x:t.T}{u:Value}(h:Cl w A t x u):Cl W (Zs.A2 A w.heap.size W) t x u:=
 h.fr (fun b gW _=>hb.block b gW) hb.size (fun b gW h=>h.elim id (fun h=>by omega))
theorem Zs.cop{w W:World}{A:Nat→Prop}(hA:∀b,A b→b<w.heap.size)(hW:Below w.heap.size w W){l:List aL}{u:Value}(h:Cl w A (.sl bg) l u)(hl:ct l=true):Calls Tryz.prog 87 #[u] W fun en w'=>∃q,en=.returned q∧aR w' (fun b=>Zs.A2 A w.heap.size W b∨q.ownBlock=some b) W.heap.size 64 15 bg l q∧Below W.heap.size W w'∧∃a n c,q=.slice a n c:=by
 have Qm:∀b,Zs.A2 A w.heap.size W b→b<W.heap.size:=fun b h=>h.elim (fun h=>az3 (hA b h) hW.size) (·.2)
 refine(Hw.call CZ (l:List aL) hl Qm (us:=#[u]) (yE.one (Ag.rdc (Zs.arg hW h)))).mono fun en w' hh=>?_
 obtain⟨us,A',rfl,hr,nW,hA',hB⟩:=hh;obtain⟨r,rfl,ho,hg⟩:=(show ∃u',us=[u']∧aR w' A' W.heap.size 64 15 bg l u'∧∀g,u'.ownBlock=some g→A' g from hr);exact⟨r,rfl,ho.ev (Ev.rf w' (fun _=>False)) (fun _ _ h=>h.elim) (fun b _ hb=>hb.elim (nW b) (hg b)) (fun _ _ h=>h),hB,by obtain⟨a,c,e⟩:=ho.form;exact⟨a,_,c,e⟩⟩
theorem Zs.ccp{w W:World}{A:Nat→Prop}(hA:∀b,A b→b<w.heap.size)(hW:Below w.heap.size w W){l:List bR}{u:Value}(h:Cl w A (.sl bV) l u)(hl:ke l=true):Calls Tryz.prog 88 #[u] W fun en w'=>∃q,en=.returned q∧Cl w' (Zs.A2 A w.heap.size W) (.sl bV) l q∧Below W.heap.size W w'∧∃a n c,q=.slice a n c:=by
 have Qm:∀b,Zs.A2 A w.heap.size W b→b<W.heap.size:=fun b h=>h.elim (fun h=>az3 (hA b h) hW.size) (·.2)
 refine(Hw.call VP (l:List bR) hl Qm (us:=#[u]) (yE.one (Ag.rdc (Zs.arg hW h)))).mono fun en w' hh=>?_
 obtain⟨us,A',rfl,hr,nW,hA',hB⟩:=hh;obtain⟨r,rfl,ho,hg⟩:=(show ∃u',us=[u']∧aR w' A' W.heap.size 56 28 bV l u'∧∀g,u'.ownBlock=some g→A' g from hr);exact⟨r,rfl,(ho.ev (Ev.rf w' (fun _=>False)) (fun _ _ h=>h.elim) (fun b _ hb=>nW b hb) (fun _ _ h=>h)).cl rfl (fun g hg hb=>by have:=(ho.lt hg).1;have:=Qm g hb;omega),hB,by obtain⟨a,c,e⟩:=ho.form;exact⟨a,_,c,e⟩⟩
def Zs.Two(w6:World)(A:Nat→Prop)(n0:Nat)(x:List aL)(y:List bR)(q p:Value):Prop:=aR w6 (Zs.Ao A n0 q) n0 64 15 bg x q∧Cl w6 (Zs.Ao A n0 q) (.sl bV) y p
theorem Zs.qp{W w5 W5 w6:World}{A:Nat→Prop}{n0:Nat}{x:List aL}{y:List bR}{q p:Value}(hn:n0<W.heap.size)(hW5:W.heap.size≤w5.heap.size)(ho:aR w5 (fun b=>Zs.A2 A n0 W b∨q.ownBlock=some b) W.heap.size 64 15 bg x q)(h5:Below w5.heap.size w5 W5)(hp:Cl w6 (Zs.A2 A n0 W5) (.sl bV) y p)(h6:Below W5.heap.size W5 w6):Zs.Two w6 A n0 x y q p:=by
 have bO:=fun g hg=>ho.lt (g:=g) hg
 have h56:Below w5.heap.size w5 w6:=h5.trans (h6.mono h5.size);have hs:=h5.size;refine⟨((ho.mono (aAR hn)).ev (et h56 (fun _=>False)) (A':=Zs.Ao A n0 q) (fun _ _ h=>h.elim) (fun b hb h=>?_) (fun _ _ h=>h)),hp.fr (cz.refl _ _) (azJ _) (fun b _ h=>?_)⟩
 ·rcases h with h | h | h
  ·exact .inl (.inl h)
  ·exact .inl (.inr ⟨by omega,by omega⟩)
  ·exact .inr h
 ·rcases h with h | h | h
  ·exact .inl h
  ·exact .inr ⟨by omega,by omega⟩
  ·have:=bO b h
   exact .inr ⟨by omega,by omega⟩
theorem Zs.Two.st{w6:World}{A:Nat→Prop}{n0:Nat}{x:List aL}{y:List bR}{q p:Value}(h:Zs.Two w6 A n0 x y q p)(dU:∀g,q.ownBlock=some g→¬ g=n0)(j:Nat)(v:Value):Zs.Two (w6.setCell ⟨n0,j,none⟩ v) A n0 x y q p:=by
 have wu:Ev w6 (w6.setCell ⟨n0,j,none⟩ v) (fun b=>b=n0):=Ev.st (X:=fun b=>b=n0) (Ev.rf w6 _) n0 j v (.inl rfl);exact⟨h.1.ev wu (fun b _ e=>.inr (.inl e)) (fun _ _ h=>h) (fun g hg e=>dU g hg e),h.2.ev wu (fun b _ e=>.inr (.inl e)) (fun _ _ h=>h)⟩
theorem Zs.cells{w W:World}{t:TypeId}{a0 a1 a2 a3 a4 a5:Value}(h:Below (w.heap.size+1) (w.alloc (.cells #[a0,a1,a2,a3,a4,a5] t)) W):W.cell? ⟨w.heap.size,0,none⟩=some a0∧W.cell? ⟨w.heap.size,1,none⟩=some a1∧W.cell? ⟨w.heap.size,2,none⟩=some a2∧W.cell? ⟨w.heap.size,3,none⟩=some a3∧W.cell? ⟨w.heap.size,4,none⟩=some a4∧W.cell? ⟨w.heap.size,5,none⟩=some a5∧∀j,W.frozen? ⟨w.heap.size,j,none⟩=false:=by
 have hb:=(HB.new w t #[a0,a1,a2,a3,a4,a5]).below h (by omega);exact⟨hb.cell 0,hb.cell 1,hb.cell 2,hb.cell 3,hb.cell 4,hb.cell 5,fun j=>hb.frozen j⟩
theorem Zs.Fv{core au:Int}{ab:List cC}{k:Nat}{r:cC}(hr:ab[k]? = some r)(hc:r.1=core)(hn:∀x∈ab.take k,decide (x.1=core)=false):(dp (core,au,ab)).1=r.2.2.2.2.1∧(dp (core,au,ab)).2.1=r.2.2.2.2.2.1:=by
 have hk:=(azR.1 hr).1;have hx:ab[k]=r:=by grind
 have hf:bu (fun q:cC=>decide (q.1=core)) ab 0=0+(k:Nat):=(BU (p:=fun q:cC=>decide (q.1=core)) ab 0 k r (ab.drop (k+1)) (by rw[aA4 hk,hx]) (azC hc)).2 (aBD.2 (fun x zu=>by rw[hn x zu];simp));have hg:ab.getD ((0:Int)+(k:Nat)).toNat zq5=r:=by
  grind
 simp only[dp,hf,hg];grind
def Zs.ee(w:World)(A:Nat→Prop)(x:ay)(en:Ending)(w':World):Prop:=∃q p,en=.returned (.agg #[q,p,(.slice none 0 0),(.slice none 0 0),(.slice none 0 0),(.slice none 0 0)])∧Zs.Two w' A w.heap.size x.1 x.2.1 q p∧Below w.heap.size w w'∧(∃a n c,q=.slice a n c)∧∃a n c,p=.slice a n c
theorem Zs.aki{core au:Int}{ab:List cC}(hn:∀x∈ab,decide (x.1=core)=false):(dp (core,au,ab)).1=List.replicate (max au 0).toNat iR∧(dp (core,au,ab)).2.1=[]:=by
 have h:=T5 (p:=fun q:cC=>decide (q.1=core)) ab;rw[aBD.2 (fun x hx=>by rw[hn x hx];simp)]at h;have h0:bu (fun q:cC=>decide (q.1=core)) ab 0<0:=by
  grind
 simp only[dp,azC h0,azH]
 grind
theorem Zs.done{w w6:World}{A:Nat→Prop}{x:ay}{xs:List aL}{ys:List bR}{q p:Value}(h:Zs.Two w6 A w.heap.size xs ys q p)(hx:x.1=xs∧x.2.1=ys)(hb:Below w.heap.size w w6)(h1:∃a n c,q=.slice a n c)(h2:∃a n c,p=.slice a n c)(dU:∀g,q.ownBlock=some g→¬ g=w.heap.size):
  Zs.ee w A x (.returned (.agg #[q,p,.slice none 0 0,.slice none 0 0,.slice none 0 0,.slice none 0 0])) ((((((w6.setCell ⟨w.heap.size,0,none⟩ q).setCell ⟨w.heap.size,1,none⟩ p).setCell ⟨w.heap.size,2,none⟩ (.slice none 0 0)).setCell ⟨w.heap.size,3,none⟩ (.slice none 0 0)).setCell ⟨w.heap.size,4,none⟩ (.slice none 0 0)).setCell ⟨w.heap.size,5,none⟩ (.slice none 0 0)):=by
 refine⟨q,p,rfl,?_,?_,h1,h2⟩
 ·rw[hx.1,hx.2]
  exact(((((h.st dU 0 q).st dU 1 p).st dU 2 _).st dU 3 _).st dU 4 _).st dU 5 _
 ·have bm:Ev w w6 (fun _=>False):=⟨hb.os,hb.tape,hb.output,hb.size,fun b gW _=>hb.block b gW⟩
  have Ga:(False:Prop)∨w.heap.size≤w.heap.size:=.inr (azJ _);have h6:=(((((bm.st w.heap.size 0 q Ga).st w.heap.size 1 p Ga).st w.heap.size 2 (.slice none 0 0) Ga).st w.heap.size 3 (.slice none 0 0) Ga).st w.heap.size 4 (.slice none 0 0) Ga).st w.heap.size 5 (.slice none 0 0) Ga;exact⟨h6.os,h6.tape,h6.output,h6.size,fun b gW=>h6.block b gW (fun h=>h)⟩
theorem Zs.six{w6:World}{B:Nat}{t:TypeId}(h:HB w6 B t #[.slice none 0 0,.slice none 0 0,.slice none 0 0,.slice none 0 0,.slice none 0 0,.slice none 0 0])(q p:Value):HB ((((((w6.setCell ⟨B,0,none⟩ q).setCell ⟨B,1,none⟩ p).setCell ⟨B,2,none⟩ (.slice none 0 0)).setCell ⟨B,3,none⟩ (.slice none 0 0)).setCell ⟨B,4,none⟩ (.slice none 0 0)).setCell ⟨B,5,none⟩ (.slice none 0 0)) B t #[q,p,.slice none 0 0,.slice none 0 0,.slice none 0 0,.slice none 0 0]:=by
 have:=(((((h.set 0 q).set 1 p).set 2 (.slice none 0 0)).set 3 (.slice none 0 0)).set 4 (.slice none 0 0)).set 5 (.slice none 0 0);simpa using this
theorem aly:(Tryz.prog.info? 64).map (fun i=>(i.zero,i.size,i.bytes))=some (some (.agg (rP iR (.slice none 0 0)).toArray),15,136):=by kernel_rfl
theorem Zs.mk(w:World){A:Nat→Prop}(N:Nat)(m:Int)(hm:m=(N:Int))(hN:N≤1000000):∃r w',(Instr.makeSlice 31 (.int .i64 m) (.int .i64 m)).run Tryz.prog w=.ok r w'∧
  (r=.slice (some ⟨w.heap.size,0,none⟩) N N∧aR w' A w.heap.size 64 15 bg (List.replicate N iR) (.slice (some ⟨w.heap.size,0,none⟩) N N)∧Below w.heap.size w w'):=by
 subst hm;have BN:=aly;cases hi:Tryz.prog.info? 64 with
 | none=>grind
 | some i0=>
  rw[hi]at BN;simp only[az7,azN,azY]at BN;obtain⟨hz,hs,hb⟩:=BN;obtain⟨w',hr,eU,iu⟩:=run_makeSlice_full (P:=Tryz.prog) w w.heap.size 31 64 i0 _ 15 Tryz.underlying31 hi hz hs .i64 .i64 N (by omega) (by rw[hb];omega) (by unfold maxLen;omega) (azJ _);have hlen:(List.replicate N iR).length=N:=aCa;have Zg:∀n:Nat,n=N→w'.ownsRow w.heap.size 64 15 (.slice (some ⟨w.heap.size,0,none⟩) N N) n (madeCells (Value.agg (rP iR (.slice none 0 0)).toArray).cells (N*15)).toList:=fun n e=>by rw[e];exact eU
  refine⟨_,w',hr,rfl,?_,⟨iu.os,iu.tape,iu.output,iu.size,fun k hk=>iu.block k hk (by simp)⟩⟩;refine aR.MW (τ:=bg) (xs:=List.replicate N iR) (Zg _ hlen) (fun i x hx=>?_);have hiN:i<N:=by
   grind
  have hx:x=iR:=List.eq_of_mem_replicate (azO hx);subst hx;refine⟨_,Ff (x:=iR) (cH.2 (Sl.nil none)),rfl,fun j v hv=>?_⟩;have hj:j<15:=by have:=(azR.1 hv).1;simpa using this
  have bO:i*15+j<N*15:=by omega
  have hm:(i*15+j) % 15=j:=by omega
  have aqv:(rP iR (.slice none 0 0)).toArray[j]! = v:=by
   grind
  have dO:(rP iR (.slice none 0 0)).toArray.size=15:=rfl;simp only[madeCells,Value.cells,aAG,Array.getElem?_map,dO,Array.getElem?_range,bO,aAo,az7,hm,aqv]
theorem Zs.rp{w:World}{A:Nat→Prop}{x:cC}{us:List Value}(h:Rw w A eG x us):∃p4 p5,us[0]? = some (.int .i64 x.1)∧us[4]? = some p4∧us[5]? = some p5∧us.length=20∧Cl w A (.sl bg) x.2.2.2.2.1 p4∧Cl w A (.sl bV) x.2.2.2.2.2.1 p5:=by
 obtain⟨p2,p3,p4,p5,p6,p7,p8,p9,H8,JQ,JP,JO,JN,JM,JL,JK,hh,h2,h3,h4,h5,h6,_⟩:=O9 h;simp_all
set_option maxRecDepth 100000 in
set_option maxHeartbeats 4000000 in
theorem Zs.asw(w:World){A:Nat→Prop}(hA:∀b,A b→b<w.heap.size)(core au:Int)(ab:List cC)(ur:Value)(hp:SM (core,au,ab)=true)(L3:Cl w A (.sl eG) ab ur):Calls Tryz.prog 53 #[.int .i64 core,.int .i64 au,ur] w (Zs.ee w A (dp (core,au,ab))):=by
 have yL:=Tryz.underlying25;have uK:=Tryz.underlying38;obtain⟨ua,uc,rfl⟩:=(show ∃a c,ur=.slice a (ab.length:Nat) c from(cH.1 L3).form);simp only[SM,azF,azM]at hp;obtain⟨hp1,Kj,hp3⟩:=hp;have fQ:=Hw.bf (azU.1 hp3);have HU:=Hw.bf L3;clear L3 hp3;go_enter Tryz.func53,Tryz.ntmps53;go_wp2
 go_loopw [11] (fun i wr=>∃k:Nat,k≤ab.length∧i=.int .i64 (k:Int)∧(∀x∈ab.take k,decide (x.1=core)=false)∧Below (w.heap.size+1) (w.alloc (.cells #[(.slice none 0 0),(.slice none 0 0),(.slice none 0 0),(.slice none 0 0),(.slice none 0 0),(.slice none 0 0)] 38)) wr) (fun i _=>ab.length-(RowKit.intOf i).toNat)
 case atStart=>exact⟨0,aAu _,rfl,by simp,Below.refl _ _⟩
 case round=>
  obtain⟨k,hk,rfl,hno,hB⟩:=hrel;by_cases bO:k<ab.length
  ·have wV:(k:Int)<(ab.length:Int):=by omega
   have Kl:(0:Int)≤(k:Int):=by omega
   obtain⟨r,hr⟩:∃r,ab[k]? = some r:=⟨_,azS bO⟩;have hBw:Below w.heap.size w wr:=((Below.refl _ _).alloc (azJ _) _).trans (hB.mono (aBk _));obtain⟨b,off,c,us,hv,hb,hbA,C9,_,su⟩:=(cH.1 HU.out).get hr;obtain⟨rfl,-,rfl⟩:=Value.slice.inj hv;obtain⟨p4,p5,e0,e4,e5,uL,hc4,hc5⟩:=Zs.rp C9;have Qn:∀v∈us,v.oneCell'=true:=C9.one;have F4:wr.rangeAt b (off+k*20) us:=fun j v hv=>(hBw.cell (p:=⟨b,off+k*20+j,none⟩) hb).trans (su j v hv)
   have iH:(Tryz.prog.info? 40).map (·.size)=some 20:=by kernel_rfl
   have nr:=HB.new wr 40 us.toArray;have f0:(wr.alloc (.cells us.toArray 40)).cell? ⟨wr.heap.size,0,none⟩=some (.int .i64 r.1):=by rw[nr.cell];simpa using e0
   have f4:(wr.alloc (.cells us.toArray 40)).cell? ⟨wr.heap.size,4,none⟩=some p4:=by rw[nr.cell];simpa using e4
   have f5:(wr.alloc (.cells us.toArray 40)).cell? ⟨wr.heap.size,5,none⟩=some p5:=by rw[nr.cell];simpa using e5
   obtain⟨a4,n4,k4,rfl⟩:=hc4.form;obtain⟨a5,n5,k5,rfl⟩:=hc5.form;have HC:=Hw.bf (And.intro hc4 hc5);have HR:=Hw.bf hr;have HN:=Hw.bf hno;have HBw:=Hw.bf (And.intro hB hBw);clear su hv C9 hr hc4 hc5 nr e0 e4 e5 hno hB hBw
   go_upto_region 4 with(first | (refine wz rfl 40 (.tmp 13) rfl rfl F4 Tryz.underlying40 rfl iH uL ?_) | (refine qQ rfl 40 (.tmp 8) (.tmp 14) rfl rfl rfl (by rfl) uL iH Qn rfl ?_))
   have YZ:=Tryz.underlying40;by_cases hcr:r.1=core
   ·have hcb:(r.1 == core)=true:=by simp[hcr]
    have aqF:Below w.heap.size w (wr.alloc (.cells us.toArray 40)):=HBw.out.2.alloc HBw.out.2.size _;have Kw:Below (w.heap.size+1) (w.alloc (.cells #[.slice none 0 0,.slice none 0 0,.slice none 0 0,.slice none 0 0,.slice none 0 0,.slice none 0 0] 38)) (wr.alloc (.cells us.toArray 40)):=HBw.out.1.alloc (by have:=HBw.out.1.size;simpa using this) _;have H1:=Hw.bf (And.intro aqF.drew Kw.drew);have nz:w.heap.size+1≤(wr.alloc (.cells us.toArray 40)).drew.heap.size:=by have:=Kw.size;simpa using this
    have hrp:=fQ.out r (azO HR.out);simp only[AZ,azF,azM]at hrp;have HK:=Hw.bf (And.intro hrp.1 hrp.2.2.1);clear hrp aqF Kw;go_wp2
    go_region_with (first
     | (go_at_call 87;refine(Zs.cop hA H1.out.1 HC.out.1 HK.out.1).mono ?_;rintro en w5 ⟨q,rfl,VZ,jn,⟨qa,qn,qc,rfl⟩⟩;obtain⟨z0,z1,z2,z3,z4,z5,zf⟩:=Zs.cells (H1.out.2.trans (jn.mono nz));have f5x:=(jn.cell (p:=⟨wr.heap.size,5,none⟩) (by simp)).trans f5)
     | (go_at_call 88;refine(Zs.ccp hA H1.out.1 HC.out.2 HK.out.2).mono ?_;rintro en w7 ⟨p,rfl,hp7,tM,⟨pa,pn,pc,rfl⟩⟩;obtain⟨y0,y1,y2,y3,y4,y5,yf⟩:=Zs.cells (H1.out.2.trans (tM.mono nz));have f4x:=(tM.cell (p:=⟨wr.heap.size,4,none⟩) (by simp)).trans f4)
     | (go_at_call 87;refine(Zs.cop hA (H1.out.1.trans (tM.mono (az0 (aBk _) nz))) HC.out.1 HK.out.1).mono ?_;rintro en w5 ⟨q,rfl,VZ,jn,⟨qa,qn,qc,rfl⟩⟩;obtain⟨z0,z1,z2,z3,z4,z5,zf⟩:=Zs.cells ((H1.out.2.trans (tM.mono nz)).trans (jn.mono (az0 nz tM.size))))
     | (go_at_call 88;refine(Zs.ccp hA (H1.out.1.trans (jn.mono (az0 (aBk _) nz))) HC.out.2 HK.out.2).mono ?_;rintro en w7 ⟨p,rfl,hp7,tM,⟨pa,pn,pc,rfl⟩⟩;obtain⟨y0,y1,y2,y3,y4,y5,yf⟩:=Zs.cells ((H1.out.2.trans (jn.mono nz)).trans (tM.mono (az0 nz jn.size)))))
    all_goals go_wp2
    all_goals (try simp only[Exit.inBlock,Exit.then])
    all_goals first
     | (refine bodyPost_ret (results_cell_row rfl _ _ w.heap.size 38 _ (0,0) _ rfl (Zs.six ((HB.new w 38 #[.slice none 0 0,.slice none 0 0,.slice none 0 0,.slice none 0 0,.slice none 0 0,.slice none 0 0]).below ((H1.out.2.trans (jn.mono nz)).trans (tM.mono (az0 nz jn.size))) (aAF _)) _ _) uK rfl (by kernel_rfl)) rfl ?_;exact Zs.done (Zs.qp nz jn.size VZ (Below.refl _ _) hp7 tM) (Zs.Fv HR.out hcr HN.out) ((H1.out.1.trans (jn.mono (aAR nz))).trans (tM.mono (az0 (aAR nz) jn.size))) ⟨_,_,_,rfl⟩ ⟨_,_,_,rfl⟩ (fun g hg e=>absurd (az0 nz (VZ.lt hg).1) (by omega)))
     | (refine bodyPost_ret (results_cell_row rfl _ _ w.heap.size 38 _ (0,0) _ rfl (Zs.six ((HB.new w 38 #[.slice none 0 0,.slice none 0 0,.slice none 0 0,.slice none 0 0,.slice none 0 0,.slice none 0 0]).below ((H1.out.2.trans (tM.mono nz)).trans (jn.mono (az0 nz tM.size))) (aAF _)) _ _) uK rfl (by kernel_rfl)) rfl ?_;exact Zs.done (Zs.pq nz tM.size hp7 (Below.refl _ _) VZ jn) (Zs.Fv HR.out hcr HN.out) ((H1.out.1.trans (tM.mono (aAR nz))).trans (jn.mono (az0 (aAR nz) tM.size))) ⟨_,_,_,rfl⟩ ⟨_,_,_,rfl⟩ (fun g hg e=>absurd (az0 (az0 nz tM.size) (VZ.lt hg).1) (by omega)))
   ·have hcb:(r.1 == core)=false:=by simp[hcr]
    go_wp2;refine⟨⟨k+1,by omega,by congr 1,?_,HBw.out.1.alloc (by have:=HBw.out.1.size;simpa using this) _⟩,by simp[RowKit.intOf];omega⟩;intro x hx;rw[aAz,HR.out]at hx;rcases aAp.1 hx with hx | hx
    ·exact HN.out x hx
    ·simp at hx
     rw[hx];simp[hcr]
  ·obtain rfl:k=ab.length:=by omega
   have wV:¬ (ab.length:Int)<(ab.length:Int):=by omega
   rw[aBi]at hno;have hmk:=Hw.bf (Zs.mk wr (A:=Zs.Ao A w.heap.size (.slice (some ⟨wr.heap.size,0,none⟩) (max au 0).toNat (max au 0).toNat)) (max au 0).toNat (max au 0) (by omega) (by omega));have Vp:=Hw.bf (And.intro hB hno);clear hB hno
   go_wp2_with (refine Zm.aoa rfl 31 (.tmp 30) (.tmp 30) rfl rfl rfl hmk.out ?_;rintro r w5 ⟨rfl,VZ,jn⟩;obtain⟨z0,z1,z2,z3,z4,z5,zf⟩:=Zs.cells (Vp.out.1.trans (jn.mono (by have:=Vp.out.1.size;simpa using this))))
   have hs5:w.heap.size+1≤wr.heap.size:=by have:=Vp.out.1.size;simpa using this
   all_goals (try simp only[Exit.inBlock,Exit.then])
   refine bodyPost_ret (results_cell_row rfl _ _ w.heap.size 38 _ (0,0) _ rfl (Zs.six ((HB.new w 38 #[.slice none 0 0,.slice none 0 0,.slice none 0 0,.slice none 0 0,.slice none 0 0,.slice none 0 0]).below (Vp.out.1.trans (jn.mono hs5)) (aAF _)) _ _) uK rfl (by kernel_rfl)) rfl ?_;exact Zs.done ⟨VZ.mono (aAR hs5),cH.2 (Sl.nil none)⟩ (Zs.aki Vp.out.2) ((((Below.refl _ _).alloc (azJ _) _).trans (Vp.out.1.mono (aBk _))).trans (jn.mono (aAR hs5))) ⟨_,_,_,rfl⟩ ⟨_,_,_,rfl⟩ (fun g hg e=>absurd (VZ.lt hg).1 (by omega))
end Go.AL
namespace Go.AL
open Go.Proofs Go.RowKit
variable [ZA]
theorem ae6{w:World}{A:Nat→Prop}{x:ay}(hx:x.2.2=([],[],[],[])){p:Value}(hp:Cl w A (.sl bV) x.2.1 p):Rw w A bl ([],x.2) [.slice none 0 0,p,.slice none 0 0,.slice none 0 0,.slice none 0 0,.slice none 0 0]:=by
 obtain⟨x1,x2,x3,x4,x5,x6⟩:=x;simp only[azY]at hx;obtain⟨rfl,rfl,rfl,rfl⟩:=hx;exact kJ (x:=([],x2,[],[],[],[])) (cH.2 (Sl.nil none)) hp (cH.2 (Sl.nil none)) (cH.2 (Sl.nil none)) (cH.2 (Sl.nil none)) (cH.2 (Sl.nil none))
theorem Zq.aoL{wi:World}{G n0 n c:Nat}{bM:List ay}(ho:aR wi (ef G) n0 38 6 bl bM (.slice (some ⟨G,0,none⟩) n c)){i:Nat}(hi:i<bM.length)(core au:Int){ab:List cC}{ur:Value}(hp:SM (core,au,ab)=true)(L3:Cl wi (ef G) (.sl eG) ab ur):
  Calls Tryz.prog 53 #[.int .i64 core,.int .i64 au,ur] wi fun en w2=>∃q p,en=.returned (.agg #[q,p,.slice none 0 0,.slice none 0 0,.slice none 0 0,.slice none 0 0])∧Below wi.heap.size wi w2∧(∃a n c,q=.slice a n c)∧(∃a n c,p=.slice a n c)∧w2.there G (i*6) 6∧
   Zq wi (w2.setCells G (i*6) [q,p,.slice none 0 0,.slice none 0 0,.slice none 0 0,.slice none 0 0]) G i (dp (core,au,ab)).1 (dp (core,au,ab)) q [p,.slice none 0 0,.slice none 0 0,.slice none 0 0,.slice none 0 0]:=by
 obtain⟨x0,hx0⟩:∃x,bM[i]? = some x:=⟨_,azS hi⟩;obtain⟨us0,hu0,ago⟩:=Rc.start ho hx0;have hG:G<wi.heap.size:=ago.lt;refine(Zs.asw wi (A:=ef G) (fun b hb=>hb.lt hG) core au ab ur hp L3).mono fun en w2 hh=>?_
 obtain⟨q,p,rfl,⟨eU,hcp⟩,hB,hq,hpf⟩:=hh;have dU:∀g,q.ownBlock=some g→¬ g=G:=fun g hg e=>by have:=(eU.lt hg).1;omega
 have wu:Ev w2 (w2.setCells G (i*6) [q,p,.slice none 0 0,.slice none 0 0,.slice none 0 0,.slice none 0 0]) (fun b=>b=G):=Ev.bM (X:=fun b=>b=G) (.inl rfl) _ _ (Ev.rf _ _);have Qm:∀b,b<w2.heap.size→Aq G q b→Zs.Ao (ef G) wi.heap.size q b:=fun b _ hb=>hb.elim (fun h=>.inl h) (fun h=>.inr (.inr h))
 refine⟨q,p,rfl,hB,hq,hpf,(ago.low hB).there,?_,?_,?_⟩
 ·have hl0:us0.length=6:=by
   obtain⟨_,cb,cur,b1,b2,b3,b4,b5,b6,b7⟩:=ago;exact b4
  have:=(ago.low hB).put (off:=0) (vs:=[q,p,.slice none 0 0,.slice none 0 0,.slice none 0 0,.slice none 0 0]) (by simp);rw[aBb,aAs,aBK (by simp[hl0]),aAc,aBF]at this;exact this
 ·exact(eU.ev (Ev.rf w2 (fun _=>False)) (fun _ _ h=>h.elim) Qm (fun _ _ h=>h)).ev wu (fun b _ h=>by first | exact .inl h | exact .inl (.inr h)) (fun _ _ h=>h) (fun g hg h=>dU g hg h)
 ·exact ae6 (Js _) ((hcp.ev (Ev.rf w2 (fun _=>False)) (fun _ _ h=>h.elim) Qm).ev wu (fun b _ h=>by first | exact .inl h | exact .inl (.inr h)) (fun _ _ h=>h))
theorem Rc.others{wi wr:World}{us:List Value}{i g es:Nat}{ty:TypeId}(h:Rc wi wr g i es ty us){m:Nat}(hm:m<i*es∨i*es+es≤m):wr.cell? ⟨g,m,none⟩=wi.cell? ⟨g,m,none⟩:=by
 obtain⟨bm,cb,cur,b1,b2,b3,b4,b5,b6,b7⟩:=h;rw[b2.cell,b1.cell,b6 m hm]
end Go.AL
namespace Go.AL
open Go.Proofs Go.RowKit
variable [ZA]
theorem Zq.aoK{wi:World}{G n0 n c:Nat}{bM:List ay}(ho:aR wi (ef G) n0 38 6 bl bM (.slice (some ⟨G,0,none⟩) n c)){i:Nat}(hi:i<bM.length)(core au:Int){ab:List cC}{ur:Value}(hp:SM (core,au,ab)=true)(L3:Cl wi (ef G) (.sl eG) ab ur):
  Calls Tryz.prog 53 #[.int .i64 core,.int .i64 au,ur] wi fun en w2=>∃(us:List Value) (q p:Value),en=.returned (.agg us.toArray)∧us.length=6∧(∀v∈us,v.oneCell'=true)∧Below wi.heap.size wi w2∧(∃a n c,q=.slice a n c)∧w2.there G (i*6) 6∧
   Zq wi (w2.setCells G (i*6) us) G i (dp (core,au,ab)).1 (dp (core,au,ab)) q [p,.slice none 0 0,.slice none 0 0,.slice none 0 0,.slice none 0 0]:=
 (Zq.aoL ho hi core au hp L3).mono fun en w2 ⟨q,p,he,hB,hq,VW,Y4,hZ⟩=>⟨[q,p,.slice none 0 0,.slice none 0 0,.slice none 0 0,.slice none 0 0],q,p,he,rfl,by
  obtain⟨_,_,_,rfl⟩:=hq;obtain⟨_,_,_,rfl⟩:=VW;simp[Value.oneCell'],hB,hq,Y4,hZ⟩
def vk(id:Nat):Code→Option Code
 | .block i c=>match Nat.beq i id with
  | true=>some c
  | false=>vk id c
 | .loop c=>vk id c
 | .scope c=>vk id c
 | .seq a b=>match vk id a with
  | some c=>some c
  | none=>vk id b
 | .cond _ a b=>match vk id a with
  | some c=>some c
  | none=>vk id b
 | _=>none
noncomputable def Zm.blk(id:Nat):Code:=(vk id (aB Tryz.f19)).getD .skip
def Zm.Qx(b:Nat)(ee:Act→World→Prop):Exit→Act→World→Prop
 | .exit i,a,w=>i=b∧ee a w
 | _,_,_=>False
theorem Zm.use{P:Program}{b:Nat}{c:Code}{K:Act→World→Prop}{Q:Exit→Act→World→Prop}{a:Act}{w:World}(h:c.wp P (Zm.Qx b K) a w):c.wp P (Exit.inBlock b (Exit.then K Q)) a w:=wp_mono h fun e a w hq=>by
 cases e with
 | exit i=>
  obtain⟨rfl,hk⟩:=hq;show if i=i then _ else _
  rw[azE rfl];exact hk
 | _=>exact hq.elim
def Zm.Nl(W:World)(G k:Nat):Prop:=∀i,i<k→W.cell? ⟨G,i*6+3,none⟩=some (.slice none 0 0)∧W.cell? ⟨G,i*6+4,none⟩=some (.slice none 0 0)
theorem Zm.Nl.step{wi w5:World}{G k:Nat}{l:List aL}{x:ay}{q p r r5:Value}(h:Zq wi w5 G k l x q [p,.slice none 0 0,.slice none 0 0,.slice none 0 0,r])(hn:Zm.Nl wi G k):Zm.Nl (w5.setCell ⟨G,k*6+5,none⟩ r5) G (k+1):=fun i hi=>by
 have VV:=h.rc.put (off:=5) (vs:=[r5]) (by simp);simp only[World.setCells,List.take,List.drop,azL,az2,aAS,aAs]at VV;by_cases hk:i=k
 ·subst hk
  exact⟨(VV.cell (j:=3) rfl).1,(VV.cell (j:=4) rfl).1⟩
 ·have:=hn i (by omega)
  exact⟨(VV.others (by omega)).trans this.1,(VV.others (by omega)).trans this.2⟩
def Zm.R1(w3 w':World)(G n:Nat)(f:Int→ay)(ms:List Int)(k:Nat):Prop:=Zm.L1 w3 w' G G n f ms k∧Zm.Nl w' G k
end Go.AL
