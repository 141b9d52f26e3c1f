/- By an AI agent. -/
import Derived.Test.YtfggefeflojnkaaGreatZ12
set_option linter.unusedSectionVars false
set_option linter.unusedSimpArgs false
set_option linter.unusedVariables false
namespace Go.AL
open Go.Proofs Go.RowKit
variable [ZA]
attribute [local go_sem] Oper.semAt_some
abbrev wL:ao:=([],[],[],[],[],[])
theorem ah2:(Tryz.prog.info? 38).map (fun i=>(i.zero,i.size,i.bytes))=some (some (.agg #[.slice none 0 0,.slice none 0 0,.slice none 0 0,.slice none 0 0,.slice none 0 0,.slice none 0 0]),6,144):=by kernel_rfl
theorem agI{w:World}{A:Nat→Prop}:Rw w A ba wL [.slice none 0 0,.slice none 0 0,.slice none 0 0,.slice none 0 0,.slice none 0 0,.slice none 0 0]:=
 oG (x:=wL) (cX.2 (Sl.nil none)) (cX.2 (Sl.nil none)) (cX.2 (Sl.nil none)) (cX.2 (Sl.nil none)) (cX.2 (Sl.nil none)) (cX.2 (Sl.nil none))
theorem Zm.mk(w:World)(N:Nat)(hN:N≤1000):∃r w',(Instr.makeSlice 61 (.int .i64 (N:Int)) (.int .i64 (N:Int))).run Tryz.prog w=.ok r w'∧
  (r=.slice (some ⟨w.heap.size,0,none⟩) N N∧bk w' (eu w.heap.size) w.heap.size 38 6 ba (List.replicate N wL) (.slice (some ⟨w.heap.size,0,none⟩) N N)∧Below w.heap.size w w'):=by
 have Bi:=ah2;cases hi:Tryz.prog.info? 38 with
 | none=>rw[hi]at Bi;cases Bi
 | some i0=>
  rw[hi]at Bi;simp only[aCU,aCA,aCH]at Bi;obtain⟨hz,hs,hb⟩:=Bi;obtain⟨w',hr,fq,hT⟩:=run_makeSlice_full (P:=Tryz.prog) w w.heap.size 61 38 i0 _ 6 Tryz.underlying61 hi hz hs .i64 .i64 N (by omega) (by rw[hb];omega) (by unfold maxLen;omega) (aCt _);have hlen:(List.replicate N wL).length=N:=aEY;have aaP:∀n:Nat,n=N→w'.ownsRow w.heap.size 38 6 (.slice (some ⟨w.heap.size,0,none⟩) N N) n (madeCells (Value.agg #[.slice none 0 0,.slice none 0 0,.slice none 0 0,.slice none 0 0,.slice none 0 0,.slice none 0 0]).cells (N*6)).toList:=fun n e=>by rw[e];exact fq
  refine⟨_,w',hr,rfl,?_,⟨hT.os,hT.tape,hT.output,hT.size,fun k hk=>hT.block k hk (by simp)⟩⟩;refine bk.Nr (τ:=ba) (xs:=List.replicate N wL) (aaP _ hlen) (fun i x hx=>?_);have hiN:i<N:=by
   have h7:i<List.length (α:=ao) (List.replicate N wL):=(aCD.1 hx).1
   rwa [hlen]at h7
  have hx:x=wL:=by
   have:=List.eq_of_mem_replicate (aCC hx);exact this
  subst hx;refine⟨_,agI,rfl,fun j v hv=>?_⟩;have hj:j<6:=by have:=(aCD.1 hv).1;simpa using this
  have hv0:v=.slice none 0 0:=by
   match j,hj,hv with
   | 0,_,hv=>simpa using hv.symm
   | 1,_,hv=>simpa using hv.symm
   | 2,_,hv=>simpa using hv.symm
   | 3,_,hv=>simpa using hv.symm
   | 4,_,hv=>simpa using hv.symm
   | 5,_,hv=>simpa using hv.symm
  subst hv0;have cg:i*6+j<N*6:=by omega
  have hm:(i*6+j) % 6=j:=by omega
  simp only[madeCells,aDy,Array.getElem?_map,Array.getElem?_range,cg,aC5,Value.cells];simp[cg,hm]
  match j,hj with
  | 0,_=>rfl
  | 1,_=>rfl
  | 2,_=>rfl
  | 3,_=>rfl
  | 4,_=>rfl
  | 5,_=>rfl
theorem Zm.aq5{P:Program}{w:World}{ops:Array Oper}{rest:List Oper}{o:Oper}{a:Act}{Q:Exit→Act→World→Prop}(KC:o.guard=none)(t:TypeId)(l c:Operand)(ho:o.op=.makeSlice t l c){lv cv:Value}(hl:a.eval l=lv)(hc:a.eval c=cv)
  {R:Value→World→Prop} (hr:∃r w',(Instr.makeSlice t lv cv).run P w=.ok r w'∧R r w') (h:∀r w',R r w'→wpList P ops Q rest (a.put o.dst r) w'):wpList P ops Q (o::rest) a w:=by
 refine wpList_plain KC fun _ hK=>?_
 obtain⟨r,w',h1,h2⟩:=hr;unfold Oper.wp execOp;simp only[ho,Sem.run_bind,hl,hc,h1,Result.andThen_ok];exact hK _ _ (h r w' h2)
def Zm.L1(w3 wr:World)(G n0 N:Nat)(f:Int→ao)(ms:List Int)(k:Nat):Prop:=Ev w3 wr (fun b=>b=G)∧bk wr (eu G) n0 38 6 ba ((ms.take k).map f++List.replicate (N-k) wL) (.slice (some ⟨G,0,none⟩) N N)
theorem akb{n k:Nat}{ms:List Int}{f:Int→ao}{c:Int}(hn:ms.length=n)(hk:k<n)(hc:ms[k]? = some c):((ms.take k).map f++List.replicate (n-k) wL).set k (f c)=(ms.take (k+1)).map f++List.replicate (n-(k+1)) wL:=by
 have hl:((ms.take k).map f).length=k:=by simp;omega
 rw[List.set_append,aCo (by omega),hl,aD2,show n-k=(n-(k+1))+1 by omega,List.replicate_succ,aCR,aDn,hc];simp
theorem Zm.aka{w3:World}{G n0 N:Nat}{f:Int→ao}{ms:List Int}(h:bk w3 (eu G) n0 38 6 ba (List.replicate N wL) (.slice (some ⟨G,0,none⟩) N N)):Zm.L1 w3 w3 G n0 N f ms 0:=⟨Ev.rf _ _,h⟩
theorem Zm.akc{w3 w':World}{G n0 N k:Nat}{f:Int→ao}{ms:List Int}{x:ao}{c:Int}(bL:Ev w3 w' (fun b=>b=G))(h:bk w' (eu G) n0 38 6 ba (List.set (α:=ao) ((ms.take k).map f++List.replicate (N-k) wL) k x) (.slice (some ⟨G,0,none⟩) N N))(hx:x=f c)
  (hn:ms.length=N) (hk:k<N) (hc:ms[k]? = some c):Zm.L1 w3 w' G n0 N f ms (k+1):=⟨bL,by subst hx;rw[← akb hn hk hc];exact h⟩
theorem Zm.aq4{P:Program}{w:World}{ops:Array Oper}{rest:List Oper}{o:Oper}{a:Act}{Q:Exit→Act→World→Prop}(KC:o.guard=none)(ty:TypeId)(x y:Operand)(ho:o.op=.store ty x y)
  {b off:Nat} (hx:a.eval x=.pointer (some ⟨b,off,none⟩)) {us:List Value} (hy:a.eval y=.agg us.toArray) {n:Nat} (hl:us.length=n) (hi:(P.info? ty).map (·.size)=some n) (ht:w.there b off n) (h1:∀v∈us,v.oneCell'=true)
  (hds:o.dst=none) (h:wpList P ops Q rest a (w.setCells b off us)):wpList P ops Q (o::rest) a w:=by
 refine wpList_store_mid KC ty x y ho b off us.toArray hx hy (by simpa [hl]using ht) (by rw[hi];simp[hl]) (all_oneCell_toArray h1) ?_;have e:a.put o.dst undef=a:=by rw[hds];rfl
 rw[e];exact h
theorem Lw{l:List bz}(h:lO l=true):l.length≤1000000∧(allM l).length≤1000000:=by
 simp only[lO,aCs,aCy,aCG]at h;refine⟨by omega,?_⟩;have key:∀l:List bz,(∀r∈l,(nZ r).length≤1000)→(allM l).length≤1000*l.length:=by
  intro l;induction l with
  | nil=>intro _;simp[allM]
  | cons r l ih=>
   intro hr;have h1:=hr r aCK;have h2:=ih (fun x hx=>hr x (aCQ _ hx));simp only[allM,aEC,aCp,aDF,aCv]at h2 ⊢;omega
 have:=key l h.2;omega
theorem amD{ai:Int}{ab:List bz}(hs:ai≤1000000)(hp:ab.all ux=true)(c:Int):br (eJ (c,ai,ab)).1=true:=by
 have hp:=aCG.1 hp;by_cases h0:aL (fun q=>decide (q.1=c)) ab 0<0
 ·simp only[eJ,aCm h0,aCn]
  refine rP (by simp;omega) fun s hs=>?_
  rw[(aEN.1 hs).2];rfl
 ·have cg:aL (fun q:bz=>decide (q.1=c)) ab 0<0+(ab.length:Nat):=lJ _ ab 0 (Int.le_refl 0)
  have hm:=hp (ab.getD (aL (fun q=>decide (q.1=c)) ab 0).toNat zq5) (by
   rw[aDB,aCF (by omega)];exact aEU _)
  simp only[ux,aCs,aCy]at hm;simp only[eJ,aCz h0,aCq];exact hm.1
end Go.AL
namespace Go.AL
open Go.Proofs Go.RowKit
variable [ZA]
attribute [local go_sem] Oper.semAt_some
def Zs.A2(A:Nat→Prop)(n0:Nat)(W:World)(b:Nat):Prop:=A b∨(n0≤b∧b<W.heap.size)
def Zs.Ao(A:Nat→Prop)(n0:Nat)(q:Value)(b:Nat):Prop:=A b∨b=n0∨q.ownBlock=some b
theorem Zs.arg{w W:World}{A:Nat→Prop}(hb:Below w.heap.size w W){t:Ty}{x:t.T}{u:Value}(h:Cl w A t x u):Cl W (Zs.A2 A w.heap.size W) t x u:=
 h.fr (fun b jb _=>hb.block b jb) hb.size (fun b jb h=>h.elim id (fun h=>by omega))
theorem Zs.cop{w W:World}{A:Nat→Prop}(hA:∀b,A b→b<w.heap.size)(hW:Below w.heap.size w W){l:List ax}{u:Value}(h:Cl w A (.sl aW) l u)(hl:br l=true):Calls Tryz.prog 87 #[u] W fun en w'=>∃q,en=.returned q∧bk w' (fun b=>Zs.A2 A w.heap.size W b∨q.ownBlock=some b) W.heap.size 64 15 aW l q∧Below W.heap.size W w'∧∃a n c,q=.slice a n c:=by
 have hA2:∀b,Zs.A2 A w.heap.size W b→b<W.heap.size:=fun b h=>h.elim (fun h=>aCP (hA b h) hW.size) (·.2)
 refine(Hw.call Cq (l:List ax) hl hA2 (us:=#[u]) (Hy.one (Ag.rdc (Zs.arg hW h)))).mono fun en w' hh=>?_
 obtain⟨us,A',rfl,hr,sY,hA',hB⟩:=hh;obtain⟨r,rfl,ho,hg⟩:=(show ∃u',us=[u']∧bk w' A' W.heap.size 64 15 aW l u'∧∀g,u'.ownBlock=some g→A' g from hr);exact⟨r,rfl,ho.ev (Ev.rf w' (fun _=>False)) (fun _ _ h=>h.elim) (fun b _ hb=>hb.elim (sY b) (hg b)) (fun _ _ h=>h),hB,by obtain⟨a,c,e⟩:=ho.form;exact⟨a,_,c,e⟩⟩
theorem Zs.ccp{w W:World}{A:Nat→Prop}(hA:∀b,A b→b<w.heap.size)(hW:Below w.heap.size w W){l:List bn}{u:Value}(h:Cl w A (.sl cc) l u)(hl:fN l=true):Calls Tryz.prog 88 #[u] W fun en w'=>∃q,en=.returned q∧Cl w' (Zs.A2 A w.heap.size W) (.sl cc) l q∧Below W.heap.size W w'∧∃a n c,q=.slice a n c:=by
 have hA2:∀b,Zs.A2 A w.heap.size W b→b<W.heap.size:=fun b h=>h.elim (fun h=>aCP (hA b h) hW.size) (·.2)
 refine(Hw.call W7 (l:List bn) hl hA2 (us:=#[u]) (Hy.one (Ag.rdc (Zs.arg hW h)))).mono fun en w' hh=>?_
 obtain⟨us,A',rfl,hr,sY,hA',hB⟩:=hh;obtain⟨r,rfl,ho,hg⟩:=(show ∃u',us=[u']∧bk w' A' W.heap.size 56 28 cc l u'∧∀g,u'.ownBlock=some g→A' g from hr);exact⟨r,rfl,(ho.ev (Ev.rf w' (fun _=>False)) (fun _ _ h=>h.elim) (fun b _ hb=>sY b hb) (fun _ _ h=>h)).cl rfl (fun g hg hb=>by have:=(ho.lt hg).1;have:=hA2 g hb;omega),hB,by obtain⟨a,c,e⟩:=ho.form;exact⟨a,_,c,e⟩⟩
def Zs.Two(w6:World)(A:Nat→Prop)(n0:Nat)(x:List ax)(y:List bn)(q p:Value):Prop:=bk w6 (Zs.Ao A n0 q) n0 64 15 aW x q∧Cl w6 (Zs.Ao A n0 q) (.sl cc) y p
theorem Zs.qp{W w5 W5 w6:World}{A:Nat→Prop}{n0:Nat}{x:List ax}{y:List bn}{q p:Value}(hn:n0<W.heap.size)(hW5:W.heap.size≤w5.heap.size)(ho:bk w5 (fun b=>Zs.A2 A n0 W b∨q.ownBlock=some b) W.heap.size 64 15 aW x q)(h5:Below w5.heap.size w5 W5)(hp:Cl w6 (Zs.A2 A n0 W5) (.sl cc) y p)(h6:Below W5.heap.size W5 w6):Zs.Two w6 A n0 x y q p:=by
 have cg:=fun g hg=>ho.lt (g:=g) hg
 have h56:Below w5.heap.size w5 w6:=h5.trans (h6.mono h5.size);have hs:=h5.size;refine⟨((ho.mono (aDO hn)).ev (fP h56 (fun _=>False)) (A':=Zs.Ao A n0 q) (fun _ _ h=>h.elim) (fun b hb h=>?_) (fun _ _ h=>h)),hp.fr (cZ.refl _ _) (aCt _) (fun b _ h=>?_)⟩
 ·rcases h with h | h | h
  ·exact .inl (.inl h)
  ·exact .inl (.inr ⟨by omega,by omega⟩)
  ·exact .inr h
 ·rcases h with h | h | h
  ·exact .inl h
  ·exact .inr ⟨by omega,by omega⟩
  ·have:=cg b h
   exact .inr ⟨by omega,by omega⟩
theorem Zs.Two.st{w6:World}{A:Nat→Prop}{n0:Nat}{x:List ax}{y:List bn}{q p:Value}(h:Zs.Two w6 A n0 x y q p)(ec:∀g,q.ownBlock=some g→¬ g=n0)(j:Nat)(v:Value):Zs.Two (w6.setCell ⟨n0,j,none⟩ v) A n0 x y q p:=by
 have wJ:Ev w6 (w6.setCell ⟨n0,j,none⟩ v) (fun b=>b=n0):=Ev.st (X:=fun b=>b=n0) (Ev.rf w6 _) n0 j v (.inl rfl);exact⟨h.1.ev wJ (fun b _ e=>.inr (.inl e)) (fun _ _ h=>h) (fun g hg e=>ec g hg e),h.2.ev wJ (fun b _ e=>.inr (.inl e)) (fun _ _ h=>h)⟩
theorem Zs.cells{w W:World}{t:TypeId}{a0 a1 a2 a3 a4 a5:Value}(h:Below (w.heap.size+1) (w.alloc (.cells #[a0,a1,a2,a3,a4,a5] t)) W):W.cell? ⟨w.heap.size,0,none⟩=some a0∧W.cell? ⟨w.heap.size,1,none⟩=some a1∧W.cell? ⟨w.heap.size,2,none⟩=some a2∧W.cell? ⟨w.heap.size,3,none⟩=some a3∧W.cell? ⟨w.heap.size,4,none⟩=some a4∧W.cell? ⟨w.heap.size,5,none⟩=some a5∧∀j,W.frozen? ⟨w.heap.size,j,none⟩=false:=by
 have hb:=(HB.new w t #[a0,a1,a2,a3,a4,a5]).below h (by omega);exact⟨hb.cell 0,hb.cell 1,hb.cell 2,hb.cell 3,hb.cell 4,hb.cell 5,fun j=>hb.frozen j⟩
theorem Zs.Yg{core ai:Int}{ab:List bz}{k:Nat}{r:bz}(hr:ab[k]? = some r)(hc:r.1=core)(hn:∀x∈ab.take k,decide (x.1=core)=false):(eJ (core,ai,ab)).1=r.2.2.2.2.1∧(eJ (core,ai,ab)).2.1=r.2.2.2.2.2.1:=by
 have hk:=(aCD.1 hr).1;have hx:ab[k]=r:=by rw[aCF hk]at hr;exact aDb hr
 have hf:aL (fun q:bz=>decide (q.1=core)) ab 0=0+(k:Nat):=(Bo (p:=fun q:bz=>decide (q.1=core)) ab 0 k r (ab.drop (k+1)) (by rw[aDW hk,hx]) (aCm hc)).2 (aEq.2 (fun x C1=>by rw[hn x C1];simp));have hg:ab.getD ((0:Int)+(k:Nat)).toNat zq5=r:=by
  rw[Int.zero_add,aC8,aDB,hr];rfl
 simp only[eJ,hf,hg];rw[aCz (by omega)];exact⟨rfl,rfl⟩
def Zs.fv(w:World)(A:Nat→Prop)(x:ao)(en:Ending)(w':World):Prop:=∃q p,en=.returned (.agg #[q,p,(.slice none 0 0),(.slice none 0 0),(.slice none 0 0),(.slice none 0 0)])∧Zs.Two w' A w.heap.size x.1 x.2.1 q p∧Below w.heap.size w w'∧(∃a n c,q=.slice a n c)∧∃a n c,p=.slice a n c
theorem Zs.amE{core ai:Int}{ab:List bz}(hn:∀x∈ab,decide (x.1=core)=false):(eJ (core,ai,ab)).1=List.replicate (max ai 0).toNat kF∧(eJ (core,ai,ab)).2.1=[]:=by
 have h:=DU (p:=fun q:bz=>decide (q.1=core)) ab;rw[aEq.2 (fun x hx=>by rw[hn x hx];simp)]at h;have h0:aL (fun q:bz=>decide (q.1=core)) ab 0<0:=by
  have:=of_decide_eq_false h;omega
 simp only[eJ,aCm h0,aCn]
 first | exact⟨trivial,trivial⟩ | exact⟨rfl,rfl⟩ | simp
theorem Zs.done{w w6:World}{A:Nat→Prop}{x:ao}{xs:List ax}{ys:List bn}{q p:Value}(h:Zs.Two w6 A w.heap.size xs ys q p)(hx:x.1=xs∧x.2.1=ys)(hb:Below w.heap.size w w6)(h1:∃a n c,q=.slice a n c)(h2:∃a n c,p=.slice a n c)(ec:∀g,q.ownBlock=some g→¬ g=w.heap.size):
  Zs.fv w A x (.returned (.agg #[q,p,.slice none 0 0,.slice none 0 0,.slice none 0 0,.slice none 0 0])) ((((((w6.setCell ⟨w.heap.size,0,none⟩ q).setCell ⟨w.heap.size,1,none⟩ p).setCell ⟨w.heap.size,2,none⟩ (.slice none 0 0)).setCell ⟨w.heap.size,3,none⟩ (.slice none 0 0)).setCell ⟨w.heap.size,4,none⟩ (.slice none 0 0)).setCell ⟨w.heap.size,5,none⟩ (.slice none 0 0)):=by
 refine⟨q,p,rfl,?_,?_,h1,h2⟩
 ·rw[hx.1,hx.2]
  exact(((((h.st ec 0 q).st ec 1 p).st ec 2 _).st ec 3 _).st ec 4 _).st ec 5 _
 ·have bL:Ev w w6 (fun _=>False):=⟨hb.os,hb.tape,hb.output,hb.size,fun b jb _=>hb.block b jb⟩
  have KB:(False:Prop)∨w.heap.size≤w.heap.size:=.inr (aCt _);have h6:=(((((bL.st w.heap.size 0 q KB).st w.heap.size 1 p KB).st w.heap.size 2 (.slice none 0 0) KB).st w.heap.size 3 (.slice none 0 0) KB).st w.heap.size 4 (.slice none 0 0) KB).st w.heap.size 5 (.slice none 0 0) KB;exact⟨h6.os,h6.tape,h6.output,h6.size,fun b jb=>h6.block b jb (fun h=>h)⟩
theorem Zs.six{w6:World}{B:Nat}{t:TypeId}(h:HB w6 B t #[.slice none 0 0,.slice none 0 0,.slice none 0 0,.slice none 0 0,.slice none 0 0,.slice none 0 0])(q p:Value):HB ((((((w6.setCell ⟨B,0,none⟩ q).setCell ⟨B,1,none⟩ p).setCell ⟨B,2,none⟩ (.slice none 0 0)).setCell ⟨B,3,none⟩ (.slice none 0 0)).setCell ⟨B,4,none⟩ (.slice none 0 0)).setCell ⟨B,5,none⟩ (.slice none 0 0)) B t #[q,p,.slice none 0 0,.slice none 0 0,.slice none 0 0,.slice none 0 0]:=by
 have:=(((((h.set 0 q).set 1 p).set 2 (.slice none 0 0)).set 3 (.slice none 0 0)).set 4 (.slice none 0 0)).set 5 (.slice none 0 0);simpa using this
theorem aod:(Tryz.prog.info? 64).map (fun i=>(i.zero,i.size,i.bytes))=some (some (.agg (sE kF (.slice none 0 0)).toArray),15,136):=by kernel_rfl
theorem Zs.mk(w:World){A:Nat→Prop}(N:Nat)(m:Int)(hm:m=(N:Int))(hN:N≤1000000):∃r w',(Instr.makeSlice 31 (.int .i64 m) (.int .i64 m)).run Tryz.prog w=.ok r w'∧
  (r=.slice (some ⟨w.heap.size,0,none⟩) N N∧bk w' A w.heap.size 64 15 aW (List.replicate N kF) (.slice (some ⟨w.heap.size,0,none⟩) N N)∧Below w.heap.size w w'):=by
 subst hm;have Bi:=aod;cases hi:Tryz.prog.info? 64 with
 | none=>rw[hi]at Bi;cases Bi
 | some i0=>
  rw[hi]at Bi;simp only[aCU,aCA,aCH]at Bi;obtain⟨hz,hs,hb⟩:=Bi;obtain⟨w',hr,fq,hT⟩:=run_makeSlice_full (P:=Tryz.prog) w w.heap.size 31 64 i0 _ 15 Tryz.underlying31 hi hz hs .i64 .i64 N (by omega) (by rw[hb];omega) (by unfold maxLen;omega) (aCt _);have hlen:(List.replicate N kF).length=N:=aEY;have aaP:∀n:Nat,n=N→w'.ownsRow w.heap.size 64 15 (.slice (some ⟨w.heap.size,0,none⟩) N N) n (madeCells (Value.agg (sE kF (.slice none 0 0)).toArray).cells (N*15)).toList:=fun n e=>by rw[e];exact fq
  refine⟨_,w',hr,rfl,?_,⟨hT.os,hT.tape,hT.output,hT.size,fun k hk=>hT.block k hk (by simp)⟩⟩;refine bk.Nr (τ:=aW) (xs:=List.replicate N kF) (aaP _ hlen) (fun i x hx=>?_);have hiN:i<N:=by
   have h7:i<List.length (α:=ax) (List.replicate N kF):=(aCD.1 hx).1
   rwa [hlen]at h7
  have hx:x=kF:=List.eq_of_mem_replicate (aCC hx);subst hx;refine⟨_,EL (x:=kF) (cX.2 (Sl.nil none)),rfl,fun j v hv=>?_⟩;have hj:j<15:=by have:=(aCD.1 hv).1;simpa using this
  have cg:i*15+j<N*15:=by omega
  have hm:(i*15+j) % 15=j:=by omega
  have atn:(sE kF (.slice none 0 0)).toArray[j]! = v:=by
   have:(sE kF (.slice none 0 0)).toArray[j]? = some v:=by simpa using hv
   rw[getElem!_def,this]
  have dC:(sE kF (.slice none 0 0)).toArray.size=15:=rfl;simp only[madeCells,Value.cells,aDy,Array.getElem?_map,dC,Array.getElem?_range,cg,aC5,aCU,hm,atn]
theorem Zs.rp{w:World}{A:Nat→Prop}{x:bz}{us:List Value}(h:Rw w A cV x us):∃p4 p5,us[0]? = some (.int .i64 x.1)∧us[4]? = some p4∧us[5]? = some p5∧us.length=20∧Cl w A (.sl aW) x.2.2.2.2.1 p4∧Cl w A (.sl cc) x.2.2.2.2.2.1 p5:=by
 obtain⟨p2,p3,p4,p5,p6,p7,p8,p9,QS,QR,QQ,QP,QO,QN,QM,QL,hh,h2,h3,h4,h5,h6,_⟩:=Qb h;exact⟨p4,p5,by rw[hh];rfl,by rw[hh];rfl,by rw[hh];rfl,by rw[hh];rfl,h4,h5⟩
set_option maxRecDepth 100000 in
set_option maxHeartbeats 4000000 in
theorem Zs.avl(w:World){A:Nat→Prop}(hA:∀b,A b→b<w.heap.size)(core ai:Int)(ab:List bz)(ur:Value)(hp:Tv (core,ai,ab)=true)(Rb:Cl w A (.sl cV) ab ur):Calls Tryz.prog 53 #[.int .i64 core,.int .i64 ai,ur] w (Zs.fv w A (eJ (core,ai,ab))):=by
 have Kt:=Tryz.underlying25;have C2:=Tryz.underlying38;obtain⟨ua,uc,rfl⟩:=(show ∃a c,ur=.slice a (ab.length:Nat) c from(cX.1 Rb).form);simp only[Tv,aCs,aCy]at hp;obtain⟨hp1,DQ,hp3⟩:=hp;have fS:=Hw.bT (aCG.1 hp3);have HU:=Hw.bT Rb;clear Rb hp3;go_enter Tryz.func53,Tryz.ntmps53;go_wp2
 go_loopw [11] (fun i wr=>∃k:Nat,k≤ab.length∧i=.int .i64 (k:Int)∧(∀x∈ab.take k,decide (x.1=core)=false)∧Below (w.heap.size+1) (w.alloc (.cells #[(.slice none 0 0),(.slice none 0 0),(.slice none 0 0),(.slice none 0 0),(.slice none 0 0),(.slice none 0 0)] 38)) wr) (fun i _=>ab.length-(RowKit.intOf i).toNat)
 case atStart=>exact⟨0,aDj _,rfl,by simp,Below.refl _ _⟩
 case round=>
  obtain⟨k,hk,rfl,hno,hB⟩:=hrel;by_cases cg:k<ab.length
  ·have xi:(k:Int)<(ab.length:Int):=by omega
   have Rk:(0:Int)≤(k:Int):=by omega
   obtain⟨r,hr⟩:∃r,ab[k]? = some r:=⟨_,aCF cg⟩;have hBw:Below w.heap.size w wr:=((Below.refl _ _).alloc (aCt _) _).trans (hB.mono (aEb _));obtain⟨b,off,c,us,hv,hb,hbA,ub,_,sX⟩:=(cX.1 HU.out).get hr;obtain⟨rfl,-,rfl⟩:=Value.slice.inj hv;obtain⟨p4,p5,e0,e4,e5,uT,hc4,hc5⟩:=Zs.rp ub;have h1c:∀v∈us,v.oneCell'=true:=ub.one;have FE:wr.rangeAt b (off+k*20) us:=fun j v hv=>(hBw.cell (p:=⟨b,off+k*20+j,none⟩) hb).trans (sX j v hv)
   have iz:(Tryz.prog.info? 40).map (·.size)=some 20:=by kernel_rfl
   have oE:=HB.new wr 40 us.toArray;have f0:(wr.alloc (.cells us.toArray 40)).cell? ⟨wr.heap.size,0,none⟩=some (.int .i64 r.1):=by rw[oE.cell];simpa using e0
   have f4:(wr.alloc (.cells us.toArray 40)).cell? ⟨wr.heap.size,4,none⟩=some p4:=by rw[oE.cell];simpa using e4
   have f5:(wr.alloc (.cells us.toArray 40)).cell? ⟨wr.heap.size,5,none⟩=some p5:=by rw[oE.cell];simpa using e5
   obtain⟨a4,n4,k4,rfl⟩:=hc4.form;obtain⟨a5,n5,k5,rfl⟩:=hc5.form;have HC:=Hw.bT (And.intro hc4 hc5);have HR:=Hw.bT hr;have HN:=Hw.bT hno;have HBw:=Hw.bT (And.intro hB hBw);clear sX hv ub hr hc4 hc5 oE e0 e4 e5 hno hB hBw
   go_upto_region 4 with(first | (refine wN rfl 40 (.tmp 13) rfl rfl FE Tryz.underlying40 rfl iz uT ?_) | (refine uh rfl 40 (.tmp 8) (.tmp 14) rfl rfl rfl (by rfl) uT iz h1c rfl ?_))
   have aaB:=Tryz.underlying40;by_cases hcr:r.1=core
   ·have hcb:(r.1 == core)=true:=by simp[hcr]
    have atA:Below w.heap.size w (wr.alloc (.cells us.toArray 40)):=HBw.out.2.alloc HBw.out.2.size _;have KL:Below (w.heap.size+1) (w.alloc (.cells #[.slice none 0 0,.slice none 0 0,.slice none 0 0,.slice none 0 0,.slice none 0 0,.slice none 0 0] 38)) (wr.alloc (.cells us.toArray 40)):=HBw.out.1.alloc (by have:=HBw.out.1.size;simpa using this) _;have H1:=Hw.bT (And.intro atA.drew KL.drew);have oe:w.heap.size+1≤(wr.alloc (.cells us.toArray 40)).drew.heap.size:=by have:=KL.size;simpa using this
    have hrp:=fS.out r (aCC HR.out);simp only[ux,aCs,aCy]at hrp;have HK:=Hw.bT (And.intro hrp.1 hrp.2.2.1);clear hrp atA KL;go_wp2
    go_region_with (first
     | (go_at_call 87;refine(Zs.cop hA H1.out.1 HC.out.1 HK.out.1).mono ?_;rintro en w5 ⟨q,rfl,Xh,ki,⟨qa,qn,qc,rfl⟩⟩;obtain⟨z0,z1,z2,z3,z4,z5,zf⟩:=Zs.cells (H1.out.2.trans (ki.mono oe));have f5x:=(ki.cell (p:=⟨wr.heap.size,5,none⟩) (by simp)).trans f5)
     | (go_at_call 88;refine(Zs.ccp hA H1.out.1 HC.out.2 HK.out.2).mono ?_;rintro en w7 ⟨p,rfl,hp7,ue,⟨pa,pn,pc,rfl⟩⟩;obtain⟨y0,y1,y2,y3,y4,y5,yf⟩:=Zs.cells (H1.out.2.trans (ue.mono oe));have f4x:=(ue.cell (p:=⟨wr.heap.size,4,none⟩) (by simp)).trans f4)
     | (go_at_call 87;refine(Zs.cop hA (H1.out.1.trans (ue.mono (aCO (aEb _) oe))) HC.out.1 HK.out.1).mono ?_;rintro en w5 ⟨q,rfl,Xh,ki,⟨qa,qn,qc,rfl⟩⟩;obtain⟨z0,z1,z2,z3,z4,z5,zf⟩:=Zs.cells ((H1.out.2.trans (ue.mono oe)).trans (ki.mono (aCO oe ue.size))))
     | (go_at_call 88;refine(Zs.ccp hA (H1.out.1.trans (ki.mono (aCO (aEb _) oe))) HC.out.2 HK.out.2).mono ?_;rintro en w7 ⟨p,rfl,hp7,ue,⟨pa,pn,pc,rfl⟩⟩;obtain⟨y0,y1,y2,y3,y4,y5,yf⟩:=Zs.cells ((H1.out.2.trans (ki.mono oe)).trans (ue.mono (aCO oe ki.size)))))
    all_goals go_wp2
    all_goals (try simp only[Exit.inBlock,Exit.then])
    all_goals first
     | (refine bodyPost_ret (results_cell_row rfl _ _ w.heap.size 38 _ (0,0) _ rfl (Zs.six ((HB.new w 38 #[.slice none 0 0,.slice none 0 0,.slice none 0 0,.slice none 0 0,.slice none 0 0,.slice none 0 0]).below ((H1.out.2.trans (ki.mono oe)).trans (ue.mono (aCO oe ki.size))) (aDG _)) _ _) C2 rfl (by kernel_rfl)) rfl ?_;exact Zs.done (Zs.qp oe ki.size Xh (Below.refl _ _) hp7 ue) (Zs.Yg HR.out hcr HN.out) ((H1.out.1.trans (ki.mono (aDO oe))).trans (ue.mono (aCO (aDO oe) ki.size))) ⟨_,_,_,rfl⟩ ⟨_,_,_,rfl⟩ (fun g hg e=>absurd (aCO oe (Xh.lt hg).1) (by omega)))
     | (refine bodyPost_ret (results_cell_row rfl _ _ w.heap.size 38 _ (0,0) _ rfl (Zs.six ((HB.new w 38 #[.slice none 0 0,.slice none 0 0,.slice none 0 0,.slice none 0 0,.slice none 0 0,.slice none 0 0]).below ((H1.out.2.trans (ue.mono oe)).trans (ki.mono (aCO oe ue.size))) (aDG _)) _ _) C2 rfl (by kernel_rfl)) rfl ?_;exact Zs.done (Zs.pq oe ue.size hp7 (Below.refl _ _) Xh ki) (Zs.Yg HR.out hcr HN.out) ((H1.out.1.trans (ue.mono (aDO oe))).trans (ki.mono (aCO (aDO oe) ue.size))) ⟨_,_,_,rfl⟩ ⟨_,_,_,rfl⟩ (fun g hg e=>absurd (aCO (aCO oe ue.size) (Xh.lt hg).1) (by omega)))
   ·have hcb:(r.1 == core)=false:=by simp[hcr]
    go_wp2;refine⟨⟨k+1,by omega,by congr 1,?_,HBw.out.1.alloc (by have:=HBw.out.1.size;simpa using this) _⟩,by simp[RowKit.intOf];omega⟩;intro x hx;rw[aDn,HR.out]at hx;rcases aC3.1 hx with hx | hx
    ·exact HN.out x hx
    ·simp at hx
     rw[hx];simp[hcr]
  ·obtain rfl:k=ab.length:=by omega
   have xi:¬ (ab.length:Int)<(ab.length:Int):=by omega
   rw[aEe]at hno;have hmk:=Hw.bT (Zs.mk wr (A:=Zs.Ao A w.heap.size (.slice (some ⟨wr.heap.size,0,none⟩) (max ai 0).toNat (max ai 0).toNat)) (max ai 0).toNat (max ai 0) (by omega) (by omega));have HB2:=Hw.bT (And.intro hB hno);clear hB hno
   go_wp2_with (refine Zm.aq5 rfl 31 (.tmp 30) (.tmp 30) rfl rfl rfl hmk.out ?_;rintro r w5 ⟨rfl,Xh,ki⟩;obtain⟨z0,z1,z2,z3,z4,z5,zf⟩:=Zs.cells (HB2.out.1.trans (ki.mono (by have:=HB2.out.1.size;simpa using this))))
   have hs5:w.heap.size+1≤wr.heap.size:=by have:=HB2.out.1.size;simpa using this
   all_goals (try simp only[Exit.inBlock,Exit.then])
   refine bodyPost_ret (results_cell_row rfl _ _ w.heap.size 38 _ (0,0) _ rfl (Zs.six ((HB.new w 38 #[.slice none 0 0,.slice none 0 0,.slice none 0 0,.slice none 0 0,.slice none 0 0,.slice none 0 0]).below (HB2.out.1.trans (ki.mono hs5)) (aDG _)) _ _) C2 rfl (by kernel_rfl)) rfl ?_;exact Zs.done ⟨Xh.mono (aDO hs5),cX.2 (Sl.nil none)⟩ (Zs.amE HB2.out.2) ((((Below.refl _ _).alloc (aCt _) _).trans (HB2.out.1.mono (aEb _))).trans (ki.mono (aDO hs5))) ⟨_,_,_,rfl⟩ ⟨_,_,_,rfl⟩ (fun g hg e=>absurd (Xh.lt hg).1 (by omega))
end Go.AL
namespace Go.AL
open Go.Proofs Go.RowKit
variable [ZA]
theorem ag3{w:World}{A:Nat→Prop}{x:ao}(hx:x.2.2=([],[],[],[])){p:Value}(hp:Cl w A (.sl cc) x.2.1 p):Rw w A ba ([],x.2) [.slice none 0 0,p,.slice none 0 0,.slice none 0 0,.slice none 0 0,.slice none 0 0]:=by
 obtain⟨x1,x2,x3,x4,x5,x6⟩:=x;simp only[aCH]at hx;obtain⟨rfl,rfl,rfl,rfl⟩:=hx;exact oG (x:=([],x2,[],[],[],[])) (cX.2 (Sl.nil none)) hp (cX.2 (Sl.nil none)) (cX.2 (Sl.nil none)) (cX.2 (Sl.nil none)) (cX.2 (Sl.nil none))
theorem Zq.arI{wi:World}{G n0 n c:Nat}{bX:List ao}(ho:bk wi (eu G) n0 38 6 ba bX (.slice (some ⟨G,0,none⟩) n c)){i:Nat}(hi:i<bX.length)(core ai:Int){ab:List bz}{ur:Value}(hp:Tv (core,ai,ab)=true)(Rb:Cl wi (eu G) (.sl cV) ab ur):
  Calls Tryz.prog 53 #[.int .i64 core,.int .i64 ai,ur] wi fun en w2=>∃q p,en=.returned (.agg #[q,p,.slice none 0 0,.slice none 0 0,.slice none 0 0,.slice none 0 0])∧Below wi.heap.size wi w2∧(∃a n c,q=.slice a n c)∧(∃a n c,p=.slice a n c)∧w2.there G (i*6) 6∧
   Zq wi (w2.setCells G (i*6) [q,p,.slice none 0 0,.slice none 0 0,.slice none 0 0,.slice none 0 0]) G i (eJ (core,ai,ab)).1 (eJ (core,ai,ab)) q [p,.slice none 0 0,.slice none 0 0,.slice none 0 0,.slice none 0 0]:=by
 obtain⟨x0,hx0⟩:∃x,bX[i]? = some x:=⟨_,aCF hi⟩;obtain⟨us0,hu0,aid⟩:=Rc.start ho hx0;have hG:G<wi.heap.size:=aid.lt;refine(Zs.avl wi (A:=eu G) (fun b hb=>hb.lt hG) core ai ab ur hp Rb).mono fun en w2 hh=>?_
 obtain⟨q,p,rfl,⟨fq,hcp⟩,hB,hq,hpf⟩:=hh;have ec:∀g,q.ownBlock=some g→¬ g=G:=fun g hg e=>by have:=(fq.lt hg).1;omega
 have wJ:Ev w2 (w2.setCells G (i*6) [q,p,.slice none 0 0,.slice none 0 0,.slice none 0 0,.slice none 0 0]) (fun b=>b=G):=Ev.bX (X:=fun b=>b=G) (.inl rfl) _ _ (Ev.rf _ _);have hA2:∀b,b<w2.heap.size→Aq G q b→Zs.Ao (eu G) wi.heap.size q b:=fun b _ hb=>hb.elim (fun h=>.inl h) (fun h=>.inr (.inr h))
 refine⟨q,p,rfl,hB,hq,hpf,(aid.low hB).there,?_,?_,?_⟩
 ·have hl0:us0.length=6:=by
   obtain⟨_,ct,cur,b1,b2,b3,b4,b5,b6,b7⟩:=aid;exact b4
  have:=(aid.low hB).put (off:=0) (vs:=[q,p,.slice none 0 0,.slice none 0 0,.slice none 0 0,.slice none 0 0]) (by simp);rw[aDE,aC1,aEQ (by simp[hl0]),aCM,aEs]at this;exact this
 ·exact(fq.ev (Ev.rf w2 (fun _=>False)) (fun _ _ h=>h.elim) hA2 (fun b _ h=>by first | exact h | exact .inr h | exact .inl (.inr h))).ev wJ (fun b _ h=>by first | exact .inl h | exact .inl (.inr h)) (fun b _ h=>by first | exact h | exact .inr h | exact .inl (.inr h)) (fun g hg h=>ec g hg h)
 ·exact ag3 (JO _) ((hcp.ev (Ev.rf w2 (fun _=>False)) (fun _ _ h=>h.elim) hA2).ev wJ (fun b _ h=>by first | exact .inl h | exact .inl (.inr h)) (fun b _ h=>by first | exact h | exact .inr h | exact .inl (.inr h)))
theorem Rc.others{wi wr:World}{us:List Value}{i g es:Nat}{ty:TypeId}(h:Rc wi wr g i es ty us){m:Nat}(hm:m<i*es∨i*es+es≤m):wr.cell? ⟨g,m,none⟩=wi.cell? ⟨g,m,none⟩:=by
 obtain⟨bL,ct,cur,b1,b2,b3,b4,b5,b6,b7⟩:=h;rw[b2.cell,b1.cell,b6 m hm]
end Go.AL
namespace Go.AL
open Go.Proofs Go.RowKit
variable [ZA]
theorem Zq.arH{wi:World}{G n0 n c:Nat}{bX:List ao}(ho:bk wi (eu G) n0 38 6 ba bX (.slice (some ⟨G,0,none⟩) n c)){i:Nat}(hi:i<bX.length)(core ai:Int){ab:List bz}{ur:Value}(hp:Tv (core,ai,ab)=true)(Rb:Cl wi (eu G) (.sl cV) ab ur):
  Calls Tryz.prog 53 #[.int .i64 core,.int .i64 ai,ur] wi fun en w2=>∃(us:List Value) (q p:Value),en=.returned (.agg us.toArray)∧us.length=6∧(∀v∈us,v.oneCell'=true)∧Below wi.heap.size wi w2∧(∃a n c,q=.slice a n c)∧w2.there G (i*6) 6∧
   Zq wi (w2.setCells G (i*6) us) G i (eJ (core,ai,ab)).1 (eJ (core,ai,ab)) q [p,.slice none 0 0,.slice none 0 0,.slice none 0 0,.slice none 0 0]:=
 (Zq.arI ho hi core ai hp Rb).mono fun en w2 ⟨q,p,he,hB,hq,hpp,hth,hZ⟩=>⟨[q,p,.slice none 0 0,.slice none 0 0,.slice none 0 0,.slice none 0 0],q,p,he,rfl,by
  obtain⟨_,_,_,rfl⟩:=hq;obtain⟨_,_,_,rfl⟩:=hpp;simp[Value.oneCell'],hB,hq,hth,hZ⟩
def ya(id:Nat):Code→Option Code
 | .block i c=>match Nat.beq i id with
  | true=>some c
  | false=>ya id c
 | .loop c=>ya id c
 | .scope c=>ya id c
 | .seq a b=>match ya id a with
  | some c=>some c
  | none=>ya id b
 | .cond _ a b=>match ya id a with
  | some c=>some c
  | none=>ya id b
 | _=>none
noncomputable def Zm.blk(id:Nat):Code:=(ya id (aC Tryz.f19)).getD .skip
def Zm.Qx(b:Nat)(fv:Act→World→Prop):Exit→Act→World→Prop
 | .exit i,a,w=>i=b∧fv a w
 | _,_,_=>False
theorem Zm.use{P:Program}{b:Nat}{c:Code}{K:Act→World→Prop}{Q:Exit→Act→World→Prop}{a:Act}{w:World}(h:c.wp P (Zm.Qx b K) a w):c.wp P (Exit.inBlock b (Exit.then K Q)) a w:=wp_mono h fun e a w hq=>by
 cases e with
 | exit i=>
  obtain⟨rfl,hk⟩:=hq;show if i=i then _ else _
  rw[aCr rfl];exact hk
 | _=>exact hq.elim
def Zm.Nl(W:World)(G k:Nat):Prop:=∀i,i<k→W.cell? ⟨G,i*6+3,none⟩=some (.slice none 0 0)∧W.cell? ⟨G,i*6+4,none⟩=some (.slice none 0 0)
theorem Zm.Nl.step{wi w5:World}{G k:Nat}{l:List ax}{x:ao}{q p r r5:Value}(h:Zq wi w5 G k l x q [p,.slice none 0 0,.slice none 0 0,.slice none 0 0,r])(hn:Zm.Nl wi G k):Zm.Nl (w5.setCell ⟨G,k*6+5,none⟩ r5) G (k+1):=fun i hi=>by
 have Xf:=h.rc.put (off:=5) (vs:=[r5]) (by simp);simp only[World.setCells,List.take,List.drop,aCv,aCB,aDC,aC1]at Xf;by_cases hk:i=k
 ·subst hk
  exact⟨(Xf.cell (j:=3) rfl).1,(Xf.cell (j:=4) rfl).1⟩
 ·have:=hn i (by omega)
  exact⟨(Xf.others (by omega)).trans this.1,(Xf.others (by omega)).trans this.2⟩
def Zm.R1(w3 w':World)(G n:Nat)(f:Int→ao)(ms:List Int)(k:Nat):Prop:=Zm.L1 w3 w' G G n f ms k∧Zm.Nl w' G k
end Go.AL
namespace Go.AL
open Go.Proofs Go.RowKit
variable [ZA]
attribute [local go_sem] Oper.semAt_some
set_option maxRecDepth 100000 in
set_option maxHeartbeats 4000000 in
theorem Zm.lp2{fv:Act→World→Prop}(w3 wi w5:World)(G n k:Nat)(ab:List bz)(da qa0:Option Addr)(dc qn0 qc0:Nat)(sr:ao)(ps:List Value){c0 c1 c2 c3 c4 c5 c6 c7 c8 Gl El IN IM Lg Gk Vo Vn IL IK Ek Lf Le Ld Ej Ei Eh Eg Ef Ee Ed Lc Lb La Gj Gi Gh Gg Gf Ge Gd Gc Gb Ga F9 IJ II IH IG IF IE ID IC IB IA Iz Iy Ix Iw Iv Iu It Is F8 F7 F6 F5 F4 Mt Ms Ir Iq Ip Io Im Il Ik Ij Ii Ih Ig Ie F3 F2 F1 F0 FZ FY FX Ec Eb Ea K9 K8 FW nz ny nw nv nu nt ns nr nq np lR qo qm qk nm nk nj ni nh sN sM sL oC oB oA oz oy ox ov ou ot oq tC tB tA qj qi qh qg qf qe qd qb pZ pY pX pW pV pU pT pS pR pQ pP pO pM pL pJ pI pH pG pF pE pD pC pB pA pz pw pv pk pj ph pg pf pe pd oo ng nf nd mZ mY mX mW lQ:Value}(hkn:k<n)(gv:n≤1000)(hdl:(bc ab).length≤100000)
  (bL:Ev w3 wi (fun b=>b=G)) (hd:Cl w3 (eu G) (.sl aH) (bc ab) (.slice da ((bc ab).length:Nat) dc)) (aaI:br sr.1=true) (hZ:Zq wi w5 G k sr.1 sr (.slice qa0 qn0 qc0) ps)
  (ga:∀(u14 u49 u50 u51 u52 u53 u54 u55 u56 u57 u58 u59 u60 u61 u62 u63 u64 u65 u66 u67:Value) (w':World) (qa:Option Addr) (qn qc:Nat),br (iJ sr.1 (bc ab))=true→Zq wi w' G k (iJ sr.1 (bc ab)) sr (.slice qa qn qc) ps→fv ⟨List.toArray (c0::c1::c2::c3::c4::c5::c6::c7::c8::.slice da ((bc ab).length:Nat) dc::.slice (some ⟨G,0,none⟩) n n::.int .i64 (k:Int)::Gl::El::u14::IM::Lg::Gk::Vo::Vn::IL::IK::Ek::Lf::Le::Ld::Ej::Ei::Eh::Eg::Ef::Ee::Ed::Lc::Lb::La::Gj::Gi::Gh::Gg::Gf::Ge::Gd::Gc::Gb::Ga::F9::.slice da ((bc ab).length:Nat) dc::.int .i64 ((bc ab).length:Int)::u49::u50::u51::u52::u53::u54::u55::u56::u57::u58::u59::u60::u61::u62::u63::u64::u65::u66::u67::F8::F7::F6::F5::F4::Mt::Ms::Ir::Iq::Ip::Io::Im::Il::Ik::Ij::Ii::Ih::Ig::Ie::F3::F2::F1::F0::FZ::FY::FX::Ec::Eb::Ea::K9::K8::FW::nz::ny::nw::nv::nu::nt::ns::nr::nq::np::lR::qo::qm::qk::nm::nk::nj::ni::nh::sN::sM::sL::oC::oB::oA::oz::oy::ox::ov::ou::ot::oq::tC::tB::tA::qj::qi::qh::qg::qf::qe::qd::qb::pZ::pY::pX::pW::pV::pU::pT::pS::pR::pQ::pP::pO::pM::pL::pJ::pI::pH::pG::pF::pE::pD::pC::pB::pA::pz::pw::pv::pk::pj::ph::pg::pf::pe::pd::oo::ng::nf::nd::mZ::mY::mX::mW::lQ::[]),[]⟩ w') :
  Code.wp Tryz.prog (Zm.blk 2) (Zm.Qx 2 fv) ⟨List.toArray (c0::c1::c2::c3::c4::c5::c6::c7::c8::.slice da ((bc ab).length:Nat) dc::.slice (some ⟨G,0,none⟩) n n::.int .i64 (k:Int)::Gl::El::IN::IM::Lg::Gk::Vo::Vn::IL::IK::Ek::Lf::Le::Ld::Ej::Ei::Eh::Eg::Ef::Ee::Ed::Lc::Lb::La::Gj::Gi::Gh::Gg::Gf::Ge::Gd::Gc::Gb::Ga::F9::.slice da ((bc ab).length:Nat) dc::.int .i64 ((bc ab).length:Int)::.int .i64 0::IJ::II::IH::IG::IF::IE::ID::IC::IB::IA::Iz::Iy::Ix::Iw::Iv::Iu::It::Is::F8::F7::F6::F5::F4::Mt::Ms::Ir::Iq::Ip::Io::Im::Il::Ik::Ij::Ii::Ih::Ig::Ie::F3::F2::F1::F0::FZ::FY::FX::Ec::Eb::Ea::K9::K8::FW::nz::ny::nw::nv::nu::nt::ns::nr::nq::np::lR::qo::qm::qk::nm::nk::nj::ni::nh::sN::sM::sL::oC::oB::oA::oz::oy::ox::ov::ou::ot::oq::tC::tB::tA::qj::qi::qh::qg::qf::qe::qd::qb::pZ::pY::pX::pW::pV::pU::pT::pS::pR::pQ::pP::pO::pM::pL::pJ::pI::pH::pG::pF::pE::pD::pC::pB::pA::pz::pw::pv::pk::pj::ph::pg::pf::pe::pd::oo::ng::nf::nd::mZ::mY::mX::mW::lQ::[]),[]⟩ w5:=by
 conv=>arg 2;whnf
 have Kt:=Tryz.underlying61;have C2:=Tryz.underlying38;have ah6:=Tryz.underlying36;have aor:=Tryz.underlying48;have Rk:(0:Int)≤(k:Int):=by omega
 have xi:(k:Int)<(n:Int):=by omega
 have HW:=Hw.bT hd;have HE:=Hw.bT bL;have HZ:=Hw.bT hZ;clear hd bL hZ
 go_loopw [49] (fun i wq=>∃(j:Nat) (q:Value),j≤(bc ab).length∧i=.int .i64 (j:Int)∧(∃a n c,q=.slice a n c)∧br (iJ sr.1 ((bc ab).take j))=true∧Zq wi wq G k (iJ sr.1 ((bc ab).take j)) sr q ps) (fun i _=>(bc ab).length-(RowKit.intOf i).toNat)
 case atStart=>
  exact⟨0,_,aDj _,rfl,⟨_,_,_,rfl⟩,aaI,HZ.out⟩
 case round=>
  obtain⟨j,q,hj,rfl,⟨qa,qn,qc,rfl⟩,aX,hZ⟩:=hrel;clear HZ;by_cases hjt:j<(bc ab).length
  ·have hj1:(j:Int)<((bc ab).length:Int):=by omega
   have hj0:(0:Int)≤(j:Int):=by omega
   clear ga;obtain⟨op,Ia⟩:∃r,(bc ab)[j]? = some r:=⟨_,aCF hjt⟩;obtain⟨bd,od,cd,hvd,hbd,hbG,d0,d1,d2⟩:=asq (cX.1 HW.out) Ia;obtain⟨rfl,-,rfl⟩:=Value.slice.inj hvd;have aiq:Ev w3 wr (fun b=>b=G):=HE.out.tr hZ.rc.1;have y0:=(aiq.cell (o:=od+j*3) hbd (fun e=>hbG (.inr e))).trans d0;have y1:=(aiq.cell (o:=od+j*3+1) hbd (fun e=>hbG (.inr e))).trans d1;have y2:=(aiq.cell (o:=od+j*3+2) hbd (fun e=>hbG (.inr e))).trans d2;have hB2:Below wr.heap.size wr (wr.alloc (.cells (yM op).toArray 48)):=(Below.refl _ _).alloc (aCt _) _;have oE:=HB.new wr 48 (yM op).toArray;have x0:(wr.alloc (.cells #[.int .i64 op.1,.int .i64 op.2.1,.int .i64 op.2.2] 48)).cell? ⟨wr.heap.size,0,none⟩=some (.int .i64 op.1):=oE.cell 0;have x1:(wr.alloc (.cells #[.int .i64 op.1,.int .i64 op.2.1,.int .i64 op.2.2] 48)).cell? ⟨wr.heap.size,1,none⟩=some (.int .i64 op.2.1):=oE.cell 1;have x2:(wr.alloc (.cells #[.int .i64 op.1,.int .i64 op.2.1,.int .i64 op.2.2] 48)).cell? ⟨wr.heap.size,2,none⟩=some (.int .i64 op.2.2):=oE.cell 2;have g0:(wr.alloc (.cells #[.int .i64 op.1,.int .i64 op.2.1,.int .i64 op.2.2] 48)).cell? ⟨G,k*6,none⟩=some (.slice qa qn qc):=(hB2.cell (p:=⟨G,k*6,none⟩) hZ.gr).trans (hZ.rc.cell (j:=0) rfl).1;have HS:=Hw.bT (fun(W:World) (hW:Below wr.heap.size wr W)=>hZ.swe aX op hW);have HB2:=Hw.bT hB2;have HSN:=Hw.bT (And.intro (Tp sr.1 Ia) (ES op aX));clear hvd aiq d0 d1 d2 oE aX Ia hB2 hZ;go_wp2
   go_region_with ((go_at_call 54;refine(HS.out _ HB2.out.drew).mono ?_;rintro en w5 ⟨q5,r5,rfl,hZ5,ki,⟨a5,n5,c5,rfl⟩,e5,f5⟩))
   all_goals go_wp2
   all_goals exact⟨⟨j+1,_,by omega,by congr 1,⟨_,_,_,rfl⟩,by rw[HSN.out.1];exact HSN.out.2,by rw[HSN.out.1];exact hZ5⟩,by simp[RowKit.intOf];omega⟩
  ·obtain rfl:j=(bc ab).length:=by omega
   have hj1:¬ ((bc ab).length:Int)<((bc ab).length:Int):=by omega
   rw[aEe]at hZ aX;have HF:=Hw.bT (And.intro aX hZ);clear hZ aX;go_wp2;exact⟨rfl,ga _ _ _ _ _ _ _ _ _ _ _ _ _ _ _ _ _ _ _ _ _ _ _ _ HF.out.1 HF.out.2⟩
end Go.AL
