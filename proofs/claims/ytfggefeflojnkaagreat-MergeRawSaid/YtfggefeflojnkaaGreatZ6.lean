/- By an AI agent. -/
import Derived.Test.YtfggefeflojnkaaGreatZg
import Derived.Deep.RegionWith
import Derived.Deep.RegionLaw
set_option linter.unusedSimpArgs false
namespace Go.AL
open Go.Proofs Go.RowKit
attribute [local go_sem] Oper.semAt_some
theorem Za.rel{W:World}{A:Nat→Prop}(hA:∀b,A b→b<W.heap.size){l:List ax}{u:Value}(h:Cl W A (.sl aW) l u)(hl:br l=true)(op:Int):Calls Tryz.prog 91 #[u,.int .i64 op] W fun en w'=>∃u',en=.returned u'∧Cl w' A (.sl aW) (gH (l,op)) u'∧Below W.heap.size W w':=by
 refine(Hw.call afn ((l,op):List ax×Int) hl hA (us:=#[u,.int .i64 op]) (Hy.two (Ag.rdc h) Ag.int)).mono fun en w' hh=>?_
 obtain⟨us,A',rfl,hr,sY,hA',hB⟩:=hh;obtain⟨u',rfl,ho,hg⟩:=(show ∃u',us=[u']∧bk w' A' W.heap.size 64 15 aW (gH (l,op)) u'∧∀g,u'.ownBlock=some g→A' g from hr);exact⟨u',rfl,(ho.ev (Ev.rf w' (fun _=>False)) (fun _ _ h=>h.elim) (fun b _ hb=>sY b hb) (fun b _ h=>by first | exact h | exact .inr h | exact .inl (.inr h))).cl rfl (fun g hg hb=>by have:=(ho.lt hg).1;have:=hA g hb;omega),hB⟩
theorem Za.Qo{P:Program}{ops:Array Oper}{o:Oper}{a:Act}{w:World}{K:Act→World→Prop}{Q:Exit→Act→World→Prop}{E:Prop}
  (hg:o.guard=none) (d x:Operand) (t:TypeId) (Ia:o.op=Op.call {callee:=Callee.builtin Builtin.append,args:=#[d,x],argTypes:=#[t,t] }) (rS:o.type=t)
  {v u:Value} (hd:a.eval d=v) (hx:a.eval x=u) {R:Value→World→Prop} (hr:∃v' w',(Builtin.append_ #[t,t] t #[v,u]).run P w=.ok v' w'∧R v' w') (hK:∀v' w',R v' w'→K (a.put o.dst v') w') :
  if Region.wanted o (yielded ops a.tmps)=true then Oper.wp P o a w K Q else E:=by
 have hw:Region.wanted o (yielded ops a.tmps)=true:=by simp[Region.wanted,hg]
 rw[aCr hw];obtain⟨v',w',h1,h2⟩:=hr;unfold Oper.wp;simp[execOp,Ia,rS,resolve,invoke,builtin,hd,hx,h1,Result.andThen];exact hK _ _ h2
theorem Za.akl{P:Program}{w:World}{ops:Array Oper}{rest:List Oper}{o:Oper}{a:Act}{Q:Exit→Act→World→Prop}(KC:o.guard=none)(s x:Operand)(t:TypeId)
  (ho:o.op=.call {callee:=.builtin .append,args:=#[s,x],argTypes:=#[t,t] }) (rS:o.type=t) {v y:Value} (hs:a.eval s=v) (hx:a.eval x=y) {R:Value→World→Prop}
  (hr:∃v' w',(Builtin.append_ #[t,t] t #[v,y]).run P w=.ok v' w'∧R v' w') (h:∀v' w',R v' w'→wpList P ops Q rest (a.put o.dst v') w'):wpList P ops Q (o::rest) a w:=by
 refine wpList_plain KC fun _ hK=>?_
 obtain⟨v',w',h1,h2⟩:=hr;unfold Oper.wp execOp;simp only[ho,rS,resolve,invoke,builtin,Sem.run_bind,Sem.run_pure,Result.andThen_ok,List.map_toArray,aDh,aDR,hs,hx,h1];exact hK _ _ (h v' w' h2)
theorem Za.sort{W:World}{A:Nat→Prop}{n0:Nat}(hA:∀b,A b→b<W.heap.size){l:List bR}{u:Value}(h:bk W A n0 100 2 cF l u)(hg:∀g,u.ownBlock=some g→A g)(h20:l.length<20)(hs:∀z∈l,Yr z=true):
  Calls Tryz.prog 92 #[u,.func (.func 93) #[] #[]] W fun en w'=>∃A',en=.returned (.tuple #[])∧bk w' A' n0 100 2 cF (cb iP l) u∧(∀b,A b→A' b)∧Ev W w' (fun b=>u.ownBlock=some b):=by
 have hp:JN (l,())=true:=by
  simp only[JN,aCs,aCy,aCG];exact⟨h20,hs⟩
 refine(Hw.nX Ww rfl rfl rfl (l:List bR) () hp hA h hg (us:=[.func (.func 93) #[] #[]]) ⟨[.fn 93 []],⟨_,rfl,[],rfl,rfl⟩,fun H β=>⟨⟨#[],rfl,rfl,fun i x h=>by simp at h⟩,trivial⟩⟩).mono fun en w' hh=>?_
 obtain⟨Ah,A',β',rfl,⟨rds,hr,hlen,_⟩,ho,sY,_,bL⟩:=hh;have hr:rds=[]:=hr;subst hr;obtain rfl:=aEn.1 hlen;exact⟨A',rfl,ho,sY,bL⟩
theorem Za.res{W:World}{tmps:Array Value}:(results Tryz.f57 tmps).run Tryz.prog W=.ok (.tuple #[]) W:=by
 simp[results,Tryz.f57,go_sem]
variable [ZA]
def Za.fv(w:World)(G o:Nat)(ct:Array Value)(x:List ax×List bn×List bR)(en:Ending)(w':World):Prop:=en=.returned (.tuple #[])∧∃vs vl va,Ev w w' (fun b=>b=G)∧HB w' G 38 (((ct.setIfInBounds (o+3) va).setIfInBounds o vs).setIfInBounds (o+1) vl)∧
 Cl w' (eu G) (.sl aW) x.1 vs∧Cl w' (eu G) (.sl cc) x.2.1 vl∧Cl w' (eu G) (.sl cF) (cb iP x.2.2) va
def Za.At(w wr:World)(G o:Nat)(ct:Array Value)(h:al→Bool)(d:List al)(m:List Int)(l0:List ax)(iN:List bn)(k:Nat)(vl vs:Value):Prop:=∃l left an va,Za.yc w wr G o ct l left an vs vl va∧
 sO h d m l0 iN l0 [] []=sO h d m l0 (iN.drop k) l left an∧left.length≤k∧an.length≤k∧br l=true∧∀z∈an,Yr z=true
set_option maxRecDepth 100000 in
set_option maxHeartbeats 4000000 in
theorem Za.calls(w:World)(G o:Nat)(ct:Array Value)(hG:HB w G 38 ct)(l:List ax)(vs0:Value)(h0:ct[o]? = some vs0)(c0:Cl w (eu G) (.sl aW) l vs0)(iN:List bn)(vp:Value)(h1:ct[o+1]? = some vp)(c1:Cl w (eu G) (.sl cc) iN vp)
  (h3:ct[o+3]? = some (.slice none 0 0)) (d:List al) (ud:Value) (hd:Cl w (eu G) (.sl aH) d ud) (hdl:d.length≤1000000) (m:List Int) (um:Value) (hm:Cl w (eu G) (.sl [.int .i64]) m um) (hml:m.length≤1000000) (rm:Nat) (ids:List al) (hM:Yh.M w rm ids)
  (hl:br l=true) (hpl:iN.length≤19) (Ia:∀r∈iN,0≤r.2.1∧r.2.1≤4611686018427387904) :
  Calls Tryz.prog 57 #[.pointer (some ⟨G,o,none⟩),ud,.map (some rm),um] w (Za.fv w G o ct (sO (fun x=>decide (x∈ids)) d m l iN l [] [])):=by
 have ah8:=Tryz.underlying32;have aos:=Tryz.underlying38;have asu:=Tryz.underlying100;have ast:=Tryz.underlying48;have ass:=Tryz.underlying34;obtain⟨pa,pc,rfl⟩:=(show ∃a c,vp=.slice a (iN.length:Nat) c from(cX.1 c1).form);obtain⟨sa,sn,sc,rfl⟩:=c0.form;have e0:=hG.cell o;rw[h0]at e0;have e1:=hG.cell (o+1);rw[h1]at e1;have hM0:Za.yc w w G o ct l [] [] (.slice sa sn sc) (.slice none 0 0) (.slice none 0 0):=by
  have hc:ct.setIfInBounds (o+3) (.slice none 0 0)=ct:=by
   apply aEP;intro i;rw[aDc];by_cases hi:o+3=i
   ·subst hi;rw[aCr rfl,h3,aCr (aDJ.1 h3).1]
   ·rw[aCo hi]
  refine⟨Ev.rf _ _,hG.lt,by rw[hc];exact hG,c0.fr (cZ.refl _ _) (aCt _) (fun b _ h=>?_),.inl ⟨rfl,rfl⟩,.inl ⟨rfl,rfl⟩,fun g h=>by cases h⟩;rcases h with h | h | h
  ·exact h
  ·cases h
  ·cases h
 have hA0:Za.At w w G o ct (fun x=>decide (x∈ids)) d m l iN 0 (.slice none 0 0) (.slice sa sn sc):=⟨l,[],[],_,hM0,rfl,aCt _,aCt _,hl,fun z h=>by cases h⟩;have Hin:=Hw.bT (And.intro hG (And.intro h0 (And.intro h1 h3)));have Hpr:=Hw.bT (And.intro c0 (And.intro c1 (And.intro hd (And.intro hm hM))));clear hM0 hG h0 h1 h3 c0 c1 hd hm hM hl;go_enter Tryz.func57,Tryz.ntmps57;go_wp2
 go_loopw [8,9,23] (fun x8 x9 i wr=>∃k:Nat,k≤iN.length∧i=.int .i64 (k:Int)∧Za.At w wr G o ct (fun x=>decide (x∈ids)) d m l iN k x8 x9) (fun _ _ i _=>iN.length-(intOf i).toNat)
 case atStart=>exact⟨0,aDj _,rfl,hA0⟩
 case round=>
  obtain⟨k,hk,rfl,hAt⟩:=hrel;clear hA0;by_cases cg:k<iN.length
  ·have xi:(k:Int)<(iN.length:Int):=by omega
   have Rk:(0:Int)≤(k:Int):=by omega
   obtain⟨r,hr⟩:∃r,iN[k]? = some r:=⟨_,aCF cg⟩;obtain⟨lc,left,an,va,rU,KK,Ky,lG,aX,hsm⟩:=hAt;have aui:=Hw.bT KK;have Hr:=Hw.bT hr;obtain⟨c0,c1,hd,hm,hM⟩:=Hpr.out;obtain⟨hG,h0,h1,h3⟩:=Hin.out;have atl:=cX.1 (rU.pure c1);obtain⟨b,off,c,us,hv,hb,hbA,ub,_,sX⟩:=atl.get hr;obtain⟨rfl,-,rfl⟩:=Value.slice.inj hv;obtain⟨q,ja,hq⟩:=agz ub;have uT:us.length=28:=by rw[ja];rfl
   have h1c:∀v∈us,v.oneCell'=true:=ub.one;have FE:wr.rangeAt b (off+k*28) us:=sX;obtain⟨ev,kn,hkn⟩:∃x y,dI (fun x=>decide (x∈ids)) l r d m=(x,y):=⟨_,_,rfl⟩;have HO:=Hw.bT (show ∀W,Below wr.heap.size wr W→Calls Tryz.prog 90 #[.agg us.toArray,.slice sa sn sc,ud,.map (some rm),um] W (Zh.Out W (ev,kn))from fun W hW=>by
    have hML:=rU.low hW;have hMW:Yh.M W rm ids:=hM.frame (by
     obtain⟨es,c,hmm,_⟩:=hM;have cg:=(aDJ.1 hmm).1;refine hML.ev.block rm cg (fun e=>?_);subst e;rw[show w.heap[rm]? = _ from hG]at hmm;cases hmm)
    have:=Zh.out W r q (hq.low hW).none l _ (cX.1 (hML.pure c0).none) d ud (cX.1 (hML.pure hd).none) hdl m um (cX.1 (hML.pure hm).none) hml rm ids hMW;rw[hkn]at this;rw[ja];exact this)
   have Hus:=Hw.bT (And.intro ja (And.intro hq ub));have Hkn:=Hw.bT hkn;have HMd:=Hw.bT rU;have e0':wr.cell? ⟨G,o,none⟩=some (.slice sa sn sc):=by
    rw[rU.g.cell,aDc,aCo (by omega)];exact h0
   clear sX hv ub KK hr c0 c1 hd hm hM hG h0 h1 h3 ja hq hkn rU;have Hl:=Hw.bT (And.intro Ky (And.intro lG aX));have Hsm:=Hw.bT hsm;clear Ky lG aX hsm atl;have iz:(Tryz.prog.info? 56).map (·.size)=some 28:=by kernel_rfl
   have KL:Below wr.heap.size wr (wr.alloc (.cells us.toArray 56)):=(Below.refl _ _).alloc (aCt _) _;have oE:=HB.new wr 56 us.toArray;have hrb:=oE.range;have e0b:(wr.alloc (.cells us.toArray 56)).cell? ⟨G,o,none⟩=some (.slice sa sn sc):=(KL.cell (p:=⟨G,o,none⟩) HMd.out.g.lt).trans e0';clear e0'
   go_upto_region 5 with(first | (refine wN rfl 56 (.tmp 25) rfl rfl FE Tryz.underlying56 rfl iz uT ?_) | (refine uh rfl 56 (.tmp 11) (.tmp 26) rfl rfl rfl (by rfl) uT iz h1c rfl ?_))
   have aaD:=Tryz.underlying56;have as4:(Tryz.prog.info? 56).map (·.size)=some us.length:=by rw[iz,uT]
   refine wp_region_held (S:=fun W=>W.rangeAt wr.heap.size 0 us∧W.cell? ⟨G,o,none⟩=some (.slice sa sn sc)) mixed ?_;have cn:(fun W:World=>W.rangeAt wr.heap.size 0 us∧W.cell? ⟨G,o,none⟩=some (.slice sa sn sc)) {(wr.alloc (.cells us.toArray 56))with drawn:=(wr.alloc (.cells us.toArray 56)).drawn+1 }:=⟨hrb,e0b⟩;refine wpAnyH_take (i:=0) (oi:=_) (v:=_) rfl (by kernel_rfl) (by kernel_rfl) (by kernel_rfl) (fun _ _ _ h=>h) (yieldsIf_load_mid (by rfl) 56 (.tmp 11) rfl wr.heap.size 0 rfl us _ (fun w hw=>hw.1) aaD rfl as4) cn ?_
   try simp only[Act.put,aCW,aCR,aCS]
   refine wpAnyH_take (i:=1) (oi:=_) (v:=?v1) rfl (by kernel_rfl) (by kernel_rfl) (by kernel_rfl) (fun _ _ _ h=>h) (Or.inl ⟨by rfl,?y1⟩) cn ?r1
   case y1=>(intro w gf;(try dsimp only at gf);go_simp;try with_reducible rfl)
   try simp only[Act.put,aCW,aCR,aCS]
   refine wpAnyH_take (i:=2) (oi:=_) (v:=?v2) rfl (by kernel_rfl) (by kernel_rfl) (by kernel_rfl) (fun _ _ _ h=>h) (Or.inl ⟨by rfl,?y2⟩) cn ?r2
   case y2=>(intro w gf;(try dsimp only at gf);go_simp;try with_reducible rfl)
   try simp only[Act.put,aCW,aCR,aCS]
   refine wpAnyH_take (i:=3) (oi:=_) (v:=?v3) rfl (by kernel_rfl) (by kernel_rfl) (by kernel_rfl) (fun _ _ _ h=>h) (Or.inl ⟨by rfl,?y3⟩) cn ?r3
   case y3=>(intro w gf;(try dsimp only at gf);go_simp;try with_reducible rfl)
   try simp only[Act.put,aCW,aCR,aCS]
   refine wpAnyH_take (i:=4) (oi:=_) (v:=?v4) rfl (by kernel_rfl) (by kernel_rfl) (by kernel_rfl) (fun _ _ _ h=>h) (Or.inl ⟨by rfl,?y4⟩) cn ?r4
   case y4=>(intro w gf;(try dsimp only at gf);go_simp;try with_reducible rfl)
   try simp only[Act.put,aCW,aCR,aCS]
   refine wpAnyH_take (i:=5) (oi:=_) (v:=?v5) rfl (by kernel_rfl) (by kernel_rfl) (by kernel_rfl) (fun _ _ _ h=>h) (Or.inl ⟨by rfl,?y5⟩) cn ?r5
   case y5=>(intro w gf;(try dsimp only at gf);go_simp;try with_reducible rfl)
   try simp only[Act.put,aCW,aCR,aCS]
   refine wpAnyH_take (i:=6) (oi:=_) (v:=?v6) rfl (by kernel_rfl) (by kernel_rfl) (by kernel_rfl) (fun _ _ _ h=>h) (Or.inl ⟨by rfl,?y6⟩) cn ?r6
   case y6=>(intro w gf;(try dsimp only at gf);go_simp;try with_reducible rfl)
   try simp only[Act.put,aCW,aCR,aCS]
   refine wpAnyH_take (i:=7) (oi:=_) (v:=?v7) rfl (by kernel_rfl) (by kernel_rfl) (by kernel_rfl) (fun _ _ _ h=>h) (Or.inl ⟨by rfl,?y7⟩) cn ?r7
   case y7=>(intro w gf;(try dsimp only at gf);go_simp;try with_reducible rfl)
   try simp only[Act.put,aCW,aCR,aCS]
   refine wpAnyH_ready (rs:=[8]) (by kernel_rfl) (by simp) ?_;refine AllReadyH.cons (o:=_) rfl (fun K hK=>?_) AllReadyH.nil
   go_simp
   go_at_call 90
   refine(HO.out _ (KL.drew)).mono ?_;rintro en w3 ⟨rfl,tu⟩
   go_wp2_with fail
   refine hK.out _ _ ?_ (fun cn=>?_)
   ·exact⟨fun j v hv=>(tu.cell (p:=⟨wr.heap.size,0+j,none⟩) (by simp)).trans (hrb j v hv),(tu.cell (p:=⟨G,o,none⟩) (by have:=HMd.out.g.lt;simp;omega)).trans e0b⟩
   clear hK K
   try simp only[Act.put,aCW,aCR,aCS]
   refine wpAnyH_take (i:=9) (oi:=_) (v:=?v9) rfl (by kernel_rfl) (by kernel_rfl) (by kernel_rfl) (fun _ _ _ h=>h) (Or.inl ⟨by rfl,?y9⟩) cn ?r9
   case y9=>(intro w gf;(try dsimp only at gf);go_simp;try with_reducible rfl)
   try simp only[Act.put,aCW,aCR,aCS]
   refine wpAnyH_take (i:=10) (oi:=_) (v:=?v10) rfl (by kernel_rfl) (by kernel_rfl) (by kernel_rfl) (fun _ _ _ h=>h) (Or.inl ⟨by rfl,?y10⟩) cn ?r10
   case y10=>(intro w gf;(try dsimp only at gf);go_simp;try with_reducible rfl)
   try simp only[Act.put,aCW,aCR,aCS]
   refine wpAnyH_take (i:=11) (oi:=_) (v:=?v11) rfl (by kernel_rfl) (by kernel_rfl) (by kernel_rfl) (fun _ _ _ h=>h) (Or.inl ⟨by rfl,?y11⟩) cn ?r11
   case y11=>(intro w gf;(try dsimp only at gf);go_simp;try with_reducible rfl)
   try simp only[Act.put,aCW,aCR,aCS]
   refine wpAnyH_take (i:=12) (oi:=_) (v:=?v12) rfl (by kernel_rfl) (by kernel_rfl) (by kernel_rfl) (fun _ _ _ h=>h) (Or.inl ⟨by rfl,?y12⟩) cn ?r12
   case y12=>(intro w gf;(try dsimp only at gf);go_simp;try with_reducible rfl)
   try simp only[Act.put,aCW,aCR,aCS]
   refine wpAnyH_take (i:=13) (oi:=_) (v:=?v13) rfl (by kernel_rfl) (by kernel_rfl) (by kernel_rfl) (fun _ _ _ h=>h) (Or.inl ⟨by rfl,?y13⟩) cn ?r13
   case y13=>(intro w gf;(try dsimp only at gf);go_simp;try with_reducible rfl)
   try simp only[Act.put,aCW,aCR,aCS]
   refine wpAnyH_done (by kernel_rfl) ?_ _;cases kn with
   | true=>
    have hB4:Below wr.heap.size wr w3:=(KL.drew).trans (tu.mono (show wr.heap.size≤(wr.alloc (.cells us.toArray 56)).heap.size by simp));have hM3:=HMd.out.low hB4;have HRl:=Hw.bT (Za.rel hM3.hA hM3.sl Hl.out.2.2 r.2.1);have cr:w3.cell? ⟨wr.heap.size,1,none⟩=some (.int .i64 r.2.1):=cn.1 1 _ (by rw[Hus.out.1];rfl);have NM:HB (wr.alloc (.cells us.toArray 56)).drew wr.heap.size 56 us.toArray:=oE;have aa8:=NM.below tu NM.lt;clear NM oE;have HH:=Hw.bT cn;clear cn KL hrb e0b hM3
    go_wp2_with (go_at_call 91;refine HRl.out.mono ?_;rintro en w4 ⟨vs4,rfl,hc4,ki⟩)
    have atC:Below wr.heap.size wr w4:=hB4.trans (ki.mono hB4.size);have hM4:Za.yc w w4 G o ct (gH (lc,r.2.1)) left an vs4 u8 va:={HMd.out.low atC with sl:=hc4 };have cr4:w4.cell? ⟨wr.heap.size,1,none⟩=some (.int .i64 r.2.1):=(ki.cell (p:=⟨wr.heap.size,1,none⟩) aa8.lt).trans cr;have ca4:w4.cell? ⟨G,o+3,none⟩=some va:=by
     rw[hM4.g.cell,aDc,aCr rfl,aCr (by obtain⟨_,_,_,h3⟩:=Hin.out;exact(aDJ.1 h3).1)]
    obtain⟨aa,anl,ac,rfl⟩:∃a n c,va=.slice a n c:=by obtain⟨a,c,e⟩:=hM4.an.form;exact⟨a,_,c,e⟩
    have HG:=Hw.bT (show ∀W bx,Below w4.heap.size w4 W→HB W bx 100 #[.int .i64 r.2.1,.int .i64 ev]→∃v' w',(Builtin.append_ #[34,34] 34 #[.slice aa anl ac,.slice (some ⟨bx,0,none⟩) 1 1]).run Tryz.prog W=.ok v' w'∧
      (w'.frozen? ⟨G,o+3,none⟩=false∧w'.cell? ⟨G,o+3,none⟩=some (.slice aa anl ac)∧(∃a n c,v'=.slice a n c)∧Za.At w (w'.setCell ⟨G,o+3,none⟩ v') G o ct (fun x=>decide (x∈ids)) d m l iN (k+1) u8 vs4)from fun W bx hW hb=>by
     obtain⟨g,cap,w5,g1,g2,g3⟩:=(hM4.low hW).aw6 (r.2.1,ev) hb (by have:=Hl.out.2.1;omega);refine⟨_,w5,g1,g2.frozen _,?_,⟨_,_,_,rfl⟩,_,_,_,_,g3,?_,by have:=Hl.out.1;omega,by have:=Hl.out.2.1;simp;omega,Fh _ Hl.out.2.2,fun z hz=>?_⟩
     ·rw[g2.cell,aDc,aCr rfl,aCr (by obtain⟨_,_,_,h3⟩:=Hin.out;exact(aDJ.1 h3).1)]
     ·rw[aui.out,aDW cg,show iN[k]=r by have:=Hr.out;rw[aCF cg]at this;exact aDb this]
      simp only[sO,Hkn.out,aCn];rfl
     ·rcases aC3.1 hz with hz | hz
      ·exact Hsm.out z hz
      ·rw[aDi.1 hz]
       have:=Ia r (aCC Hr.out);exact EZ.2 this)
    have hcb:∀ob:Obj,(w4.alloc ob).cell? ⟨wr.heap.size,1,none⟩=some (.int .i64 r.2.1):=fun ob=>(((Below.refl w4.heap.size w4).alloc (aCt _) ob).cell (p:=⟨wr.heap.size,1,none⟩) (aCP aa8.lt ki.size)).trans cr4
    have hca:∀ob:Obj,(w4.alloc ob).cell? ⟨G,o+3,none⟩=some (.slice aa anl ac):=fun ob=>(((Below.refl w4.heap.size w4).alloc (aCt _) ob).cell (p:=⟨G,o+3,none⟩) hM4.g.lt).trans ca4
    clear hM4 hc4 HRl aa8 hB4 ki atC HH cr
    go_region_law ((refine Za.Qo (by rfl) (.tmp 54) (.tmp 60) 34 (by rfl) (by rfl) (by rfl) (by rfl) (HG.out _ _ (by first | exact(((Below.refl _ _).alloc (aCt _) _).drew) | exact(((Below.refl _ _).drew).alloc (aCt _) _)) (by exact HB.new _ _ _)) ?_;rintro v5 w5 ⟨hf5,hc5,⟨a5,n5,c5,rfl⟩,abb⟩))
    all_goals go_wp2
    all_goals exact⟨⟨k+1,by omega,by congr 1,abb⟩,by simp[intOf];omega⟩
   | false=>
    have hB4:Below wr.heap.size wr w3:=(KL.drew).trans (tu.mono (show wr.heap.size≤(wr.alloc (.cells us.toArray 56)).heap.size by simp));have hM3:=HMd.out.low hB4;have NM:HB (wr.alloc (.cells us.toArray 56)).drew wr.heap.size 56 us.toArray:=oE;have aa8:=NM.below tu NM.lt;obtain⟨i0,z,g1,g2,g3,g4,g5⟩:=Ko aat;have HG:=Hw.bT (show ∃v' w',(Builtin.append_ #[32,32] 32 #[u8,.slice (some ⟨w3.heap.size,0,none⟩) 1 1]).run Tryz.prog (w3.alloc (.cells us.toArray 56))=.ok v' w'∧
      Za.At w w' G o ct (fun x=>decide (x∈ids)) d m l iN (k+1) v' u9 from by
     have atu:Below w3.heap.size w3 (w3.alloc (.cells us.toArray 56)):=(Below.refl _ _).alloc (aCt _) _;have hM4:=hM3.low atu;have hq4:=(Hus.out.2.1.low hB4).low atu;have hb4:=HB.new w3 56 us.toArray;rw[Hus.out.1]at hb4;obtain⟨g,cap,w5,e1,e2,_⟩:=hM4.push (r:=r) hq4 (by rw[Hus.out.1];exact hb4) (by have:=Hl.out.1;omega);refine⟨_,w5,e1,_,_,_,_,e2,?_,by have:=Hl.out.1;simp;omega,by have:=Hl.out.2.1;omega,Hl.out.2.2,Hsm.out⟩;rw[aui.out,aDW cg,show iN[k]=r by have:=Hr.out;rw[aCF cg]at this;exact aDb this];simp only[sO,Hkn.out,aCq])
    have hr3:w3.rangeAt wr.heap.size 0 us:=cn.1;have ax4:List.foldl (fun(cs:Array Value) x=>cs.setIfInBounds x.2 x.1) #[.int .i64 0,.int .i64 0,.int .i64 0,.int .i64 0,.int .i64 0,.int .i64 0,.int .i64 0,.int .i64 0,.int .i64 0,.int .i64 0,.int .i64 0,.int .i64 0,.int .i64 0,.int .i64 0,.int .i64 0,.int .i64 0,.int .i64 0,.int .i64 0,.int .i64 0,.int .i64 0,.slice none 0 0,.int .i64 0,.int .i64 0,.int .i64 0,.int .i64 0,.int .i64 0,.int .i64 0,.bool false] us.zipIdx=us.toArray:=by
     have:=DS us 0 #[.int .i64 0,.int .i64 0,.int .i64 0,.int .i64 0,.int .i64 0,.int .i64 0,.int .i64 0,.int .i64 0,.int .i64 0,.int .i64 0,.int .i64 0,.int .i64 0,.int .i64 0,.int .i64 0,.int .i64 0,.int .i64 0,.int .i64 0,.int .i64 0,.int .i64 0,.int .i64 0,.slice none 0 0,.int .i64 0,.int .i64 0,.int .i64 0,.int .i64 0,.int .i64 0,.int .i64 0,.bool false] (by rw[uT];rfl)
     rwa [aDE,aC1]at this
    clear hM3 NM aa8 cn hrb e0b oE aaD g1 g2 g3 g4 g5 as4
    go_wp2_with (first
     | (refine wN rfl 56 (.tmp 11) rfl rfl hr3 Tryz.underlying56 rfl iz uT ?_)
     | (at_builtin;refine Za.akl rfl (.tmp 41) (.tmp 43) 32 rfl rfl rfl rfl HG.out ?_;rintro v5 w5 abb))
    exact⟨⟨k+1,by omega,by congr 1,abb⟩,by simp[intOf];omega⟩
  ·obtain rfl:k=iN.length:=by omega
   have xi:¬ (iN.length:Int)<(iN.length:Int):=by omega
   obtain⟨lc,left,an,va,rU,KK,Ky,lG,aX,hsm⟩:=hAt;obtain⟨hG,h0,h1,h3⟩:=Hin.out;rw[aEX (aCt _)]at KK;have KK:sO (fun x=>decide (x∈ids)) d m l iN l [] []=(lc,left,an):=KK;have asY:=(aDJ.1 h3).1;have fr0:=rU.g.frozen o;have fr1:=rU.g.frozen (o+1);have k0:wr.cell? ⟨G,o,none⟩=some (.slice sa sn sc):=by rw[rU.g.cell,aDc,aCo (by omega)];exact h0
   have k1:wr.cell? ⟨G,o+1,none⟩=some (.slice pa (iN.length:Nat) pc):=by rw[rU.g.cell,aDc,aCo (by omega)];exact h1
   have k3:wr.cell? ⟨G,o+3,none⟩=some va:=by rw[rU.g.cell,aDc,aCr rfl,aCr asY]
   obtain⟨Vm,Vk,Vl,rfl⟩:∃a n c,u8=.slice a n c:=by obtain⟨a,c,e⟩:=rU.lf.form;exact⟨a,_,c,e⟩
   obtain⟨c9a,c9n,c9c,rfl⟩:=rU.sl.form;have HF:=Hw.bT (show Calls Tryz.prog 92 #[va,.func (.func 93) #[] #[]] ((wr.setCell ⟨G,o,none⟩ (.slice c9a c9n c9c)).setCell ⟨G,o+1,none⟩ (.slice Vm Vk Vl)) (Za.fv w G o ct (lc,left,an))from by
    have Ic:Ev wr ((wr.setCell ⟨G,o,none⟩ (.slice c9a c9n c9c)).setCell ⟨G,o+1,none⟩ (.slice Vm Vk Vl)) (fun b=>b=G):=Ev.st (X:=fun b=>b=G) (Ev.st (X:=fun b=>b=G) (Ev.rf wr _) G o _ (.inl rfl)) G (o+1) _ (.inl rfl);have hX:∀b,b<wr.heap.size→b=G→Za.A G (.slice Vm Vk Vl) va b:=fun b _ h=>.inl (.inr h)
    have hgG:∀g,va.ownBlock=some g→¬ g=G:=fun g hg e=>by have:=(rU.an.lt hg).1;have:=rU.g0;omega
    have hlG:∀g,(Value.slice Vm Vk Vl).ownBlock=some g→¬ g=G:=fun g hg e=>by have:=(rU.lf.lt hg).1;have:=rU.g0;omega
    have hgA:∀g,va.ownBlock=some g→¬ eu G g:=fun g hg e=>by have:=(rU.an.lt hg).1;have:=rU.g0;have:=e.le;omega
    have hlA:∀g,(Value.slice Vm Vk Vl).ownBlock=some g→¬ eu G g:=fun g hg e=>by have:=(rU.lf.lt hg).1;have:=rU.g0;have:=e.le;omega
    have hA2:∀b,Za.A G (.slice Vm Vk Vl) va b→b<((wr.setCell ⟨G,o,none⟩ (.slice c9a c9n c9c)).setCell ⟨G,o+1,none⟩ (.slice Vm Vk Vl)).heap.size:=fun b hb=>by
     have:=rU.hA b hb;simpa [World.setCell]using this
    have awT:=rU.an.ev Ic hX (fun b _ h=>by first | exact h | exact .inr h | exact .inl (.inr h)) hgG;have awq:=rU.lf.ev Ic hX (fun b _ h=>by first | exact h | exact .inr h | exact .inl (.inr h)) hlG;have avV:=rU.sl.ev Ic hX (fun b _ h=>by first | exact h | exact .inr h | exact .inl (.inr h));have hG2:=(rU.g.set o (.slice c9a c9n c9c)).set (o+1) (.slice Vm Vk Vl);refine(Za.sort hA2 awT (fun g hg=>.inr (.inr hg)) (by omega) hsm).mono fun en w' hh=>?_
    obtain⟨A',rfl,ho,sY,bL⟩:=hh;have hX3:∀b,b<((wr.setCell ⟨G,o,none⟩ (.slice c9a c9n c9c)).setCell ⟨G,o+1,none⟩ (.slice Vm Vk Vl)).heap.size→va.ownBlock=some b→Za.A G (.slice Vm Vk Vl) va b:=fun b _ h=>.inr (.inr h)
    have hGA:∀b,b<((wr.setCell ⟨G,o,none⟩ (.slice c9a c9n c9c)).setCell ⟨G,o+1,none⟩ (.slice Vm Vk Vl)).heap.size→eu G b→Za.A G (.slice Vm Vk Vl) va b:=fun b _ h=>.inl h
    refine⟨rfl,_,_,_,?_,hG2.ev bL (fun h=>hgG G h rfl),avV.ev bL hX3 hGA,?_,?_⟩
    ·have dC:((wr.setCell ⟨G,o,none⟩ (.slice c9a c9n c9c)).setCell ⟨G,o+1,none⟩ (.slice Vm Vk Vl)).heap.size=wr.heap.size:=by simp[World.setCell]
     have hs0:=rU.ev.size;exact⟨bL.os.trans (Ic.os.trans rU.ev.os),bL.tape.trans (Ic.tape.trans rU.ev.tape),bL.output.trans (Ic.output.trans rU.ev.output),by have:=bL.size;omega,fun b hb hn=>(bL.block b (by omega) (fun h=>by have:=(rU.an.lt h).1;omega)).trans ((Ic.block b (by omega) hn).trans (rU.ev.block b hb hn))⟩
    ·exact(awq.ev bL hX3 hGA (fun g hg h=>rU.ne g hg h)).cl rfl hlA
    ·exact(ho.ev (Ev.rf w' (fun _=>False)) (fun _ _ h=>h.elim) (fun b _ hb=>sY b (.inl hb)) (fun b _ h=>by first | exact h | exact .inr h | exact .inl (.inr h))).cl rfl hgA)
   have HP:=Hw.bT KK;clear KK rU Ky lG aX hsm hG h0 h1 h3 asY
   go_wp2_with (go_at_call 92;refine HF.out.mono ?_;rintro en w5 hP;obtain⟨rfl,hP2⟩:=(show _∧_ from hP))
   exact⟨rfl,_,Za.res,by rw[HP.out];exact hP⟩
end Go.AL
namespace Go.AL
open Go.Proofs Go.RowKit
theorem xn:∀(q:List al) (a x y:al),vo a (q++[x]++[y])=bif decide (y=x)then vo a (q++[x])else vo a (q++[x])++[y]
 | [],a,x,y=>by
  simp only[aC1,aD8,vo];by_cases h:x=a
  ·subst h
   simp only[aEE,aCn];cases decide (y=x)<;>rfl
  ·simp only[aCz h,aCq]
   cases decide (y=x)<;>rfl
 | b::q,a,x,y=>by
  have h1:=xn q a x y;have h2:=xn q b x y;simp only[aDC,vo,h1,h2];cases decide (b=a)<;>cases decide (y=x)<;>rfl
theorem U7:∀(q:List al) (x y:al),om (q++[x]++[y])=bif decide (y=x)then om (q++[x])else om (q++[x])++[y]
 | [],x,y=>by
  simp only[aC1,aD8,om,vo];cases decide (y=x)<;>rfl
 | b::q,x,y=>by
  have h2:=xn q b x y;simp only[aDC,om,h2];cases decide (y=x)<;>rfl
theorem rX{l:List al}{p:Nat}{x y:al}(h0:0<p)(hx:l[p-1]? = some x)(hy:l[p]? = some y):om (l.take (p+1))=bif decide (y=x)then om (l.take p)else om (l.take p)++[y]:=by
 have e1:l.take (p+1)=l.take p++[y]:=by rw[aDn,hy];rfl
 have e2:l.take p=l.take (p-1)++[x]:=by
  have:p=p-1+1:=by omega
  rw[this,aDn,Nat.add_sub_cancel,hx];rfl
 rw[e1,e2];exact U7 _ x y
theorem Zc.guard(op:BinOp)(X Y:Operand)(x y:al)(h:op=.eql∨op=.neq)(w:World):(eqGuard op 48 X Y (Yh.v x) (Yh.v y)).run Tryz.prog w=.ok () w:=by
 rcases h with rfl | rfl
 ·exact Zc.uA (by kernel_rfl) w
 ·exact Zc.uA (by kernel_rfl) w
theorem Zc.eql(X Y:Operand)(x y:al)(w:World):(do eqGuard .eql 48 X Y (Yh.v x) (Yh.v y);binOp .eql 48 (Yh.v x) (Yh.v y):Sem Value).run Tryz.prog w=.ok (.bool (decide (x=y))) w:=by
 have e:binOp .eql 48 (Yh.v x) (Yh.v y)=(do pure (.bool (← Op.equal 48 (Yh.v x) (Yh.v y)))):=rfl;simp only[Sem.run_bind,Zc.guard .eql X Y x y (.inl rfl),Result.andThen_ok,e,Yh.eq,Sem.run_pure]
theorem Zc.neq(X Y:Operand)(x y:al)(w:World):(do eqGuard .neq 48 X Y (Yh.v x) (Yh.v y);binOp .neq 48 (Yh.v x) (Yh.v y):Sem Value).run Tryz.prog w=.ok (.bool (!decide (x=y))) w:=by
 have e:binOp .neq 48 (Yh.v x) (Yh.v y)=(do pure (.bool (!(← Op.equal 48 (Yh.v x) (Yh.v y))))):=rfl;simp only[Sem.run_bind,Zc.guard .neq X Y x y (.inr rfl),Result.andThen_ok,e,Yh.eq,Sem.run_pure]
theorem Zc.exe{o:Oper}{a:Act}{op:BinOp}{X Y:Operand}{t:TypeId}(ho:o.op=.binOp op 48 X Y t){x y:al}(hx:a.eval X=Yh.v x)(hy:a.eval Y=Yh.v y){r:Bool}(Ia:op=.eql∧r=decide (x=y)∨op=.neq∧r = !decide (x=y))(w:World):(execOp a.eval o).run Tryz.prog w=.ok (.value (.bool r)) w:=by
 have h:(do eqGuard op 48 X Y (Yh.v x) (Yh.v y);binOp op 48 (Yh.v x) (Yh.v y):Sem Value).run Tryz.prog w=.ok (.bool r) w:=by
  rcases Ia with⟨rfl,rfl⟩ | ⟨rfl,rfl⟩
  ·exact Zc.eql X Y x y w
  ·exact Zc.neq X Y x y w
 simp only[execOp,ho,hx,hy];rw[Sem.run_bind,h];rfl
theorem bk.arU{w:World}{n0 b cap:Nat}{R:List al}{N:Nat}(hN:N=R.length)(h:bk w gp n0 48 3 aH R (.slice (some ⟨b,0,none⟩) (N:Nat) cap)){k:Nat}(hk:k<N)(x:al):
  bk (((w.setCell ⟨b,k*3,none⟩ (.int .i64 x.1)).setCell ⟨b,k*3+1,none⟩ (.int .i64 x.2.1)).setCell ⟨b,k*3+2,none⟩ (.int .i64 x.2.2)) gp n0 48 3 aH (R.set k x) (.slice (some ⟨b,0,none⟩) (N:Nat) cap):=by
 subst hN;rcases h with⟨h,_⟩ | ⟨g,ap0,cur,he,h1,h2,h3,h4,h5,h6⟩
 ·cases h
 ·obtain⟨e1,e2,rfl⟩:=Value.slice.inj he
  cases e1
  have hls:(R.set k x).length=R.length:=aCx;refine .inr ⟨b,cap,_,aCL (fun n:Nat=>Value.slice (some ⟨b,0,none⟩) n cap) hls.symm,h1,((h2.set (k*3) _).set (k*3+1) _).set (k*3+2) _,by simpa using h3,(show(R.set k x).length≤cap by rw[hls];exact h4),h5,fun i y hy=>?_⟩;have hy:(R.set k x)[i]? = some y:=hy;have dC:(k+1)*3≤cur.size:=by rw[h3];exact aDa _ (aCO hk h4)
  by_cases hi:i=k
  ·subst hi
   rw[aD4 hk]at hy;cases hy;refine⟨yM x,j5,rfl,fun j v hv=>?_⟩
   match j,hv with
   | 0,hv=>simp at hv;subst hv;simp only[aDc,aEJ];rw[aCo (by omega),aCo (by omega),aCr (by omega),aCr (by omega)]
   | 1,hv=>simp at hv;subst hv;simp only[aDc,aEJ];rw[aCo (by omega),aCr trivial,aCr (by omega)]
   | 2,hv=>simp at hv;subst hv;simp only[aDc,aEJ];rw[aCr trivial,aCr (by omega)]
   | j+3,hv=>simp at hv
  ·rw[aEu (fun e=>hi e.symm)]at hy
   obtain⟨us,u1,u2,u3⟩:=h6 i y hy;have ja:=rK u1;refine⟨us,by rw[ja];exact j5,u2,fun j v hv=>?_⟩;have hj:j<3:=by rw[← u2];exact(aCD.1 hv).1
   have cg:=(aDJ.1 (u3 j v hv)).1;simp only[aDc,aEJ];rw[aCo (by omega),aCo (by omega),aCo (by omega)];exact u3 j v hv
theorem bk.aaw{w:World}{n0 b cap N:Nat}{R:List al}(h:bk w gp n0 48 3 aH R (.slice (some ⟨b,0,none⟩) (N:Nat) cap)){k:Nat}{x:al}(hx:R[k]? = some x):
  w.cell? ⟨b,k*3,none⟩=some (.int .i64 x.1)∧w.cell? ⟨b,k*3+1,none⟩=some (.int .i64 x.2.1)∧w.cell? ⟨b,k*3+2,none⟩=some (.int .i64 x.2.2)∧w.frozen? ⟨b,k*3,none⟩=false∧w.frozen? ⟨b,k*3+1,none⟩=false∧w.frozen? ⟨b,k*3+2,none⟩=false:=by
 rcases h with⟨h,_⟩ | ⟨g,ap0,cur,he,h1,h2,h3,h4,h5,h6⟩
 ·cases h
 ·obtain⟨e1,e2,rfl⟩:=Value.slice.inj he
  cases e1
  obtain⟨us,u1,u2,u3⟩:=h6 k x hx;have ja:=rK u1;subst ja;exact⟨(h2.cell _).trans (u3 0 _ rfl),(h2.cell _).trans (u3 1 _ rfl),(h2.cell _).trans (u3 2 _ rfl),h2.frozen _,h2.frozen _,h2.frozen _⟩
theorem ave{w:World}:(zeroValue 48).run Tryz.prog w=.ok (.agg #[.int .i64 0,.int .i64 0,.int .i64 0]) w:=by kernel_rfl
theorem bk.clr{w:World}{n0 b cap N:Nat}{R:List al}(hN:N=R.length)(h:bk w gp n0 48 3 aH R (.slice (some ⟨b,0,none⟩) (N:Nat) cap)){k m c:Nat}(hm:0<m)(hk:k+m=N)(ty:TypeId):
  ∃w',(Builtin.clear_ #[36] ty #[.slice (some ⟨b,k*3,none⟩) m c]).run Tryz.prog w=.ok (.tuple #[]) w'∧bk w' gp n0 48 3 aH (R.take k) (.slice (some ⟨b,0,none⟩) (k:Nat) cap)∧Ev w w' (fun q=>q=b):=by
 subst hN;rcases h with⟨h,_⟩ | ⟨g,ap0,cur,he,h1,h2,h3,h4,h5,h6⟩
 ·cases h
 ·obtain⟨e1,e2,rfl⟩:=Value.slice.inj he
  cases e1
  have wK:k≤R.length:=by omega
  have dC:R.length*3≤cur.size:=by rw[h3];exact aDa _ h4
  have hkm:(k+m)*3≤cur.size:=by rw[hk];exact dC
  have hz:(Builtin.zeroCells #[Value.int .i64 0,.int .i64 0,.int .i64 0] m).toList.length=m*3:=by rw[aDM,size_zeroCells];rfl
  have h1':∀v∈(Builtin.zeroCells #[Value.int .i64 0,.int .i64 0,.int .i64 0] m).toList,v.oneCell'=true:=by
   intro v UE;simp only[Builtin.zeroCells,Array.mem_toList_iff,Array.mem_map]at UE;obtain⟨j,hj,rfl⟩:=UE;have hj3:j % 3<3:=Nat.mod_lt _ (by omega);show(#[Value.int .i64 0,.int .i64 0,.int .i64 0][j % 3]!).oneCell'=true
   match j % 3,hj3 with
   | 0,_=>rfl
   | 1,_=>rfl
   | 2,_=>rfl
  have wJ:=run_storeCells_at (P:=Tryz.prog) b (k*3) 48 (Builtin.zeroCells #[Value.int .i64 0,.int .i64 0,.int .i64 0] m).toList 0 cur w h2 (by rw[hz];omega) h1';simp only[aEs]at wJ;have hu:=Tryz.underlying36;have cg:(R.take k).length=k:=by rw[aCV];omega
  have hkc:k≤cap:=aCO wK h4;refine⟨w.setRow b (cur.toList.take (k*3)++(Builtin.zeroCells #[Value.int .i64 0,.int .i64 0,.int .i64 0] m).toList++cur.toList.drop (k*3+(Builtin.zeroCells #[Value.int .i64 0,.int .i64 0,.int .i64 0] m).toList.length)).toArray,?_,.inr ⟨b,cap,_,aCL (fun n:Nat=>Value.slice (some ⟨b,0,none⟩) n cap) cg.symm,h1,setRow_heap w b cur _ _ (0,0) h2,?_,(show(R.take k).length≤cap by rw[cg];exact hkc),h5,fun i y hy=>?_⟩,⟨rfl,rfl,rfl,by simp[World.setRow],fun q _ hq=>setRow_other w b q _ hq⟩⟩
  ·obtain⟨m,rfl⟩:∃m',m=m'+1:=⟨m-1,by omega⟩
   simp[Builtin.clear_,run_underlying hu,ave,Value.cells,wJ]
  ·simp only[aDY,aCp,aCV,aC2,aDM,hz]
   omega
  ·have hy:(R.take k)[i]? = some y:=hy
   have hi:i<k:=by
    have:=(aCD.1 hy).1;rw[aCV]at this;omega
   rw[aDs,aCr hi]at hy;obtain⟨us,u1,u2,u3⟩:=h6 i y hy;have ja:=rK u1;refine⟨us,by rw[ja];exact j5,u2,fun j v hv=>?_⟩;have hj:j<3:=by rw[← u2];exact(aCD.1 hv).1
   have h7:=u3 j v hv;rw[aD9,aDg,aC6 (by rw[aCV,aDM];have:=(aDJ.1 h7).1;omega),aDs,aCr (by omega)];simpa using h7
