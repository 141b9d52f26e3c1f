/- AI. -/
import Derived.Test.YtfggefeflojnkaaGreatZg
import Derived.Deep.RegionWith
import Derived.Deep.RegionLaw
set_option linter.unusedSimpArgs false
namespace Go.AL
open Go.Proofs Go.RowKit
attribute [local go_sem] Oper.semAt_some
theorem Za.rel{W:World}{A:Nat→Prop}(hA:∀b,A b→b<W.heap.size){l:List aL}{u:Value}(h:Cl W A (.sl bg) l u)(hl:ct l=true)(op:Int):Calls Tryz.prog 91 #[u,.int .i64 op] W fun en w'=>∃u',en=.returned u'∧Cl w' A (.sl bg) (ny (l,op)) u'∧Below W.heap.size W w':=by
 refine(Hw.call adj ((l,op):List aL×Int) hl hA (us:=#[u,.int .i64 op]) (yE.two (Ag.rdc h) Ag.int)).mono fun en w' hh=>?_
 obtain⟨us,A',rfl,hr,nW,hA',hB⟩:=hh;obtain⟨u',rfl,ho,hg⟩:=(show ∃u',us=[u']∧aR w' A' W.heap.size 64 15 bg (ny (l,op)) u'∧∀g,u'.ownBlock=some g→A' g from hr);exact⟨u',rfl,(ho.ev (Ev.rf w' (fun _=>False)) (fun _ _ h=>h.elim) (fun b _ hb=>nW b hb) (fun _ _ h=>h)).cl rfl (fun g hg hb=>by have:=(ho.lt hg).1;have:=hA g hb;omega),hB⟩
theorem Za.Pn{P:Program}{ops:Array Oper}{o:Oper}{a:Act}{w:World}{K:Act→World→Prop}{Q:Exit→Act→World→Prop}{E:Prop}
  (hg:o.guard=none) (d x:Operand) (t:TypeId) (s6:o.op=Op.call {callee:=Callee.builtin Builtin.append,args:=#[d,x],argTypes:=#[t,t] }) (qZ:o.type=t)
  {v u:Value} (hd:a.eval d=v) (hx:a.eval x=u) {R:Value→World→Prop} (hr:∃v' w',(Builtin.append_ #[t,t] t #[v,u]).run P w=.ok v' w'∧R v' w') (hK:∀v' w',R v' w'→K (a.put o.dst v') w') :
  if Region.wanted o (yielded ops a.tmps)=true then Oper.wp P o a w K Q else E:=by
 have hw:Region.wanted o (yielded ops a.tmps)=true:=by simp[Region.wanted,hg]
 rw[azE hw];obtain⟨v',w',h1,h2⟩:=hr;unfold Oper.wp;simp[execOp,s6,qZ,resolve,invoke,builtin,hd,hx,h1,Result.andThen];exact hK _ _ h2
theorem Za.Wl{P:Program}{w:World}{ops:Array Oper}{rest:List Oper}{o:Oper}{a:Act}{Q:Exit→Act→World→Prop}(Km:o.guard=none)(s x:Operand)(t:TypeId)
  (ho:o.op=.call {callee:=.builtin .append,args:=#[s,x],argTypes:=#[t,t] }) (qZ:o.type=t) {v y:Value} (hs:a.eval s=v) (hx:a.eval x=y) {R:Value→World→Prop}
  (hr:∃v' w',(Builtin.append_ #[t,t] t #[v,y]).run P w=.ok v' w'∧R v' w') (h:∀v' w',R v' w'→wpList P ops Q rest (a.put o.dst v') w'):wpList P ops Q (o::rest) a w:=by
 refine wpList_plain Km fun _ hK=>?_
 obtain⟨v',w',h1,h2⟩:=hr;unfold Oper.wp execOp;simp only[ho,qZ,resolve,invoke,builtin,Sem.run_bind,Sem.run_pure,Result.andThen_ok,List.map_toArray,aAy,aBq,hs,hx,h1];exact hK _ _ (h v' w' h2)
theorem Za.sort{W:World}{A:Nat→Prop}{n0:Nat}(hA:∀b,A b→b<W.heap.size){l:List dv}{u:Value}(h:aR W A n0 100 2 dH l u)(hg:∀g,u.ownBlock=some g→A g)(h20:l.length<20)(hs:∀z∈l,W8 z=true):
  Calls Tryz.prog 92 #[u,.func (.func 93) #[] #[]] W fun en w'=>∃A',en=.returned (.tuple #[])∧aR w' A' n0 100 2 dH (ca uB l) u∧(∀b,A b→A' b)∧Ev W w' (fun b=>u.ownBlock=some b):=by
 have hp:Jr (l,())=true:=by
  simp only[Jr,azF,azM,azU];exact⟨h20,hs⟩
 refine(Hw.nt Vs rfl rfl rfl (l:List dv) () hp hA h hg (us:=[.func (.func 93) #[] #[]]) ⟨[.fn 93 []],⟨_,rfl,[],rfl,rfl⟩,fun H β=>⟨⟨#[],rfl,rfl,fun i x h=>by simp at h⟩,trivial⟩⟩).mono fun en w' hh=>?_
 obtain⟨AM,A',β',rfl,⟨rds,hr,hlen,_⟩,ho,nW,_,bm⟩:=hh;have hr:rds=[]:=hr;subst hr;obtain rfl:=aBs.1 hlen;exact⟨A',rfl,ho,nW,bm⟩
theorem Za.res{W:World}{tmps:Array Value}:(results Tryz.f57 tmps).run Tryz.prog W=.ok (.tuple #[]) W:=by
 simp[results,Tryz.f57,go_sem]
variable [ZA]
def Za.ee(w:World)(G o:Nat)(cb:Array Value)(x:List aL×List bR×List dv)(en:Ending)(w':World):Prop:=en=.returned (.tuple #[])∧∃vs vl va,Ev w w' (fun b=>b=G)∧HB w' G 38 (((cb.setIfInBounds (o+3) va).setIfInBounds o vs).setIfInBounds (o+1) vl)∧
 Cl w' (ef G) (.sl bg) x.1 vs∧Cl w' (ef G) (.sl bV) x.2.1 vl∧Cl w' (ef G) (.sl dH) (ca uB x.2.2) va
def Za.At(w wr:World)(G o:Nat)(cb:Array Value)(h:aj→Bool)(d:List aj)(m:List Int)(l0:List aL)(iV:List bR)(k:Nat)(vl vs:Value):Prop:=∃l left an va,Za.ye w wr G o cb l left an vs vl va∧
 sf h d m l0 iV l0 [] []=sf h d m l0 (iV.drop k) l left an∧left.length≤k∧an.length≤k∧ct l=true∧∀z∈an,W8 z=true
set_option maxRecDepth 100000 in
set_option maxHeartbeats 4000000 in
theorem Za.calls(w:World)(G o:Nat)(cb:Array Value)(hG:HB w G 38 cb)(l:List aL)(qR:Value)(h0:cb[o]? = some qR)(c0:Cl w (ef G) (.sl bg) l qR)(iV:List bR)(vp:Value)(h1:cb[o+1]? = some vp)(c1:Cl w (ef G) (.sl bV) iV vp)
  (h3:cb[o+3]? = some (.slice none 0 0)) (d:List aj) (ud:Value) (hd:Cl w (ef G) (.sl aE) d ud) (hdl:d.length≤1000000) (m:List Int) (um:Value) (hm:Cl w (ef G) (.sl [zI]) m um) (Qi:m.length≤1000000) (rm:Nat) (ids:List aj) (hM:Yh.M w rm ids)
  (hl:ct l=true) (Qf:iV.length≤19) (s6:∀r∈iV,0≤r.2.1∧r.2.1≤4611686018427387904) :
  Calls Tryz.prog 57 #[.pointer (some ⟨G,o,none⟩),ud,.map (some rm),um] w (Za.ee w G o cb (sf (fun x=>decide (x∈ids)) d m l iV l [] [])):=by
 have agk:=Tryz.underlying32;have alJ:=Tryz.underlying38;have apB:=Tryz.underlying100;have apA:=Tryz.underlying48;have apz:=Tryz.underlying34;obtain⟨pa,pc,rfl⟩:=(show ∃a c,vp=.slice a (iV.length:Nat) c from(cH.1 c1).form);obtain⟨sa,sn,sc,rfl⟩:=c0.form;have e0:=hG.cell o;rw[h0]at e0;have e1:=hG.cell (o+1);rw[h1]at e1;have hM0:Za.ye w w G o cb l [] [] (.slice sa sn sc) (.slice none 0 0) (.slice none 0 0):=by
  have hc:cb.setIfInBounds (o+3) (.slice none 0 0)=cb:=by
   apply aB2;intro i;rw[aAj];by_cases hi:o+3=i
   ·subst hi;rw[azE rfl,h3,azE (aAP.1 h3).1]
   ·rw[azD hi]
  refine⟨Ev.rf _ _,hG.lt,by rw[hc];exact hG,c0.fr (cz.refl _ _) (azJ _) (fun b _ h=>?_),.inl ⟨rfl,rfl⟩,.inl ⟨rfl,rfl⟩,fun g h=>by cases h⟩;rcases h with h | h | h
  ·exact h
  ·cases h
  ·cases h
 have hA0:Za.At w w G o cb (fun x=>decide (x∈ids)) d m l iV 0 (.slice none 0 0) (.slice sa sn sc):=⟨l,[],[],_,hM0,rfl,azJ _,azJ _,hl,fun z h=>by cases h⟩;have Hin:=Hw.bf (And.intro hG (And.intro h0 (And.intro h1 h3)));have Hpr:=Hw.bf (And.intro c0 (And.intro c1 (And.intro hd (And.intro hm hM))));clear hM0 hG h0 h1 h3 c0 c1 hd hm hM hl;go_enter Tryz.func57,Tryz.ntmps57;go_wp2
 go_loopw [8,9,23] (fun x8 x9 i wr=>∃k:Nat,k≤iV.length∧i=.int .i64 (k:Int)∧Za.At w wr G o cb (fun x=>decide (x∈ids)) d m l iV k x8 x9) (fun _ _ i _=>iV.length-(intOf i).toNat)
 case atStart=>exact⟨0,aAu _,rfl,hA0⟩
 case round=>
  obtain⟨k,hk,rfl,hAt⟩:=hrel;clear hA0;by_cases bO:k<iV.length
  ·have wV:(k:Int)<(iV.length:Int):=by omega
   have Kl:(0:Int)≤(k:Int):=by omega
   obtain⟨r,hr⟩:∃r,iV[k]? = some r:=⟨_,azS bO⟩;obtain⟨lc,left,an,va,re,Kv,Nn,lA,aO,Kh⟩:=hAt;have ark:=Hw.bf Kv;have Hr:=Hw.bf hr;obtain⟨c0,c1,hd,hm,hM⟩:=Hpr.out;obtain⟨hG,h0,h1,h3⟩:=Hin.out;have aqt:=cH.1 (re.pure c1);obtain⟨b,off,c,us,hv,hb,hbA,C9,_,su⟩:=aqt.get hr;obtain⟨rfl,-,rfl⟩:=Value.slice.inj hv;obtain⟨q,gV,hq⟩:=O7 C9;have uL:us.length=28:=by rw[gV];rfl
   have Qn:∀v∈us,v.oneCell'=true:=C9.one;have F4:wr.rangeAt b (off+k*28) us:=su;obtain⟨ev,kn,hkn⟩:∃x y,ij (fun x=>decide (x∈ids)) l r d m=(x,y):=⟨_,_,rfl⟩;have HO:=Hw.bf (show ∀W,Below wr.heap.size wr W→Calls Tryz.prog 90 #[.agg us.toArray,.slice sa sn sc,ud,.map (some rm),um] W (Zh.Out W (ev,kn))from fun W hW=>by
    have hML:=re.low hW;have hMW:Yh.M W rm ids:=hM.frame (by
     obtain⟨es,c,hmm,_⟩:=hM;have bO:=(aAP.1 hmm).1;refine hML.ev.block rm bO (fun e=>?_);subst e;rw[show w.heap[rm]? = _ from hG]at hmm;cases hmm)
    have:=Zh.out W r q (hq.low hW).none l _ (cH.1 (hML.pure c0).none) d ud (cH.1 (hML.pure hd).none) hdl m um (cH.1 (hML.pure hm).none) Qi rm ids hMW;rw[hkn]at this;rw[gV];exact this)
   have Hus:=Hw.bf (And.intro gV (And.intro hq C9));have Hkn:=Hw.bf hkn;have HMd:=Hw.bf re;have e0':wr.cell? ⟨G,o,none⟩=some (.slice sa sn sc):=by
    rw[re.g.cell,aAj,azD (by omega)];exact h0
   clear su hv C9 Kv hr c0 c1 hd hm hM hG h0 h1 h3 gV hq hkn re;have Hl:=Hw.bf (And.intro Nn (And.intro lA aO));have Hsm:=Hw.bf Kh;clear Nn lA aO Kh aqt;have iH:(Tryz.prog.info? 56).map (·.size)=some 28:=by kernel_rfl
   have Kw:Below wr.heap.size wr (wr.alloc (.cells us.toArray 56)):=(Below.refl _ _).alloc (azJ _) _;have nr:=HB.new wr 56 us.toArray;have hrb:=nr.range;have e0b:(wr.alloc (.cells us.toArray 56)).cell? ⟨G,o,none⟩=some (.slice sa sn sc):=(Kw.cell (p:=⟨G,o,none⟩) HMd.out.g.lt).trans e0';clear e0'
   go_upto_region 5 with(first | (refine wz rfl 56 (.tmp 25) rfl rfl F4 Tryz.underlying56 rfl iH uL ?_) | (refine qQ rfl 56 (.tmp 11) (.tmp 26) rfl rfl rfl (by rfl) uL iH Qn rfl ?_))
   have Y1:=Tryz.underlying56;have aqc:(Tryz.prog.info? 56).map (·.size)=some us.length:=by rw[iH,uL]
   refine wp_region_held (S:=fun W=>W.rangeAt wr.heap.size 0 us∧W.cell? ⟨G,o,none⟩=some (.slice sa sn sc)) mixed ?_;have bX:(fun W:World=>W.rangeAt wr.heap.size 0 us∧W.cell? ⟨G,o,none⟩=some (.slice sa sn sc)) {(wr.alloc (.cells us.toArray 56))with drawn:=(wr.alloc (.cells us.toArray 56)).drawn+1 }:=⟨hrb,e0b⟩;refine wpAnyH_take (i:=0) (oi:=_) (v:=_) rfl (by kernel_rfl) (by kernel_rfl) (by kernel_rfl) (fun _ _ _ h=>h) (yieldsIf_load_mid (by rfl) 56 (.tmp 11) rfl wr.heap.size 0 rfl us _ (fun w hw=>hw.1) Y1 rfl aqc) bX ?_
   try simp only[Act.put,List.setIfInBounds_toArray,List.set_cons_zero,List.set_cons_succ]
   iterate 7 ((first | refine Hw.tk 1 (v:=?_) rfl (fun _ _ _ h=>h) (Or.inl ⟨by rfl,?_⟩) bX ?_ | refine Hw.tk 2 (v:=?_) rfl (fun _ _ _ h=>h) (Or.inl ⟨by rfl,?_⟩) bX ?_ | refine Hw.tk 3 (v:=?_) rfl (fun _ _ _ h=>h) (Or.inl ⟨by rfl,?_⟩) bX ?_ | refine Hw.tk 4 (v:=?_) rfl (fun _ _ _ h=>h) (Or.inl ⟨by rfl,?_⟩) bX ?_ | refine Hw.tk 5 (v:=?_) rfl (fun _ _ _ h=>h) (Or.inl ⟨by rfl,?_⟩) bX ?_ | refine Hw.tk 6 (v:=?_) rfl (fun _ _ _ h=>h) (Or.inl ⟨by rfl,?_⟩) bX ?_ | refine Hw.tk 7 (v:=?_) rfl (fun _ _ _ h=>h) (Or.inl ⟨by rfl,?_⟩) bX ?_);rotate_left;(intro w yN;(try dsimp only at yN);go_simp;try with_reducible rfl);try simp only[Act.put,List.setIfInBounds_toArray,List.set_cons_zero,List.set_cons_succ])
   refine wpAnyH_ready (rs:=[8]) (by kernel_rfl) (by simp) ?_;refine AllReadyH.cons (o:=_) rfl (fun K hK=>?_) AllReadyH.nil
   go_simp
   go_at_call 90
   refine(HO.out _ (Kw.drew)).mono ?_;rintro en w3 ⟨rfl,rh⟩
   go_wp2_with fail
   refine hK.out _ _ ?_ (fun bX=>?_)
   ·exact⟨fun j v hv=>(rh.cell (p:=⟨wr.heap.size,0+j,none⟩) (by simp)).trans (hrb j v hv),(rh.cell (p:=⟨G,o,none⟩) (by have:=HMd.out.g.lt;simp;omega)).trans e0b⟩
   clear hK K
   try simp only[Act.put,List.setIfInBounds_toArray,List.set_cons_zero,List.set_cons_succ]
   iterate 5 ((first | refine Hw.tk 9 (v:=?_) rfl (fun _ _ _ h=>h) (Or.inl ⟨by rfl,?_⟩) bX ?_ | refine Hw.tk 10 (v:=?_) rfl (fun _ _ _ h=>h) (Or.inl ⟨by rfl,?_⟩) bX ?_ | refine Hw.tk 11 (v:=?_) rfl (fun _ _ _ h=>h) (Or.inl ⟨by rfl,?_⟩) bX ?_ | refine Hw.tk 12 (v:=?_) rfl (fun _ _ _ h=>h) (Or.inl ⟨by rfl,?_⟩) bX ?_ | refine Hw.tk 13 (v:=?_) rfl (fun _ _ _ h=>h) (Or.inl ⟨by rfl,?_⟩) bX ?_);rotate_left;(intro w yN;(try dsimp only at yN);go_simp;try with_reducible rfl);try simp only[Act.put,List.setIfInBounds_toArray,List.set_cons_zero,List.set_cons_succ])
   refine wpAnyH_done (by kernel_rfl) ?_ _;cases kn with
   | true=>
    have ZF:Below wr.heap.size wr w3:=(Kw.drew).trans (rh.mono (show wr.heap.size≤(wr.alloc (.cells us.toArray 56)).heap.size by simp));have hM3:=HMd.out.low ZF;have HRl:=Hw.bf (Za.rel hM3.hA hM3.sl Hl.out.2.2 r.2.1);have cr:w3.cell? ⟨wr.heap.size,1,none⟩=some (.int .i64 r.2.1):=bX.1 1 _ (by rw[Hus.out.1];rfl);have Ns:HB (wr.alloc (.cells us.toArray 56)).drew wr.heap.size 56 us.toArray:=nr;have ZB:=Ns.below rh Ns.lt;clear Ns nr;have HH:=Hw.bf bX;clear bX Kw hrb e0b hM3
    go_wp2_with (go_at_call 91;refine HRl.out.mono ?_;rintro en w4 ⟨vs4,rfl,hc4,jn⟩)
    have aqH:Below wr.heap.size wr w4:=ZF.trans (jn.mono ZF.size);have hM4:Za.ye w w4 G o cb (ny (lc,r.2.1)) left an vs4 u8 va:={HMd.out.low aqH with sl:=hc4 };have cr4:w4.cell? ⟨wr.heap.size,1,none⟩=some (.int .i64 r.2.1):=(jn.cell (p:=⟨wr.heap.size,1,none⟩) ZB.lt).trans cr;have ca4:w4.cell? ⟨G,o+3,none⟩=some va:=by
     rw[hM4.g.cell,aAj,azE rfl,azE (by obtain⟨_,_,_,h3⟩:=Hin.out;exact(aAP.1 h3).1)]
    obtain⟨aa,anl,ac,rfl⟩:∃a n c,va=.slice a n c:=by obtain⟨a,c,e⟩:=hM4.an.form;exact⟨a,_,c,e⟩
    have HG:=Hw.bf (show ∀W bx,Below w4.heap.size w4 W→HB W bx 100 #[.int .i64 r.2.1,.int .i64 ev]→∃v' w',(Builtin.append_ #[34,34] 34 #[.slice aa anl ac,.slice (some ⟨bx,0,none⟩) 1 1]).run Tryz.prog W=.ok v' w'∧
      (w'.frozen? ⟨G,o+3,none⟩=false∧w'.cell? ⟨G,o+3,none⟩=some (.slice aa anl ac)∧(∃a n c,v'=.slice a n c)∧Za.At w (w'.setCell ⟨G,o+3,none⟩ v') G o cb (fun x=>decide (x∈ids)) d m l iV (k+1) u8 vs4)from fun W bx hW hb=>by
     obtain⟨g,cap,w5,g1,g2,g3⟩:=(hM4.low hW).auG (r.2.1,ev) hb (by have:=Hl.out.2.1;omega);refine⟨_,w5,g1,g2.frozen _,?_,⟨_,_,_,rfl⟩,_,_,_,_,g3,?_,by have:=Hl.out.1;omega,by have:=Hl.out.2.1;simp;omega,PD _ Hl.out.2.2,fun z hz=>?_⟩
     ·rw[g2.cell,aAj,azE rfl,azE (by obtain⟨_,_,_,h3⟩:=Hin.out;exact(aAP.1 h3).1)]
     ·rw[ark.out,aA4 bO,show iV[k]=r by have:=Hr.out;rw[azS bO]at this;exact az9 this]
      simp only[sf,Hkn.out,azH];rfl
     ·rcases aAp.1 hz with hz | hz
      ·exact Hsm.out z hz
      ·rw[aAD.1 hz]
       have:=s6 r (azO Hr.out);exact Fx.2 this)
    have hcb:∀ob:Obj,(w4.alloc ob).cell? ⟨wr.heap.size,1,none⟩=some (.int .i64 r.2.1):=fun ob=>(((Below.refl w4.heap.size w4).alloc (azJ _) ob).cell (p:=⟨wr.heap.size,1,none⟩) (az3 ZB.lt jn.size)).trans cr4
    have hca:∀ob:Obj,(w4.alloc ob).cell? ⟨G,o+3,none⟩=some (.slice aa anl ac):=fun ob=>(((Below.refl w4.heap.size w4).alloc (azJ _) ob).cell (p:=⟨G,o+3,none⟩) hM4.g.lt).trans ca4
    clear hM4 hc4 HRl ZB ZF jn aqH HH cr
    go_region_law ((refine Za.Pn (by rfl) (.tmp 54) (.tmp 60) 34 (by rfl) (by rfl) (by rfl) (by rfl) (HG.out _ _ (by first | exact(((Below.refl _ _).alloc (azJ _) _).drew) | exact(((Below.refl _ _).drew).alloc (azJ _) _)) (by exact HB.new _ _ _)) ?_;rintro v5 w5 ⟨hf5,hc5,⟨a5,n5,c5,rfl⟩,ZG⟩))
    all_goals go_wp2
    all_goals exact⟨⟨k+1,by omega,by congr 1,ZG⟩,by simp[intOf];omega⟩
   | false=>
    have ZF:Below wr.heap.size wr w3:=(Kw.drew).trans (rh.mono (show wr.heap.size≤(wr.alloc (.cells us.toArray 56)).heap.size by simp));have hM3:=HMd.out.low ZF;have Ns:HB (wr.alloc (.cells us.toArray 56)).drew wr.heap.size 56 us.toArray:=nr;have ZB:=Ns.below rh Ns.lt;obtain⟨i0,z,g1,g2,g3,g4,g5⟩:=BJ YU;have HG:=Hw.bf (show ∃v' w',(Builtin.append_ #[32,32] 32 #[u8,.slice (some ⟨w3.heap.size,0,none⟩) 1 1]).run Tryz.prog (w3.alloc (.cells us.toArray 56))=.ok v' w'∧
      Za.At w w' G o cb (fun x=>decide (x∈ids)) d m l iV (k+1) v' u9 from by
     have aqA:Below w3.heap.size w3 (w3.alloc (.cells us.toArray 56)):=(Below.refl _ _).alloc (azJ _) _;have hM4:=hM3.low aqA;have hq4:=(Hus.out.2.1.low ZF).low aqA;have hb4:=HB.new w3 56 us.toArray;rw[Hus.out.1]at hb4;obtain⟨g,cap,w5,e1,e2,_⟩:=hM4.push (r:=r) hq4 (by rw[Hus.out.1];exact hb4) (by have:=Hl.out.1;omega);refine⟨_,w5,e1,_,_,_,_,e2,?_,by have:=Hl.out.1;simp;omega,by have:=Hl.out.2.1;omega,Hl.out.2.2,Hsm.out⟩;rw[ark.out,aA4 bO,show iV[k]=r by have:=Hr.out;rw[azS bO]at this;exact az9 this];simp only[sf,Hkn.out,azI])
    have hr3:w3.rangeAt wr.heap.size 0 us:=bX.1;have avH:List.foldl (fun(cs:Array Value) x=>cs.setIfInBounds x.2 x.1) #[.int .i64 0,.int .i64 0,.int .i64 0,.int .i64 0,.int .i64 0,.int .i64 0,.int .i64 0,.int .i64 0,.int .i64 0,.int .i64 0,.int .i64 0,.int .i64 0,.int .i64 0,.int .i64 0,.int .i64 0,.int .i64 0,.int .i64 0,.int .i64 0,.int .i64 0,.int .i64 0,.slice none 0 0,.int .i64 0,.int .i64 0,.int .i64 0,.int .i64 0,.int .i64 0,.int .i64 0,.bool false] us.zipIdx=us.toArray:=by
     have:=wX us 0 #[.int .i64 0,.int .i64 0,.int .i64 0,.int .i64 0,.int .i64 0,.int .i64 0,.int .i64 0,.int .i64 0,.int .i64 0,.int .i64 0,.int .i64 0,.int .i64 0,.int .i64 0,.int .i64 0,.int .i64 0,.int .i64 0,.int .i64 0,.int .i64 0,.int .i64 0,.int .i64 0,.slice none 0 0,.int .i64 0,.int .i64 0,.int .i64 0,.int .i64 0,.int .i64 0,.int .i64 0,.bool false] (by rw[uL];rfl)
     rwa [aBb,aAs]at this
    clear hM3 Ns ZB bX hrb e0b nr Y1 g1 g2 g3 g4 g5 aqc
    go_wp2_with (first
     | (refine wz rfl 56 (.tmp 11) rfl rfl hr3 Tryz.underlying56 rfl iH uL ?_)
     | (at_builtin;refine Za.Wl rfl (.tmp 41) (.tmp 43) 32 rfl rfl rfl rfl HG.out ?_;rintro v5 w5 ZG))
    exact⟨⟨k+1,by omega,by congr 1,ZG⟩,by simp[intOf];omega⟩
  ·obtain rfl:k=iV.length:=by omega
   have wV:¬ (iV.length:Int)<(iV.length:Int):=by omega
   obtain⟨lc,left,an,va,re,Kv,Nn,lA,aO,Kh⟩:=hAt;obtain⟨hG,h0,h1,h3⟩:=Hin.out;rw[aB9 (azJ _)]at Kv;have Kv:sf (fun x=>decide (x∈ids)) d m l iV l [] []=(lc,left,an):=Kv;have ap5:=(aAP.1 h3).1;have fr0:=re.g.frozen o;have fr1:=re.g.frozen (o+1);have k0:wr.cell? ⟨G,o,none⟩=some (.slice sa sn sc):=by rw[re.g.cell,aAj,azD (by omega)];exact h0
   have k1:wr.cell? ⟨G,o+1,none⟩=some (.slice pa (iV.length:Nat) pc):=by rw[re.g.cell,aAj,azD (by omega)];exact h1
   have k3:wr.cell? ⟨G,o+3,none⟩=some va:=by rw[re.g.cell,aAj,azE rfl,azE ap5]
   obtain⟨Ux,Uv,Uw,rfl⟩:∃a n c,u8=.slice a n c:=by obtain⟨a,c,e⟩:=re.lf.form;exact⟨a,_,c,e⟩
   obtain⟨c9a,c9n,c9c,rfl⟩:=re.sl.form;have HF:=Hw.bf (show Calls Tryz.prog 92 #[va,.func (.func 93) #[] #[]] ((wr.setCell ⟨G,o,none⟩ (.slice c9a c9n c9c)).setCell ⟨G,o+1,none⟩ (.slice Ux Uv Uw)) (Za.ee w G o cb (lc,left,an))from by
    have Ib:Ev wr ((wr.setCell ⟨G,o,none⟩ (.slice c9a c9n c9c)).setCell ⟨G,o+1,none⟩ (.slice Ux Uv Uw)) (fun b=>b=G):=Ev.st (X:=fun b=>b=G) (Ev.st (X:=fun b=>b=G) (Ev.rf wr _) G o _ (.inl rfl)) G (o+1) _ (.inl rfl);have hX:∀b,b<wr.heap.size→b=G→Za.A G (.slice Ux Uv Uw) va b:=fun b _ h=>.inl (.inr h)
    have hgG:∀g,va.ownBlock=some g→¬ g=G:=fun g hg e=>by have:=(re.an.lt hg).1;have:=re.g0;omega
    have hlG:∀g,(Value.slice Ux Uv Uw).ownBlock=some g→¬ g=G:=fun g hg e=>by have:=(re.lf.lt hg).1;have:=re.g0;omega
    have hgA:∀g,va.ownBlock=some g→¬ ef G g:=fun g hg e=>by have:=(re.an.lt hg).1;have:=re.g0;have:=e.le;omega
    have hlA:∀g,(Value.slice Ux Uv Uw).ownBlock=some g→¬ ef G g:=fun g hg e=>by have:=(re.lf.lt hg).1;have:=re.g0;have:=e.le;omega
    have Qm:∀b,Za.A G (.slice Ux Uv Uw) va b→b<((wr.setCell ⟨G,o,none⟩ (.slice c9a c9n c9c)).setCell ⟨G,o+1,none⟩ (.slice Ux Uv Uw)).heap.size:=fun b hb=>by
     have:=re.hA b hb;simpa [World.setCell]using this
    have auo:=re.an.ev Ib hX (fun _ _ h=>h) hgG;have atM:=re.lf.ev Ib hX (fun _ _ h=>h) hlG;have ate:=re.sl.ev Ib hX (fun _ _ h=>h);have hG2:=(re.g.set o (.slice c9a c9n c9c)).set (o+1) (.slice Ux Uv Uw);refine(Za.sort Qm auo (fun g hg=>.inr (.inr hg)) (by omega) Kh).mono fun en w' hh=>?_
    obtain⟨A',rfl,ho,nW,bm⟩:=hh;have hX3:∀b,b<((wr.setCell ⟨G,o,none⟩ (.slice c9a c9n c9c)).setCell ⟨G,o+1,none⟩ (.slice Ux Uv Uw)).heap.size→va.ownBlock=some b→Za.A G (.slice Ux Uv Uw) va b:=fun b _ h=>.inr (.inr h)
    have hGA:∀b,b<((wr.setCell ⟨G,o,none⟩ (.slice c9a c9n c9c)).setCell ⟨G,o+1,none⟩ (.slice Ux Uv Uw)).heap.size→ef G b→Za.A G (.slice Ux Uv Uw) va b:=fun b _ h=>.inl h
    refine⟨rfl,_,_,_,?_,hG2.ev bm (fun h=>hgG G h rfl),ate.ev bm hX3 hGA,?_,?_⟩
    ·have dO:((wr.setCell ⟨G,o,none⟩ (.slice c9a c9n c9c)).setCell ⟨G,o+1,none⟩ (.slice Ux Uv Uw)).heap.size=wr.heap.size:=by simp[World.setCell]
     have hs0:=re.ev.size;exact⟨bm.os.trans (Ib.os.trans re.ev.os),bm.tape.trans (Ib.tape.trans re.ev.tape),bm.output.trans (Ib.output.trans re.ev.output),by have:=bm.size;omega,fun b hb hn=>(bm.block b (by omega) (fun h=>by have:=(re.an.lt h).1;omega)).trans ((Ib.block b (by omega) hn).trans (re.ev.block b hb hn))⟩
    ·exact(atM.ev bm hX3 hGA (fun g hg h=>re.ne g hg h)).cl rfl hlA
    ·exact(ho.ev (Ev.rf w' (fun _=>False)) (fun _ _ h=>h.elim) (fun b _ hb=>nW b (.inl hb)) (fun _ _ h=>h)).cl rfl hgA)
   have HP:=Hw.bf Kv;clear Kv re Nn lA aO Kh hG h0 h1 h3 ap5
   go_wp2_with (go_at_call 92;refine HF.out.mono ?_;rintro en w5 hP;obtain⟨rfl,hP2⟩:=(show _∧_ from hP))
   exact⟨rfl,_,Za.res,by rw[HP.out];exact hP⟩
end Go.AL
namespace Go.AL
open Go.Proofs Go.RowKit
theorem xg:∀(q:List aj) (a x y:aj),vf a (q++[x]++[y])=bif decide (y=x)then vf a (q++[x])else vf a (q++[x])++[y]
 | [],a,x,y=>by
  simp only[aAs,aCf,vf];grind
 | b::q,a,x,y=>by
  have h1:=xg q a x y;have h2:=xg q b x y;simp only[aAS,vf,h1,h2];grind
theorem Uj:∀(q:List aj) (x y:aj),nD (q++[x]++[y])=bif decide (y=x)then nD (q++[x])else nD (q++[x])++[y]
 | [],x,y=>by
  simp only[aAs,aCf,nD,vf];grind
 | b::q,x,y=>by
  have h2:=xg q b x y;simp only[aAS,nD,h2];grind
theorem rv{l:List aj}{p:Nat}{x y:aj}(h0:0<p)(hx:l[p-1]? = some x)(hy:l[p]? = some y):nD (l.take (p+1))=bif decide (y=x)then nD (l.take p)else nD (l.take p)++[y]:=by
 have e1:l.take (p+1)=l.take p++[y]:=by rw[aAz,hy];rfl
 have e2:l.take p=l.take (p-1)++[x]:=by
  have:p=p-1+1:=by omega
  rw[this,aAz,Nat.add_sub_cancel,hx];rfl
 grind[Uj]
theorem Zc.guard(op:BinOp)(X Y:Operand)(x y:aj)(h:op=.eql∨op=.neq)(w:World):(eqGuard op 48 X Y (Yh.v x) (Yh.v y)).run Tryz.prog w=.ok () w:=by
 rcases h with rfl | rfl
 ·exact Zc.ui (by kernel_rfl) w
 ·exact Zc.ui (by kernel_rfl) w
theorem Zc.eql(X Y:Operand)(x y:aj)(w:World):(do eqGuard .eql 48 X Y (Yh.v x) (Yh.v y);binOp .eql 48 (Yh.v x) (Yh.v y):Sem Value).run Tryz.prog w=.ok (.bool (decide (x=y))) w:=by
 have e:binOp .eql 48 (Yh.v x) (Yh.v y)=(do pure (.bool (← Op.equal 48 (Yh.v x) (Yh.v y)))):=rfl;simp only[Sem.run_bind,Zc.guard .eql X Y x y (.inl rfl),Result.andThen_ok,e,Yh.eq,Sem.run_pure]
theorem Zc.neq(X Y:Operand)(x y:aj)(w:World):(do eqGuard .neq 48 X Y (Yh.v x) (Yh.v y);binOp .neq 48 (Yh.v x) (Yh.v y):Sem Value).run Tryz.prog w=.ok (.bool (!decide (x=y))) w:=by
 have e:binOp .neq 48 (Yh.v x) (Yh.v y)=(do pure (.bool (!(← Op.equal 48 (Yh.v x) (Yh.v y))))):=rfl;simp only[Sem.run_bind,Zc.guard .neq X Y x y (.inr rfl),Result.andThen_ok,e,Yh.eq,Sem.run_pure]
theorem Zc.exe{o:Oper}{a:Act}{op:BinOp}{X Y:Operand}{t:TypeId}(ho:o.op=.binOp op 48 X Y t){x y:aj}(hx:a.eval X=Yh.v x)(hy:a.eval Y=Yh.v y){r:Bool}(s6:op=.eql∧r=decide (x=y)∨op=.neq∧r = !decide (x=y))(w:World):(execOp a.eval o).run Tryz.prog w=.ok (.value (.bool r)) w:=by
 have h:(do eqGuard op 48 X Y (Yh.v x) (Yh.v y);binOp op 48 (Yh.v x) (Yh.v y):Sem Value).run Tryz.prog w=.ok (.bool r) w:=by
  grind[Zc.eql,Zc.neq]
 simp only[execOp,ho,hx,hy];rw[Sem.run_bind,h];rfl
theorem aR.aoS{w:World}{n0 b cap:Nat}{R:List aj}{N:Nat}(hN:N=R.length)(h:aR w gl n0 48 3 aE R (.slice (some ⟨b,0,none⟩) (N:Nat) cap)){k:Nat}(hk:k<N)(x:aj):
  aR (((w.setCell ⟨b,k*3,none⟩ (.int .i64 x.1)).setCell ⟨b,k*3+1,none⟩ (.int .i64 x.2.1)).setCell ⟨b,k*3+2,none⟩ (.int .i64 x.2.2)) gl n0 48 3 aE (R.set k x) (.slice (some ⟨b,0,none⟩) (N:Nat) cap):=by
 subst hN;rcases h with⟨h,_⟩ | ⟨g,am3,cur,he,h1,h2,h3,h4,h5,h6⟩
 ·cases h
 ·obtain⟨e1,e2,rfl⟩:=Value.slice.inj he
  cases e1
  have hls:(R.set k x).length=R.length:=azX;refine .inr ⟨b,cap,_,azT (fun n:Nat=>Value.slice (some ⟨b,0,none⟩) n cap) hls.symm,h1,((h2.set (k*3) _).set (k*3+1) _).set (k*3+2) _,by simpa using h3,(show(R.set k x).length≤cap by rw[hls];exact h4),h5,fun i y hy=>?_⟩;have hy:(R.set k x)[i]? = some y:=hy;have dO:(k+1)*3≤cur.size:=by grind
  by_cases hi:i=k
  ·subst hi
   rw[aA6 hk]at hy;cases hy;refine⟨kz x,iQ,rfl,fun j v hv=>?_⟩
   match j,hv with
   | 0,hv=>simp at hv;subst hv;simp only[aAj,aBY];rw[azD (by omega),azD (by omega),azE (by omega),azE (by omega)]
   | 1,hv=>simp at hv;subst hv;simp only[aAj,aBY];rw[azD (by omega),azE trivial,azE (by omega)]
   | 2,hv=>simp at hv;subst hv;simp only[aAj,aBY];rw[azE trivial,azE (by omega)]
   | j+3,hv=>simp at hv
  ·rw[aBc (fun e=>hi e.symm)]at hy
   obtain⟨us,u1,u2,u3⟩:=h6 i y hy;have gV:=l6 u1;refine⟨us,by rw[gV];exact iQ,u2,fun j v hv=>?_⟩;have hj:j<3:=by grind
   have bO:=(aAP.1 (u3 j v hv)).1;simp only[aAj,aBY];grind
theorem aR.YW{w:World}{n0 b cap N:Nat}{R:List aj}(h:aR w gl n0 48 3 aE R (.slice (some ⟨b,0,none⟩) (N:Nat) cap)){k:Nat}{x:aj}(hx:R[k]? = some x):
  w.cell? ⟨b,k*3,none⟩=some (.int .i64 x.1)∧w.cell? ⟨b,k*3+1,none⟩=some (.int .i64 x.2.1)∧w.cell? ⟨b,k*3+2,none⟩=some (.int .i64 x.2.2)∧w.frozen? ⟨b,k*3,none⟩=false∧w.frozen? ⟨b,k*3+1,none⟩=false∧w.frozen? ⟨b,k*3+2,none⟩=false:=by
 rcases h with⟨h,_⟩ | ⟨g,am3,cur,he,h1,h2,h3,h4,h5,h6⟩
 ·cases h
 ·obtain⟨e1,e2,rfl⟩:=Value.slice.inj he
  cases e1
  obtain⟨us,u1,u2,u3⟩:=h6 k x hx;have gV:=l6 u1;subst gV;exact⟨(h2.cell _).trans (u3 0 _ rfl),(h2.cell _).trans (u3 1 _ rfl),(h2.cell _).trans (u3 2 _ rfl),h2.frozen _,h2.frozen _,h2.frozen _⟩
theorem aR.clr{w:World}{n0 b cap N:Nat}{R:List aj}(hN:N=R.length)(h:aR w gl n0 48 3 aE R (.slice (some ⟨b,0,none⟩) (N:Nat) cap)){k m c:Nat}(hm:0<m)(hk:k+m=N)(ty:TypeId):
  ∃w',(Builtin.clear_ #[36] ty #[.slice (some ⟨b,k*3,none⟩) m c]).run Tryz.prog w=.ok (.tuple #[]) w'∧aR w' gl n0 48 3 aE (R.take k) (.slice (some ⟨b,0,none⟩) (k:Nat) cap)∧Ev w w' (fun q=>q=b):=by
 subst hN;rcases h with⟨h,_⟩ | ⟨g,am3,cur,he,h1,h2,h3,h4,h5,h6⟩
 ·cases h
 ·obtain⟨e1,e2,rfl⟩:=Value.slice.inj he
  cases e1
  have Dv:k≤R.length:=by omega
  have dO:R.length*3≤cur.size:=by grind
  have hkm:(k+m)*3≤cur.size:=by rw[hk];exact dO
  have hz:(Builtin.zeroCells #[Value.int .i64 0,.int .i64 0,.int .i64 0] m).toList.length=m*3:=by rw[aAU,size_zeroCells];rfl
  have h1':∀v∈(Builtin.zeroCells #[Value.int .i64 0,.int .i64 0,.int .i64 0] m).toList,v.oneCell'=true:=by
   intro v TO;simp only[Builtin.zeroCells,Array.mem_toList_iff,Array.mem_map]at TO;obtain⟨j,hj,rfl⟩:=TO;have hj3:j % 3<3:=Nat.mod_lt _ (by omega);show(#[Value.int .i64 0,.int .i64 0,.int .i64 0][j % 3]!).oneCell'=true
   match j % 3,hj3 with
   | 0,_=>rfl
   | 1,_=>rfl
   | 2,_=>rfl
  have wu:=run_storeCells_at (P:=Tryz.prog) b (k*3) 48 (Builtin.zeroCells #[Value.int .i64 0,.int .i64 0,.int .i64 0] m).toList 0 cur w h2 (by rw[hz];omega) h1';simp only[aBF]at wu;have hu:=Tryz.underlying36;have bO:(R.take k).length=k:=by rw[az5];omega
  have hkc:k≤cap:=az0 Dv h4;refine⟨w.setRow b (cur.toList.take (k*3)++(Builtin.zeroCells #[Value.int .i64 0,.int .i64 0,.int .i64 0] m).toList++cur.toList.drop (k*3+(Builtin.zeroCells #[Value.int .i64 0,.int .i64 0,.int .i64 0] m).toList.length)).toArray,?_,.inr ⟨b,cap,_,azT (fun n:Nat=>Value.slice (some ⟨b,0,none⟩) n cap) bO.symm,h1,setRow_heap w b cur _ _ (0,0) h2,?_,(show(R.take k).length≤cap by rw[bO];exact hkc),h5,fun i y hy=>?_⟩,⟨rfl,rfl,rfl,by simp[World.setRow],fun q _ hq=>setRow_other w b q _ hq⟩⟩
  ·obtain⟨m,rfl⟩:∃m',m=m'+1:=⟨m-1,by omega⟩
   simp[Builtin.clear_,run_underlying hu,Value.cells,wu]
  ·grind
  ·have hy:(R.take k)[i]? = some y:=hy
   have hi:i<k:=by
    grind
   rw[aAx,azE hi]at hy;obtain⟨us,u1,u2,u3⟩:=h6 i y hy;have gV:=l6 u1;refine⟨us,by rw[gV];exact iQ,u2,fun j v hv=>?_⟩;have hj:j<3:=by grind
   have h7:=u3 j v hv;rw[aBj,aAB,aAg (by grind),aAx,azE (by omega)];simpa using h7
