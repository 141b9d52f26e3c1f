/-
  MergeExact returns true at every input and leaves its arguments as they were; no condition. By an AI agent.
-/
import Derived.Test.YtfggefeflojnkaaGreatZ20
import Derived.Test.YtfggefeflojnkaaGreatRows
set_option linter.unusedSimpArgs false
set_option linter.unusedVariables false
open Go.IntKind (i64 u64)
namespace Go.AL
open Go.Proofs Go.RowKit
attribute [local go_sem] Oper.semAt_some
theorem Mk.auJ{w:World}{A:Nat→Prop}(hA:∀b,A b→b<w.heap.size){steps:List iz}{us:Value}(hs:Cl w A (.sl l7) steps us):
  Calls Tryz.prog 31 #[us] w fun en w'=>∃uf,en=.returned uf∧Cl w' A (.sl aF) (aD steps) uf∧Below w.heap.size w w':=by
 refine(Hw.call VK (steps:List iz) rfl hA (us:=#[us]) (yE.one (Ag.rdc hs))).mono fun en w' hh=>?_
 obtain⟨us,A',rfl,hr,nW,_,hB⟩:=hh;obtain⟨u,rfl,hu⟩:=(show ∃u,us=[u]∧Cl w' A' (.sl aF) (aD steps) u from hr);exact⟨u,rfl,hu.fr (cz.refl _ _) (azJ _) (fun b _ h=>nW b h),hB⟩
theorem Mk.auU{w W:World}{A:Nat→Prop}(hA:∀b,A b→b<w.heap.size)(hW:Below w.heap.size w W){l:List Int}{ul:Value}(hl:Cl w A (.sl [zI]) l ul)(n:Nat):
  Calls Tryz.prog 33 #[ul,.int .i64 (n:Int)] W fun en w'=>∃u,en=.returned u∧Cl w' A (.sl [zI]) (l.drop n) u∧Below W.heap.size W w':=by
 refine(Hw.call LP ((l,(n:Int)):List Int×Int) (azC (Int.natCast_nonneg n)) (w:=W) (A:=A) (fun b hb=>az3 (hA b hb) hW.size) (us:=#[ul,.int .i64 (n:Int)]) (yE.two (Ag.c (hl.low hW)) Ag.int)).mono fun en w' hh=>?_
 obtain⟨us,A',rfl,hr,nW,_,hB⟩:=hh;obtain⟨u,rfl,hu⟩:=(show ∃u,us=[u]∧Cl w' A' (.sl [zI]) (l.drop n) u from hr);exact⟨u,rfl,hu.fr (cz.refl _ _) (azJ _) (fun b _ h=>nW b h),hB⟩
structure Mk.O (wf wr:World) (A:Nat→Prop) (rs:List cC) (u:Value):Prop where
 own:aR wr (Mk.Ao A u) wf.heap.size 40 20 eG rs u
 ev:Below wf.heap.size wf wr
theorem Mk.O.lt{wf wr:World}{A:Nat→Prop}{rs:List cC}{u:Value}(h:Mk.O wf wr A rs u)(hA:∀b,A b→b<wf.heap.size):∀b,Mk.Ao A u b→b<wr.heap.size:=fun b hb=>by
 rcases hb with hb | hb
 ·exact az3 (hA b hb) h.ev.size
 ·exact(h.own.lt hb).2
theorem Mk.O.cl{wf wr:World}{A:Nat→Prop}{rs:List cC}{u:Value}(h:Mk.O wf wr A rs u){t:Ty}{x:t.T}{v:Value}(hc:Cl wf A t x v):Cl wr (Mk.Ao A u) t x v:=
 hc.fr (fun b hb _=>h.ev.block b hb) h.ev.size (fun b hb nC=>by
  rcases nC with h2 | h2
  ·exact h2
  ·have:=(h.own.lt h2).1;omega)
theorem YF(l:List Int)(fo:List ag):∀(n i:Nat) (q:List bR),(m2 l fo n i q).length≤n+q.length
 | 0,_,q=>by simp[m2]
 | n+1,i,q=>by
  unfold m2;cases decide (fo.length=0)with
  | true=>grind
  | false=>
   simp only[azI];refine az0 (YF l fo n (i+1) _) ?_;grind
theorem YE(l:List Int):∀(n i:Nat) (q:List tm),(m4 l n i q).length=n+q.length
 | 0,_,q=>by simp[m4]
 | n+1,i,q=>by
  unfold m4;rw[YE l n (i+1)];simp;omega
theorem M0{l:List Int}{f:List ag}{c:Int}:(mm (l,f,c)).1.length≤1000∧(mm (l,f,c)).2.1.length≤1000∧(mm (l,f,c)).2.2.1.length≤1000:=by
 refine⟨?_,?_,?_⟩
 ·show(m0 l 0 (M4 (f,c))).length≤1000
  rw[M8,FU];omega
 ·have h1:=YF l f (place (ba (l,12),3)).toNat 0 []
  have h2:=(pl3 (ba (l,12))).2;exact az0 h1 (by simp;omega)
 ·have h1:=YE l (place (ba (l,14),3)).toNat 0 []
  have h2:=(pl3 (ba (l,14))).2;exact az0 (aBt h1) (by simp;omega)
theorem Mk.I.new{w2 w3:World}{A:Nat→Prop}{q p m:Value}{ls:List aL}{lp:List bR}{lm:List tm}(hA:∀b,A b→b<w2.heap.size)(hq:Cl w3 (Mk.Ap A p m) (.sl bg) ls q)(s6:aR w3 (Mk.Ap A p m) w2.heap.size 56 28 bV lp p)
  (hom:aR w3 (Mk.Ap A p m) w2.heap.size 82 4 gJ lm m) (hB:Below w2.heap.size w2 w3):Mk.I w2.heap.size w2 (w3.alloc (.cells #[q,p,m,.slice none 0 0,.slice none 0 0,.slice none 0 0] 38)) A w3.heap.size ls lp lm q p m:=by
 have bm:=(Ev.rf w3 (fun _=>False)).al (.cells #[q,p,m,.slice none 0 0,.slice none 0 0,.slice none 0 0] 38);exact⟨HB.new w3 _ _,hq.ev bm (fun _ _ h=>h.elim) (fun _ _ h=>h),s6.ev bm (fun _ _ h=>h.elim) (fun _ _ h=>h) (fun _ _ h=>h),hom.ev bm (fun _ _ h=>h.elim) (fun _ _ h=>h) (fun _ _ h=>h),hB.trans ((bm.low (fun _ h=>h)).mono hB.size),hA,hB.size⟩
theorem alo(l:List Int)(f:List ag){k:Nat}(hk:k<4):(cY l f).take (k+1)=(cY l f).take k++[rT l f k]:=by
 match k,hk with
 | 0,_=>rfl
 | 1,_=>rfl
 | 2,_=>rfl
 | 3,_=>rfl
set_option maxRecDepth 100000 in
set_option maxHeartbeats 4000000 in
theorem Mk.calls(w:World){A:Nat→Prop}(hA:∀b,A b→b<w.heap.size)(l:List Int)(steps:List iz)(ul us:Value)(hl:Cl w A (.sl [zI]) l ul)(hs:Cl w A (.sl l7) steps us)(hp:∀(l:List Int) (c:Int),M1 (l,aD steps,c)=true):
  Calls Tryz.prog 10 #[ul,us] w fun en w'=>∃u,en=.returned u∧Cl w' A (.sl eG) (cY l (aD steps)) u∧Below w.heap.size w w':=by
 haveI:ZA:=⟨A⟩
 have yL:=Tryz.underlying25;have uK:=Tryz.underlying38;have HF:=Hw.bf (Mk.auJ hA hs);have HL:=Hw.bf (And.intro hA hl);clear hA hl hs;go_enter Tryz.func10,Tryz.ntmps10
 go_upto_region 2 with(go_at_call 31;refine HF.out.mono ?_;rintro en wf ⟨uf,rfl,hcf,hBf⟩)
 have hAf:∀b,A b→b<wf.heap.size:=fun b hb=>az3 (HL.out.1 b hb) hBf.size
 have HP:=Hw.bf (And.intro hAf (And.intro (HL.out.2.low hBf) (And.intro hcf hBf)));obtain⟨f,hf⟩:∃f,f=aD steps:=⟨_,rfl⟩;rw[← hf]at hcf hp HP;have HFE:=Hw.bf hf;clear hf;have HO:=Hw.bf (show Mk.O wf wf A ((cY l f).take 0) (.slice none 0 0)from⟨.inl ⟨rfl,rfl⟩,Below.refl _ _⟩);clear hcf hBf hAf HL HF;go_wp2
 go_loopw [6,7] (fun x6 i wr=>∃k:Nat,k≤4∧i=.int .i64 (k:Int)∧(∃a n c,x6=.slice a n c)∧Mk.O wf wr A ((cY l f).take k) x6) (fun _ i _=>4-(RowKit.intOf i).toNat)
 case atStart=>exact⟨0,aAu _,rfl,⟨_,_,_,rfl⟩,HO.out⟩
 case round=>
  obtain⟨k,hk,rfl,⟨xa,xn,xc,rfl⟩,hO⟩:=hrel;clear HO;by_cases bO:k<4
  ·have wV:(k:Int)<4:=by omega
   have Kl:(0:Int)≤(k:Int):=by omega
   have HO:=Hw.bf hO;have Qm:=hO.lt HP.out.1;have HC:=Hw.bf (fun W (hW:Below wr.heap.size wr W)=>Mk.auU Qm hW (hO.cl HP.out.2.1) (5*k));have HSt:=Hw.bf (fun W (hW:Below wr.heap.size wr W) v (hv:Cl W (Mk.Ao A (.slice xa xn xc)) (.sl [zI]) (l.drop (5*k)) v)=>Mk.sta (fun b hb=>az3 (Qm b hb) hW.size) hv ((hO.cl HP.out.2.2.1).low hW) (hp (l.drop (5*k)) (k:Int)));have aqe:(Tryz.prog.info? 38).map (·.size)=some 6:=by kernel_rfl
   have HA2:=Hw.bf Qm;clear hO Qm
   go_upto_region 10 with(first
    | (go_at_call 33;refine(HC.out _ (Below.refl _ _)).mono ?_;rintro en w2 ⟨v2,rfl,Ia,Ql⟩)
    | (go_at_call 32;refine(HSt.out _ Ql _ Ia).mono ?_;rintro en w3 ⟨q,p,m,a5,a6,a7,rfl,hq,s6,hom,rh,Qn⟩;have x3:=(HB.new w3 38 #[q,p,m,a5,a6,a7]).cell 3;have x4:=(HB.new w3 38 #[q,p,m,a5,a6,a7]).cell 4;have x5:=(HB.new w3 38 #[q,p,m,a5,a6,a7]).cell 5)
    | (refine qQ rfl 38 (.tmp 8) (.tmp 23) rfl rfl (us:=[q,p,m,a5,a6,a7]) rfl (by rfl) rfl aqe Qn rfl ?_))
   have hA3:∀b,Mk.Ao A (.slice xa xn xc) b→b<w2.heap.size:=fun b hb=>az3 (HA2.out b hb) Ql.size
   have hI:∃(ls:List aL) (lp:List bR) (lm:List tm),ls.length≤1000∧lp.length≤1000∧lm.length≤1000∧Mk.I w2.heap.size w2 (w3.alloc (.cells #[q,p,m,.slice none 0 0,.slice none 0 0,.slice none 0 0] 38)) (Mk.Ao A (.slice xa xn xc)) w3.heap.size ls lp lm q p m∧
     rT l f k=((k:Int),1,[],[],ls,oH k 0 lp,uA l (ls,oH k 0 lp,lm,[],[],[]) k 0 lm,[],[],[],false,0,[],[],[],[],[],[],[],[]):=
    ⟨_,_,_,M0.1,M0.2.1,M0.2.2,Mk.I.new hA3 hq s6 hom rh,rfl⟩
   obtain⟨ls,lp,lm,o1,o2,o3,hI,hr⟩:=hI;obtain⟨qa,qc,rfl⟩:=(show ∃a c,q=.slice a (ls.length:Nat) c from(cH.1 hI.sl).form);obtain⟨pa,pc,rfl⟩:=(show ∃a c,p=.slice a (lp.length:Nat) c from hI.op.form);obtain⟨ma,mc,rfl⟩:=(show ∃a c,m=.slice a (lm.length:Nat) c from hI.om.form);clear hq s6 hom x3 x4 x5 Qn rh Ia hA3 aqe;have HI:=Hw.bf hI;have HR:=Hw.bf hr;have Vp:=Hw.bf Ql;have atJ:=lz k lp 0;clear hI hr Ql;go_wp2;refine Zm.use (Mk.lp2 w2.heap.size w2 _ (Mk.Ao A (.slice xa xn xc)) w3.heap.size ls lp lm _ pa pc _ k bO o2 HI.out ?_);intro u9 u27 u28 u29 u30 u31 u32 u33 u34 u35 u36 u37 u38 u39 u40 u41 u42 w6 hI6;have HI6:=Hw.bf hI6;clear hI6;go_wp2;refine Zm.use (Mk.lp4 w2.heap.size w2 _ (Mk.Ao A (.slice xa xn xc)) w3.heap.size l ls (oH k 0 lp) lm ul _ _ ma mc k bO o3 (azC (by omega)) (azC (by omega)) wf A HP.out.1 (az0 HO.out.ev.size Vp.out.size) (HO.out.ev.trans (Vp.out.mono HO.out.ev.size)) HP.out.2.1 HI6.out ?_);intro u10 u43 u44 u45 u46 u47 u48 u49 u50 u51 u52 u53 u54 u55 u56 u57 u58 u59 u60 u61 u62 u63 u64 u65 u66 u67 u68 w7 hI7;have g0:=hI7.box.cell 0;have g1:=hI7.box.cell 1;have g2:=hI7.box.cell 2;have g3:=hI7.box.cell 3;have g4:=hI7.box.cell 4;have g5:=hI7.box.cell 5;obtain⟨i0,z,d1,d2,d3,d4,d5⟩:=BJ YV
   have HBs:=Hw.bf (afo (P:=Tryz.prog) w7 25 40 [.int .i64 (k:Int),.int .i64 1,.slice none 0 0,.slice none 0 0,.slice qa (ls.length:Nat) qc,.slice pa (lp.length:Nat) pc,.slice ma (lm.length:Nat) mc,.slice none 0 0,.slice none 0 0,.slice none 0 0,.bool false,.int .i64 0,.slice none 0 0,.slice none 0 0,.slice none 0 0,.slice none 0 0,.slice none 0 0,.slice none 0 0,.slice none 0 0,.slice none 0 0] yL d1 d2 d3 (by omega) (by omega) rfl);have h17:Below wr.heap.size wr w7:=Vp.out.trans (hI7.ev.mono Vp.out.size);have hB8:Below w7.heap.size w7 (w7.alloc (.cells #[.int .i64 (k:Int),.int .i64 1,.slice none 0 0,.slice none 0 0,.slice qa (ls.length:Nat) qc,.slice pa (lp.length:Nat) pc,.slice ma (lm.length:Nat) mc,.slice none 0 0,.slice none 0 0,.slice none 0 0,.bool false,.int .i64 0,.slice none 0 0,.slice none 0 0,.slice none 0 0,.slice none 0 0,.slice none 0 0,.slice none 0 0,.slice none 0 0,.slice none 0 0] 40)):=(Below.refl _ _).alloc (azJ _) _;have h18:Below wr.heap.size wr (w7.alloc (.cells #[.int .i64 (k:Int),.int .i64 1,.slice none 0 0,.slice none 0 0,.slice qa (ls.length:Nat) qc,.slice pa (lp.length:Nat) pc,.slice ma (lm.length:Nat) mc,.slice none 0 0,.slice none 0 0,.slice none 0 0,.bool false,.int .i64 0,.slice none 0 0,.slice none 0 0,.slice none 0 0,.slice none 0 0,.slice none 0 0,.slice none 0 0,.slice none 0 0,.slice none 0 0] 40)):=h17.trans (hB8.mono h17.size)
   have HG:=Hw.bf (show ∃v' w',(Builtin.append_ #[25,25] 25 #[.slice xa xn xc,.slice (some ⟨w7.heap.size,0,none⟩) 1 1]).run Tryz.prog (w7.alloc (.cells #[.int .i64 (k:Int),.int .i64 1,.slice none 0 0,.slice none 0 0,.slice qa (ls.length:Nat) qc,.slice pa (lp.length:Nat) pc,.slice ma (lm.length:Nat) mc,.slice none 0 0,.slice none 0 0,.slice none 0 0,.bool false,.int .i64 0,.slice none 0 0,.slice none 0 0,.slice none 0 0,.slice none 0 0,.slice none 0 0,.slice none 0 0,.slice none 0 0,.slice none 0 0] 40))=.ok v' w'∧((∃a n c,v'=.slice a n c)∧Mk.O wf w' A ((cY l f).take (k+1)) v')from by
    have aK:=(hI7.fin (k:Int)).ev (et hB8 (fun _=>False)) (fun _ _ h=>h.elim) (fun _ _ h=>h);obtain⟨v',w',e1,e2,e3⟩:=Mk.push (HO.out.own.ev (et h18 (fun _=>False)) (fun _ _ h=>h.elim) (fun _ _ h=>h) (fun _ _ h=>h)) (az0 HO.out.ev.size h18.size) aK rfl (HB.new w7 40 _) (by rw[az5];omega);refine⟨v',w',e1,(show ∃a n c,v'=.slice a n c from by obtain⟨a,c,e⟩:=e2.form;exact⟨a,_,c,e⟩),?_,(HO.out.ev.trans (h18.mono HO.out.ev.size)).trans e3⟩;rw[alo l f bO,HR.out];exact e2)
   clear hI7 HI HI6 h17 hB8 h18 d1 d2 d3 d4 d5 atJ o1 o2 o3 HSt HC
   go_wp2_with (first
    | (refine awI rfl 25 (.tmp 73) rfl (us:=[.int .i64 (k:Int),.int .i64 1,.slice none 0 0,.slice none 0 0,.slice qa (ls.length:Nat) qc,.slice pa (lp.length:Nat) pc,.slice ma (lm.length:Nat) mc,.slice none 0 0,.slice none 0 0,.slice none 0 0,.bool false,.int .i64 0,.slice none 0 0,.slice none 0 0,.slice none 0 0,.slice none 0 0,.slice none 0 0,.slice none 0 0,.slice none 0 0,.slice none 0 0]) (by rfl) HBs.out ?_)
    | (at_builtin;refine Za.Wl rfl (.tmp 69) (.tmp 74) 25 rfl rfl rfl rfl HG.out ?_;rintro v9 w9 ⟨⟨a9,n9,c9,rfl⟩,hO9⟩))
   exact⟨⟨k+1,by omega,by congr 1,⟨_,_,_,rfl⟩,hO9⟩,by simp[RowKit.intOf];omega⟩
  ·obtain rfl:k=4:=by omega
   have wV:¬ ((4:Nat):Int)<4:=by omega
   have HO:=Hw.bf hO;clear hO;go_wp2;go_ret;refine⟨_,rfl,?_,HP.out.2.2.2.trans (HO.out.ev.mono HP.out.2.2.2.size)⟩;rw[← HFE.out];exact(HO.out.own.ev (Ev.rf wr (fun _=>False)) (fun _ _ h=>h.elim) (fun b _ h=>.inl h) (fun _ _ h=>h)).cl rfl (fun g hg hA=>by have:=(HO.out.own.lt hg).1;have:=HP.out.1 g hA;omega)
end Go.AL
namespace Go.AL
open Go.Proofs Go.RowKit
theorem Ym(steps:List iz)(l:List Int)(c:Int):M1 (l,aD steps,c)=true:=by
 simp only[M1,azF,azM];exact⟨Es steps,by have:=(rj steps).2;show(aD steps).length≤1000000;omega⟩
noncomputable def adz:dn:=⟨10,[.c (.sl [zI]),.c (.sl l7)],[.v (.sl eG)],fun _=>true,fun a:List Int×List iz=>cY a.1 (aD a.2)⟩
theorem ady:adz.Ok Tryz.prog:=amJ (ad:=[.c (.sl [zI]),.c (.sl l7)]) (t:=.sl eG) (pre:=fun _=>true) (fn:=fun a:List Int×List iz=>cY a.1 (aD a.2)) fun a hp w A hA us ha=>by
 obtain⟨l,steps⟩:=(a:List Int×List iz);obtain⟨u0,r0,e0,h0,u1,rfl,h1⟩:=(show ∃u0 r0,us.toList=u0::r0∧Ag w A (.c (.sl [zI])) l u0∧∃u1,r0=[u1]∧Ag w A (.c (.sl l7)) steps u1 from ha);have gV:us=#[u0,u1]:=by rw[← aB8 (xs:=us),e0]
 subst gV;exact Mk.calls w hA l steps u0 u1 (aaG h0) (aaG h1) (Ym steps)
open Go.Proofs
noncomputable def ajW:cX:=⟨Tryz.prog,[Hn,R8,Hp,Sd],dE [(4,([(1,[]),(2,[]),(3,[]),(4,[]),(5,[]),(0,[]),(6,[]),(7,[])],[(4,4),(18,24)]))],60,[],[(12,bg),(15,gJ),(20,eG),(21,[zI]),(22,[zI])],[],[]⟩
noncomputable def ajq(f:Nat)(a:Unit):Option Bool:=aG ajW (eO []) (zK [.tmp 0] [.v .bool]) f [.code (aB Tryz.f9)] (aQ [] a)
theorem aci(f:Nat):ajq (f+1) () =
  some ((↑(aX [(0,0,[],[],[(0,1,0,[],2,0,12,3,0,0,false,0,1,9,0)],[],[(0,1,9,0)],[],[],[],false,0,[],[],[],[],[],[],[],[])]).length:Int) == 1):=by kernel_rfl
noncomputable def ajA:Unit→Bool
 | ()=>(↑(aX [(0,0,[],[],[(0,1,0,[],2,0,12,3,0,0,false,0,1,9,0)],[],[(0,1,9,0)],[],[],[],false,0,[],[],[],[],[],[],[],[])]).length:Int) == 1
noncomputable def aiX:Unit→Bool
 | ()=>true
theorem aat:∀a:Unit,de (fun f=>ajq f a) (aiX a) (ajA a)
 | ()=>ai (fun f=>aci f) ae
noncomputable def adP:dn:=⟨9,[],[.v .bool],fun _=>true,fun _=>true⟩
theorem adO:zO adP:=fl ajW (eO []) [.tmp 0] mixed (ah E1 (ah LL (ah E3 (ah LO (aC))))) Tryz.func9 (bp aat (fun _ _=>by kernel_rfl) (fun _ _=>by kernel_rfl))
open Go.RowKit
def rdA(x y:V):Prop:=y=x∨∃rows,x=.sl rows∧y=.rd rows
theorem EW.pur{P:Program}{g:FuncId}{args dk:List V}{Pd:List RD→Prop}(h:EW P g args Pd)(hs:∀rds,Pd rds→∀rd∈rds,rd.AX=true)(hv:aJ rdA args dk):EW P g dk Pd:=by
 refine⟨h.1,fun w A vs hA dO hrel=>?_⟩;have S:Step ⟨w,A,fB,iE⟩ ⟨w,fun _=>False,fB,iE⟩:=⟨fun _ _ _=>rfl,azJ _,fun _ _ h=>h.elim,fun _ _ h=>h⟩;have H0:bU ⟨w,A,fB,iE⟩:=⟨fun o ob ho=>by simp[fB]at ho,fun o o' ob ob' b ho=>by simp[fB]at ho,hA⟩;have aj7:∀x u,Rel ⟨w,A,fB,iE⟩ x u→Rel ⟨w,fun _=>False,fB,iE⟩ x u:=fun x u hr=>by
  have:=Rel.step H0 S (fun _=>false) (fun p _ ob ho=>by simp[fB]at ho) hr
  rwa [V.bK]at this
 refine(h.2 w (fun _=>False) vs (fun b hb=>hb.elim) (by rw[dO,hv.len]) (fun i x hx=>?_)).mono ?_
 ·obtain⟨y,hy,uH⟩:=hv.amr i x hx
  obtain⟨u,h1,h2⟩:=hrel i y hy;refine⟨u,h1,?_⟩;rcases uH with rfl | ⟨rows,rfl,rfl⟩
  ·exact aj7 _ _ h2
  ·exact(cD.aN (me.2 (gF.frame (w:=w) (w':=w) (fun _ _ _=>rfl) (fun _ _ _=>rfl) (azJ _) (fun _ _ h=>h.elim) (fun _ _ h=>h.elim) (show gF w A _ rows u from h2)))).rel
 ·rintro e w' ⟨rds,us,β',A',xP,rfl,hp⟩
  exact⟨rds,us,iE,A,xP,rfl,Bd hA hp (hs rds xP)⟩
theorem Uy(b:Bool):∀rds,cf [.v .bool] b rds→∀rd∈rds,rd.AX=true:=fun rds h=>JB [.v .bool] b rds rfl h
open Go.Proofs
open Go.Proofs
open Go.Proofs
open Go.Proofs
structure OkM (t:ay):Prop where
 sl:ct t.1=true
 len:t.1.length≤1000000
 rq:ke t.2.1=true
 pn:t.2.1.length≤19
 op:∀r∈t.2.1,0≤r.2.1∧r.2.1≤4611686018427387904
 mks:t.2.2.1=[]
 an:t.2.2.2.1.length≤19
 en:wL t.2.2.2.2.1=true
 cm:t.2.2.2.2.2.length≤100000
theorem akg{ab:List cC}(h:ab.all AZ=true)(c au:Int):ke (dp (c,au,ab)).2.1=true:=by
 by_cases h0:bu (fun q:cC=>decide (q.1=c)) ab 0<0
 ·simp only[dp,azC h0,azH]
  rfl
 ·have bO:bu (fun q:cC=>decide (q.1=c)) ab 0<0+(ab.length:Nat):=jO _ ab 0 (aBl 0)
  have hm:=azU.1 h (ab.getD (bu (fun q=>decide (q.1=c)) ab 0).toNat zq5) (by
   grind)
  simp only[AZ,azF,azM]at hm;simp only[dp,azK h0,azI];exact hm.2.2.1
theorem XX{l q:List bR}(h:ke l=true)(hl:q.length≤l.length)(hs:∀r∈q,r∈l):ke q=true:=by
 simp only[ke,azF,azM,azU]at h ⊢;grind
theorem Pz(a:List eB×Int×List cC×jf){i:Nat}{t:ay}(ht:(gi a)[i]? = some t):∃c,a.2.2.2.2.1[i]? = some c:=by
 have h:=(azR.1 ht).1;rw[PA]at h;exact⟨_,azS h⟩
theorem afu(a:List eB×Int×List cC×jf)(hp:FV a=true){i:Nat}{t:ay}(ht:(gi a)[i]? = some t):OkM t:=by
 have hq:FG a=true∧M5 a.2.2.1=true:=by
  simp only[FV,azF]at hp;grind
 have hr:=hq.1;simp only[FG,azF,azM]at hr;obtain⟨h1,h2,h3,h4,h5⟩:=hr;have au:∀{i:Nat} {t:ay},(gi a)[i]? = some t→ct t.1=true∧t.1.length≤1000000:=fun {i t} ht=>by
  obtain⟨c,hc⟩:=Pz a ht;obtain⟨s,g1,g2⟩:=zi a hc;obtain rfl:=az9 (g1.symm.trans ht);have e1:s.1=(sJ (jL (Dr a)) (aX a.2.2.1) a.2.2.2.2.1 (iU a.2.1 a.2.2.1 (aX a.2.2.1) c)).1:=azT (·.1) g2;grind[WT,MB]
 obtain⟨c,hc⟩:=Pz a ht;obtain⟨s,g1,g2⟩:=zi a hc;obtain rfl:=az9 (g1.symm.trans ht);obtain⟨s',k1,k2,k3,_⟩:=aft a hc;obtain rfl:=az9 (k1.symm.trans g1);have e3:s'.2.2.1=(iU a.2.1 a.2.2.1 (aX a.2.2.1) c).2.2.1:=azT (·.2.2.1) g2;have e5:s'.2.2.2.2.2=(iU a.2.1 a.2.2.1 (aX a.2.2.1) c).2.2.2.2.2:=azT (·.2.2.2.2) g2;rw[← Bc]at e3 e5;obtain⟨p1,p2,_⟩:=Jt hq.2 c a.2.1;have hfl:=aCk (fun r=>!knB a c r) (dp (c,a.2.1,a.2.2.1)).2.1;have at6:=aCk (knB a c) (dp (c,a.2.1,a.2.2.1)).2.1;refine⟨(au ht).1,(au ht).2,?_,by rw[k2];omega,fun r hr=>?_,e3,by rw[k3];omega,?_,?_⟩
 ·grind[XX,akg]
 ·grind
 ·refine FM ?_ fun e he=>?_
  ·have h6:=ht
   rw[MA,uW]at h6;obtain⟨t0,_,rfl⟩:=aBu.1 h6;have e1:MR (a.1,Tw a,((0+i:Nat):Int),a.2.2.2)=MK a.1 a.2.2.2.2.2 (a.2.2.2.2.1.getD (0+i) 0) ((Tw a).zip a.2.2.2.2.1):=by
    rw[MJ];rfl
   show(MR (a.1,Tw a,((0+i:Nat):Int),a.2.2.2)).length≤_;rw[e1];have e2:(MK a.1 a.2.2.2.2.2 (a.2.2.2.2.1.getD (0+i) 0) ((Tw a).zip a.2.2.2.2.1)).length=(lL a.1 a.2.2.2.2.2 (a.2.2.2.2.1.getD (0+i) 0) ((Tw a).zip a.2.2.2.2.1)).length:=bh _;have e4:=@vt ⟨fun _=>False⟩ a.1 a.2.2.2.2.2 (a.2.2.2.2.1.getD (0+i) 0) ((Tw a).zip a.2.2.2.2.1) (fun p hp=>by
    have hm:p.1∈Tw a:=(List.of_mem_zip hp).1;obtain⟨x,hx,e⟩:=az4.1 (show p.1∈(Dr a).map _ from hm);obtain⟨c',_,rfl⟩:=az4.1 (show x∈a.2.2.2.2.1.map _ from hx);grind[WT,MB])
   grind
  ·obtain⟨_,j,u,c',hu,_,m,s,hs,_,rfl⟩:=(Xr a ht e).1 he
   exact gk (au hu).1 (azO hs)
 ·rw[e5];exact oU _ h1
theorem OkM.sta{t:ay}(h:OkM t):aiz t=true:=by
 simp only[aiz,azF];have h1:=h.an;have h2:=h.cm;exact⟨h.sl,h.rq,by rw[h.mks];rfl,azC (by omega),h.en,azC (by omega)⟩
open Go.Proofs
structure abe (r:cC):Prop where
 sl:ct r.2.2.2.2.1=true
 len:r.2.2.2.2.1.length=12
 rq:ke r.2.2.2.2.2.1=true
 pn:r.2.2.2.2.2.1.length≤19
 op:∀q∈r.2.2.2.2.2.1,0≤q.2.1∧q.2.1≤4611686018427387904
 mks:(rR r).length≤2
theorem KB{steps:List iz}{e:ag}(he:e∈aD steps):af e.2.2.2.2.2.1=true:=by
 have h:=Es steps;simp only[oE,azF,azU]at h;exact(h.2 e he).2
theorem PZ(l:List Int)(steps:List iz):∀(n i:Nat) (q:List bR),(∀r∈q,af (Pu r)=true)→∀r∈m2 l (aD steps) n i q,af (Pu r)=true
 | 0,_,q,h=>h
 | n+1,i,q,h=>by
  unfold m2;cases decide ((aD steps).length=0)with
  | true=>exact h
  | false=>
   refine PZ l steps n (i+1) _ ?_;cases m2b q (m2r l (aD steps) i)with
   | false=>exact h
   | true=>
    intro r hr;rcases aAp.1 hr with hr | hr
    ·exact h r hr
    ·rw[aAD.1 hr]
     unfold m2r wN;have hq:∀(i:aj) (k:SCl) (g w:Int) (n:cu),Pu (apm i k g w n)=n.2.2.2.1:=fun _ _ _ _ _=>rfl
     simp only[hq];generalize decide (place (ba (l.drop (13+i),3),6)=0)=c;cases c with
     | true=>rfl
     | false=>
      show af ((aD steps).getD (place (ba (l,((i:Nat):Int)),(((aD steps).length:Nat):Int))).toNat zq1).2.2.2.2.2.1=true;rw[aAm];cases hg:(aD steps)[(place (ba (l,((i:Nat):Int)),(((aD steps).length:Nat):Int))).toNat]? with
      | none=>rfl
      | some e=>exact KB (azO hg)
theorem PY(l:List Int)(steps:List iz)(i:Nat):abe (rT l (aD steps) i):=by
 have h1:(mm (l.drop (5*i),aD steps,((i:Nat):Int))).1.length=12:=PS _ _ _;have h2:(mm (l.drop (5*i),aD steps,((i:Nat):Int))).2.1.length≤2:=by
  have h:=YF (l.drop (5*i)) (aD steps) (place (ba (l.drop (5*i),12),3)).toNat 0 [];have h3:=(pl3 (ba (l.drop (5*i),12))).2;exact az0 h (by simp;omega)
 have h3:(mm (l.drop (5*i),aD steps,((i:Nat):Int))).2.2.1.length≤2:=by
  have h:=YE (l.drop (5*i)) (place (ba (l.drop (5*i),14),3)).toNat 0 [];have h3:=(pl3 (ba (l.drop (5*i),14))).2;exact az0 (aBt h) (by simp;omega)
 have hp:∀r∈(Bt l (aD steps) i).2.1,af (Pu r)=true∧0≤r.2.1∧r.2.1≤4611686018427387904:=fun r hr=>by
  have hr:r∈oH i 0 (mm (l.drop (5*i),aD steps,((i:Nat):Int))).2.1:=hr;obtain⟨j,hj⟩:=aBW.1 hr;have bO:=(azR.1 hj).1;rw[lz]at bO;have hg:=Bu i _ 0 j _ (azS bO);rw[hj]at hg;have hg:=az9 hg;refine⟨?_,?_⟩
  ·rw[hg]
   exact(PZ (l.drop (5*i)) steps (place (ba (l.drop (5*i),12),3)).toNat 0 [] (by simp) _ (aBC bO) :)
  grind
 refine⟨?_,h1,?_,?_,fun q hq=>(hp q hq).2,?_⟩
 ·simp only[ct,azF,azM,azU]
  refine⟨by show(mm (l.drop (5*i),aD steps,((i:Nat):Int))).1.length≤_;omega,fun s hs=>?_⟩;obtain⟨j,hj⟩:=aBW.1 hs;rcases Yl _ _ _ j s hj with⟨_,h⟩ | ⟨_,e,he,_,_,h⟩
  ·have:s.2.2.2.1=[]:=azT (fun n:cu=>n.2.2.2.1) h
   rw[this];rfl
  ·have:s.2.2.2.1=e.2.2.2.2.2.1:=azT (fun n:cu=>n.2.2.2.1) h
   grind[KB]
 ·simp only[ke,azF,azM,azU]
  exact⟨az0 (aBt (lz i _ 0)) (by omega),fun r hr=>(hp r hr).1⟩
 ·exact az0 (aBt (lz i _ 0)) (by omega)
 ·exact az0 (aBt (Bv _ _ i _ 0)) h3
theorem YC{l:List Int}{steps:List iz}:∀r∈cY l (aD steps),abe r:=fun r hr=>by
 simp only[cY,azW,aB4,or_false]at hr;grind[PY]
theorem PX{L:List cC}(hL:L.length≤8)(h:∀r∈L,abe r):NM L=true∧xe L=true∧∀(n:Int) (v:jf),n≤19→v.2.1.length≤8→FV (ub,n,L,v)=true:=by
 have hd:xe L=true:=by
  simp only[xe,azF,azM,azU];exact⟨by omega,fun r hr=>by have:=(h r hr).mks;omega⟩
 refine⟨?_,hd,fun n v hn hv=>?_⟩
 ·simp only[NM,azF,azM,azU]
  exact⟨by omega,fun r hr=>⟨(h r hr).sl,(h r hr).rq,by have:=(h r hr).mks;omega⟩⟩
 ·simp only[FV,FG,hd,M5,AZ,azF,azM,azU]
  exact⟨⟨trivial,fun r hr=>⟨(h r hr).sl,by have:=(h r hr).len;omega,(h r hr).rq,by have:=(h r hr).pn;omega⟩,by omega,by decide,by omega⟩,fun r hr=>⟨by have:=(h r hr).len;omega,by have:=(h r hr).pn;omega,(h r hr).op⟩,hn⟩
theorem ag7:∀(r:Nat) (a:Int) (out:List Int) (i:Nat),(aeu r (a,out,i)).length≤r+out.length:=by
 intro r;induction r with
 | zero=>grind[aeu]
 | succ r ih=>
  intro a out i;simp only[aeu];grind
theorem Yz(m:Int):(Bs m).length≤8:=by
 unfold Bs;cases decide ((bt m).length=0)with
 | true=>simp
 | false=>
  have:=ag7 4 m [] 0;simp at this;exact az0 this (by omega)
open Go.Proofs
noncomputable def asc:cX:=⟨Tryz.prog,[adI,R8,avP,Sd,ar1,adb,axx],dE [(1,([(0,[]),(2,[]),(3,[]),(5,[1]),(1,[]),(4,[]),(6,[]),(7,[])],[(9,9),(12,18)])),(8,([(0,[]),(1,[]),(2,[]),(3,[]),(4,[]),(5,[]),(6,[]),(7,[]),(8,[]),(9,[])],[(44,53)]))],54,[],[(13,tP)],[],[]⟩
def anN:Nat→LD:=eO [(0,⟨[.c 9 (.sl bl),.c 10 (.sl bl),.c 11 (zI)],[],0⟩)]
noncomputable def avn(f:Nat)(a:(List eB)×Int×(List cC)×jf):Option Bool:=aG asc anN (zK [.tmp 8] [.v .bool]) f [.code (aB Tryz.f12)] (aQ [.c (.sl tP),.c zI,.c (.sl eG),.g Jp] a)
noncomputable def al0(f:Nat)(x:(List ay)×(List ay)×Int):Option Bool:=aG asc anN (zK [.tmp 8] [.v .bool]) f (aV Tryz.f12 0) ((anN 0).mk' x)
theorem atd(f:Nat)(rs:List eB)(au:Int)(l:List cC)(v:jf):avn (f+1) (rs,au,l,v) =
  bif decide (rs.length*24≤140737488355328)then bif NM l then bif Go.Proofs.FV (rs,au,l,v)then bif FG (rs,au,l,v)then bif(↑(gi (rs,au,l,v)).length:Int) != (↑(gi (rs,au,l,v)).length:Int)then some false else bif NM l then bif xe l then bif xe l then bif af (aX l)then bif !decide (aX l=aX l)then some false else al0 f (gi (rs,au,l,v),gi (rs,au,l,v),0)else none else none else none else none else none else none else none else none:=by kernel_rfl
theorem anB(f:Nat)(x y:List ay)(i:Int):al0 (f+1) (x,y,i) =
  bif decide (i<(↑x.length:Int))then bif decide (0≤i)&&decide (i<(↑x.length:Int))then bif decide (0≤i)&&decide (i<(↑y.length:Int))then bif aiz (x.getD i.toNat ([],[],[],[],[],[]))then bif !aqD (x.getD i.toNat ([],[],[],[],[],[])) (y.getD i.toNat ([],[],[],[],[],[]))then some false else al0 f (x,y,i64.wrap (i+1))else none else none else none else some true:=by kernel_rfl
noncomputable def ain:List ay→((List ay)×(List ay)×Nat)→Bool
 | [],(x,y,i)=>true
 | uu::rest,(x,y,i)=>bif !aqD uu (y.getD (↑i:Int).toNat ([],[],[],[],[],[]))then false else ain rest (x,y,i+1)
noncomputable def ahO:List ay→((List ay)×(List ay)×Nat)→Bool
 | [],(x,y,i)=>true
 | uu::rest,(x,y,i)=>decide ((↑i:Int)<(↑y.length:Int))&&(aiz uu&&bif !aqD uu (y.getD (↑i:Int).toNat ([],[],[],[],[],[]))then true else ahO rest (x,y,i+1))
theorem arA:∀(rest x y:List ay) (i:Nat) (hd:x.drop i=rest) (hl:x.length≤1099511627776),de (fun f=>al0 f (x,y,((i:Nat):Int))) (ahO rest (x,y,i)) (ain rest (x,y,i))
 | [],x,y,i,hd,hl=>ai (fun f=>(anB f _ _ _).trans (by simp only[fA (bT hd),fW,azQ,azP,azH,azI,azX]<;>rfl)) ae
 | uu::rest,x,y,i,hd,hl=>ai (fun f=>(anB f _ _ _).trans (by simp only[cK (ak hd),bC hd,bk (ak hd) hl,bH (ak hd),fW,azQ,azP,azH,azI,azX]<;>rfl)) (aI (aI (ao ae (arA rest _ _ _ (aH hd) hl))))
noncomputable def aqs:((List eB)×Int×(List cC)×jf)→Bool
 | (rs,au,l,v)=>bif(↑(gi (rs,au,l,v)).length:Int) != (↑(gi (rs,au,l,v)).length:Int)then false else bif !decide (aX l=aX l)then false else ain (gi (rs,au,l,v)) (gi (rs,au,l,v),gi (rs,au,l,v),0)
noncomputable def ap4:((List eB)×Int×(List cC)×jf)→Bool
 | (rs,au,l,v)=>decide (rs.length*24≤140737488355328)&&(NM l&&(Go.Proofs.FV (rs,au,l,v)&&(FG (rs,au,l,v)&&bif(↑(gi (rs,au,l,v)).length:Int) != (↑(gi (rs,au,l,v)).length:Int)then true else NM l&&(xe l&&(xe l&&(af (aX l)&&bif !decide (aX l=aX l)then true else decide ((gi (rs,au,l,v)).length≤1099511627776)&&ahO (gi (rs,au,l,v)) (gi (rs,au,l,v),gi (rs,au,l,v),0)))))))
theorem asM:∀a:(List eB)×Int×(List cC)×jf,de (fun f=>avn f a) (ap4 a) (aqs a)
 | (rs,au,l,v)=>ai (fun f=>atd f _ _ _ _) (aI (aI (aI (aI (ao ae (aI (aI (aI (aI (ao ae (bL fun hh=>arA _ _ _ _ rfl (azZ hh))))))))))))
def aiA(a:List eB×Int×List cC×jf):Bool:=FV a&&NM a.2.2.1
theorem auH(y:List ay)(hy:∀t∈y,aiz t=true):∀(r:List ay) (k:Nat),y.drop k=r→ain r (y,y,k)=true∧ahO r (y,y,k)=true
 | [],k,h=>⟨rfl,rfl⟩
 | u::r,k,h=>by
  obtain⟨i1,i2⟩:=auH y hy r (k+1) (aH h);have hk:=ak h;have hg:y.getD ((k:Int)).toNat ([],[],[],[],[],[])=u:=bC h _;have hs:aqD u u=true:=by simp[aqD]
  have hu:aiz u=true:=hy u (aA2 (by rw[h];exact az1));simp only[ain,ahO,hg,hs,hu,i1,i2];grind
theorem apy:∀a,aiA a=true→ap4 a=true∧aqs a=true:=by
 rintro⟨rs,au,l,v⟩ h;simp only[aiA,azF]at h;obtain⟨hm,hc⟩:=h;have hq:FG (rs,au,l,v)=true∧M5 l=true:=by
  have h:=hm;simp only[FV,azF]at h;grind
 have hr:=hq.1;simp only[FG,azF,azM,af]at hr;have hd:=oU l hr.1;obtain⟨e1,e2⟩:=auH (gi (rs,au,l,v)) (fun t ht=>by
  obtain⟨i,hi⟩:=aBW.1 ht;exact(afu _ hm hi).sta) _ 0 rfl
 rw[List.drop_zero]at e1 e2;have hl:(gi (rs,au,l,v)).length≤1099511627776:=by
  grind[PA]
 simp only[ap4,aqs,hm,hc,hq.1,hr.1,e1,e2];rw[azC (show rs.length*24≤140737488355328 by have:=hr.2.2.2.1;omega),azC hl,show af (aX l)=true from azC (by omega)];simp
noncomputable def ayV:dn:=⟨12,[.c (.sl tP),.c zI,.c (.sl eG),.g Jp],[.v .bool],aiA,fun _=>true⟩
theorem atX:zO ayV:=fl asc anN [.tmp 8] mixed (ah adH (ah LL (ah atT (ah LO (ah apD (ah Vv (ah avA (aC)))))))) Tryz.func12 (bp asM (fun a h=>(apy a h).1) (fun a h=>(apy a h).2))
open Go.Proofs
noncomputable def avV:dn:=⟨12,[.c (.sl tP),.c zI,.rd eG,.g Jp],[.v .bool],fun a:List eB×Int×List cC×jf=>aiA a,fun _=>true⟩
theorem avU:avV.Ok Tryz.prog:=by
 suffices key:∀a:List eB×Int×List cC×jf,aiA a=true→∀vs,bY [.c (.sl tP),.c zI,.rd eG,.g Jp] a vs→EW Tryz.prog 12 vs (cf [.v .bool] (true:Bool))from key
 rintro⟨rs,n,l,v⟩ hp vs hv;obtain⟨v0,r0,rfl,h0,v1,r1,rfl,h1,v2,r2,rfl,⟨rows,rfl,h2⟩,v3,rfl,h3⟩:=(show ∃v0 r0,vs=v0::r0∧eM (.sl tP) rs v0∧∃v1 r1,r0=v1::r1∧eM (zI) n v1∧∃v2 r2,r1=v2::r2∧(∃rows,v2=.rd rows∧bD eG l rows)∧∃v3,r2=[v3]∧lZ (.g Jp) v v3 from hv);have hb:EW Tryz.prog 12 [v0,v1,.sl rows,v3] (cf [.v .bool] (true:Bool)):=atX ((rs,n,l,v):List eB×Int×List cC×jf) hp _ (⟨_,_,rfl,h0,_,_,rfl,h1,_,_,rfl,jv.2 (.inr ⟨rows,rfl,h2⟩),_,rfl,h3⟩:∃a b,[v0,v1,V.sl rows,v3]=a::b∧eM (.sl tP) rs a∧∃c d,b=c::d∧eM (zI) n c∧∃e g,d=e::g∧eM (.sl eG) l e∧∃k,g=[k]∧lZ (.g Jp) v k);exact hb.pur (Uy true) ⟨.inl rfl,.inl rfl,.inr ⟨rows,rfl,rfl⟩,.inl rfl,trivial⟩
open Go.Proofs
noncomputable def av2:cX:=zC [adP,adz,gY,Hn,adt,avV] (dE []) 53
theorem ayM:jh Tryz.prog [adP,adz,gY,Hn,adt,avV] [] []:=ah adO (ah ady (ah fk (ah E1 (ah ads (ah avU (aC))))))
def aqk:Nat→LD:=eO [(0,⟨[.c 2 (zI),.c 3 (zI),.c 4 (zI),.c 5 (zI),.list 13 999 40 20 eG,.c 14 (.sl eG),.c 15 (zI)],[],0⟩)]
noncomputable def axv(f:Nat)(a:(List Int)×(List iz)×Int×Int×Int×Int):Option Bool:=aG av2 aqk (zK [.tmp 12] [.v .bool]) f [.code (aB Tryz.f3)] (aQ [.c (.sl [zI]),.c (.sl l7),.c zI,.c zI,.c zI,.c zI] a)
noncomputable def agh(f:Nat)(x:Int×Int×Int×Int×(List cC)×(List cC)×Int):Option Bool:=aG av2 aqk (zK [.tmp 12] [.v .bool]) f (aV Tryz.f3 0) ((aqk 0).mk' x)
theorem avl(f:Nat)(l:List Int)(steps:List iz)(missing members owner au:Int):axv (f+1) (l,steps,missing,members,owner,au) =
  bif decide ((↑l.length:Int)>100)then some true else agh f (missing,members,owner,au,[],cY l (aD steps),0):=by kernel_rfl
theorem anZ(f:Nat)(missing members owner au:Int)(aqG all:List cC)(i:Int):agh (f+1) (missing,members,owner,au,aqG,all,i) =
  bif decide (i<(↑all.length:Int))then bif decide (0≤u64.wrap i)then bif place (missing.fdiv (2 ^ min (u64.wrap i).toNat i64.bits),2) == 0 then bif decide (0≤i)&&decide (i<(↑all.length:Int))then bif decide ((aqG.length+[all.getD i.toNat zq5].length)*416≤140737488355328)then agh f (missing,members,owner,au,aqG++[all.getD i.toNat zq5],all,i64.wrap (i+1))else none else none else agh f (missing,members,owner,au,aqG,all,i64.wrap (i+1))else none else bif aiA (ub,place (au,20),aqG,lq (members,owner))then some true else none:=by kernel_rfl
theorem azs:∀i:Nat,i<4→decide (0≤u64.wrap ((i:Nat):Int))=true
 | 0,_=>by decide
 | 1,_=>by decide
 | 2,_=>by decide
 | 3,_=>by decide
theorem auE(l:List Int)(steps:List iz)(mi mb ow sl:Int):∀(q i:Nat) (s0:List cC),i+q=4→(∀r∈s0,abe r)→s0.length≤i→∃f,agh f (mi,mb,ow,sl,s0,cY l (aD steps),((i:Nat):Int))=some true
 | 0,i,s0,hi,h,hl=>by
  obtain⟨p1,p2,p3⟩:=PX (L:=s0) (by omega) h;obtain⟨g1,g2⟩:=cT sl (s:=20) (by omega);have he:aiA (ub,place (sl,20),s0,lq (mb,ow))=true:=by
   simp only[aiA,azF];exact⟨p3 _ _ (by omega) (Yz mb),p1⟩
  refine⟨1,(anZ 0 _ _ _ _ _ _ _).trans ?_⟩;rw[he,azK (show ¬((i:Nat):Int)<(((cY l (aD steps)).length:Nat):Int)by show ¬((i:Nat):Int)<4;omega)];rfl
 | q+1,i,s0,hi,h,hl=>by
  have h4:i<4:=by omega
  obtain⟨r,hr⟩:∃r,(cY l (aD steps))[i]? = some r:=⟨_,azS (show i<(cY l (aD steps)).length from h4)⟩;have g1:∀d,(cY l (aD steps)).getD i d=r:=fun d=>by rw[aAm,hr];rfl
  have base:∀f,agh (f+1) (mi,mb,ow,sl,s0,cY l (aD steps),((i:Nat):Int))=bif place (mi.fdiv (2 ^ min (u64.wrap ((i:Nat):Int)).toNat i64.bits),2) == 0 then agh f (mi,mb,ow,sl,s0++[r],cY l (aD steps),((i+1:Nat):Int))else agh f (mi,mb,ow,sl,s0,cY l (aD steps),((i+1:Nat):Int)):=fun f=>by
   refine(anZ f _ _ _ _ _ _ _).trans ?_;rw[azC (show((i:Nat):Int)<(((cY l (aD steps)).length:Nat):Int)by show((i:Nat):Int)<4;omega),azs i h4,azC (show(0:Int)≤((i:Nat):Int)by omega),az (n:=((i:Nat):Int)+1) (by omega) (by omega)];grind
  cases hb:place (mi.fdiv (2 ^ min (u64.wrap ((i:Nat):Int)).toNat i64.bits),2) == 0 with
  | true=>
   obtain⟨f,hf⟩:=auE l steps mi mb ow sl q (i+1) (s0++[r]) (by omega) (fun x hx=>by
    rcases aAp.1 hx with hx | hx
    ·exact h x hx
    ·rw[aAD.1 hx];exact YC r (azO hr)) (by simp;omega)
   grind
  | false=>
   obtain⟨f,hf⟩:=auE l steps mi mb ow sl q (i+1) s0 (by omega) h (by omega);grind
theorem auD:∀a:List Int×List iz×Int×Int×Int×Int,∃f,axv f a=some true:=by
 rintro⟨l,steps,mi,mb,ow,sl⟩;obtain⟨f,hf⟩:=auE l steps mi mb ow sl 4 0 [] rfl (by simp) (by simp);refine⟨f+1,(avl f l steps mi mb ow sl).trans ?_⟩;grind
theorem awt:∀a:dA [.rd [zI],.rd l7,.c zI,.c zI,.c zI,.c zI],yD [.rd [zI],.rd l7,.c zI,.c zI,.c zI,.c zI] a→∀vs,bY [.rd [zI],.rd l7,.c zI,.c zI,.c zI,.c zI] a vs→EW Tryz.prog 3 vs (cf [.v .bool] (true:Bool)):=by
 suffices key:∀a:List Int×List iz×Int×Int×Int×Int,∀vs,bY [.rd [zI],.rd l7,.c zI,.c zI,.c zI,.c zI] a vs→EW Tryz.prog 3 vs (cf [.v .bool] (true:Bool))from fun a _=>key a
 rintro⟨l,s,x0,x1,x2,x3⟩ vs hv;obtain⟨v0,r0,rfl,⟨Pv,rfl,h0⟩,v1,r1,rfl,⟨DW,rfl,h1⟩,v2,r2,rfl,h2,v3,r3,rfl,h3,v4,r4,rfl,h4,v5,rfl,h5⟩:=(show ∃v0 r0,vs=v0::r0∧(∃rows,v0=.rd rows∧bD [zI] l rows)∧∃v1 r1,r0=v1::r1∧(∃rows,v1=.rd rows∧bD l7 s rows)∧∃v2 r2,r1=v2::r2∧lZ (.c zI) x0 v2∧∃v3 r3,r2=v3::r3∧lZ (.c zI) x1 v3∧∃v4 r4,r3=v4::r4∧lZ (.c zI) x2 v4∧∃v5,r4=[v5]∧lZ (.c zI) x3 v5 from hv);have hb:EW Tryz.prog 3 [.sl Pv,.sl DW,v2,v3,v4,v5] (cf [.v .bool] (true:Bool)):=(auD (l,s,x0,x1,x2,x3)).elim fun f h=>iI (C:=av2) (Lt:=aqk) (fn:=Tryz.f3) (rs:=[.tmp 12]) [.c (.sl [zI]),.c (.sl l7),.c zI,.c zI,.c zI,.c zI] [.v .bool] mixed ayM Tryz.func3 rfl rfl rfl (by kernel_rfl) (by kernel_rfl) (a:=((l,s,x0,x1,x2,x3):List Int×List iz×Int×Int×Int×Int)) f h _ (⟨_,_,rfl,jv.2 (.inr ⟨Pv,rfl,h0⟩),_,_,rfl,jv.2 (.inr ⟨DW,rfl,h1⟩),_,_,rfl,h2,_,_,rfl,h3,_,_,rfl,h4,_,rfl,h5⟩:∃v0 r0,[V.sl Pv,V.sl DW,v2,v3,v4,v5]=v0::r0∧eM (.sl [zI]) l v0∧∃v1 r1,r0=v1::r1∧eM (.sl l7) s v1∧∃v2 r2,r1=v2::r2∧lZ (.c zI) x0 v2∧∃v3 r3,r2=v3::r3∧lZ (.c zI) x1 v3∧∃v4 r4,r3=v4::r4∧lZ (.c zI) x2 v4∧∃v5,r4=[v5]∧lZ (.c zI) x3 v5)
 exact hb.pur (Uy true) ⟨.inr ⟨Pv,rfl,rfl⟩,.inr ⟨DW,rfl,rfl⟩,.inl rfl,.inl rfl,.inl rfl,.inl rfl,trivial⟩
end Go.AL
namespace Go.Proofs.YtfggefeflojnkaaGreat
open Go.AL
theorem Tryz.own:ownKnob Tryz.prog.godebug=none:=by kernel_rfl
theorem Tryz.laidOut:laidOutB Tryz.prog=true:=by kernel_rfl
open Go.ChangeShapes Go.WideShapes Go.ChangeAt Go.RowKit
set_option maxRecDepth 100000 in
theorem aiK(os:Os)(started:os.Started)(H:Type)(enc:TypeId×Value→H):
  ReturnsInHanded {} Tryz.checked os 3 .any (Rows.mergeExactSpec.pre6 enc Tryz.prog Tryz.f3 Rows.mergeExactRow.domain false) (Rows.mergeExactSpec.post enc Tryz.prog Tryz.f3 false true false false):=by
 refine returnsInHanded_of_change (C:=Tryz.checked) Tryz.own started (by kernel_rfl) Tryz.func3
  (ChangeSpec.witness6 (enc:=enc) (C:=Tryz.checked) false ⟨#[],#[.slice none 0 0,.slice none 0 0,.int .i64 0,.int .i64 0,.int .i64 0,.int .i64 0],[]⟩ 8 (by kernel_rfl) (by kernel_rfl) (by kernel_rfl) (by kernel_rfl)) ?_
 intro W base args ds gs before uJ hW ax7 _;refine TG (P:=Tryz.prog) (pts:=[22,23,3,3,3,3]) (tb:=4) [.rd [zI],.rd l7,.c zI,.c zI,.c zI,.c zI] (by kernel_rfl) (by kernel_rfl) Tryz.laidOut (by kernel_rfl) (by kernel_rfl) (by kernel_rfl) rfl ?_ awt W base args ds gs before uJ hW;intro ds hds
 match ds,hds with
 | [d0,d1,d2,d3,d4,d5],_=>exact⟨rfl,rfl,rfl⟩
theorem mergeExact_holds:Rows.MergeExactSaid:=
 OpenClaim.holds_of_wide 3 Tryz.f3 rfl rfl rfl rfl rfl rfl rfl ⟨rfl,rfl,rfl,rfl,rfl⟩ rfl rfl rfl rfl rfl (by kernel_rfl) Tryz.func3 (by kernel_rfl)
  (azZ (by kernel_rfl)) (by unfold Func.isWrapper;first | (rw[azE (by decide +kernel)];kernel_rfl) | (rw[azD (by decide +kernel)];exact⟨rfl,rfl⟩))
  (fun os started H enc _=>aiK os started H enc)
end Go.Proofs.YtfggefeflojnkaaGreat
