/- AI. -/
import Derived.Test.YtfggefeflojnkaaGreatZ16b
set_option linter.unusedSimpArgs false
set_option linter.unusedVariables false
set_option linter.unusedSectionVars false
namespace Go.AL
open Go.Proofs Go.RowKit
variable [ZA]
attribute [local go_sem] Oper.semAt_some
set_option maxRecDepth 100000 in
set_option maxHeartbeats 4000000 in
theorem Zm.lp0{ee:Act→World→Prop}(w w3:World)(G n:Nat)(rs:List eB)(au:Int)(ab:List cC)(v:jf)(ur:Value)(ma da:Option Addr)(mc dc:Nat){c0 c3 c4 c5 c6 c7 c8 Gz zb yb zY zX Cx za Gy Gx zW zV ya Cw Cv Cu xZ yZ yY yX yW yV yU zU zT zS zR zQ zP zN zM zL zJ zH DC DB DA Ct Cs Cr Cq Cp Co Cn Cm Ck Cj Ci Ch Cg Cf Ce Cd Cc Cb zG yT yS yR yQ Dd Dc zF zD Io Im Il Ik Ij Ii Ih Ig Ie Ic Gw Gv Gu Gt Gs Gr Gq EM EL EK K0 KZ Gp mX mW mV mU mT mS mR mQ mP mO lJ pZ pY pX mN mM mL mK mJ se sd rZ nR nQ nP nO nN nL nJ nH nG nF tf te td pW pV pU pT pS pR pQ pP pO pM pL pJ pI pH pG pF pE pD pC pB pA pz pw pv pk pj ph pg pf pe pd pb o9 o8 o7 o6 o5 oZ oY oX oW oV nE mI mH mG mF mE mD mC lI:Value}
  (L3:Cl w ZA.A (.sl eG) ab ur) (hpm:Cl w gl (.sl [zI]) v.2.1 (.slice ma n mc)) (hN:v.2.1.length=n) (hp:FG (rs,au,ab,v)=true) (hB:Below w.heap.size w w3) (Kd:w.heap.size≤G) (hG3:G<w3.heap.size)
  (hd:Cl w3 (ef G) (.sl aE) (aX ab) (.slice da ((aX ab).length:Nat) dc)) (hL0:Zm.L1 w3 w3 G G n (ig au ab (aX ab)) v.2.1 0)
  (ej:∀(u11 u12 u14 u15 u35 u36 u37 u38 u39 u40 u41 u42 u43 u44 u45 u46 u47 u48 u49 u50 u51 u52 u53 u54 u55 u56 u57 u58 u59 u60 u61 u62 u63 u64 u65 u66 u67 u68 u69 u70 u71 u72 u73 u74 u75 u76 u77 u78 u79 u80 u81 u82 u83 u84 u85 u86 u87 u88 u89 u90 u91 u92 u93:Value) (w':World),Zm.R1 w3 w' G n (ig au ab (aX ab)) v.2.1 n→ee ⟨List.toArray (c0::.int .i64 au::ur::c3::c4::c5::c6::c7::c8::.slice da ((aX ab).length:Nat) dc::.slice (some ⟨G,0,none⟩) n n::u11::u12::yb::u14::u15::Cx::za::Gy::Gx::zW::zV::ya::Cw::Cv::Cu::xZ::yZ::yY::yX::yW::yV::yU::.slice ma n mc::.int .i64 (n:Int)::u35::u36::u37::u38::u39::u40::u41::u42::u43::u44::u45::u46::u47::u48::u49::u50::u51::u52::u53::u54::u55::u56::u57::u58::u59::u60::u61::u62::u63::u64::u65::u66::u67::u68::u69::u70::u71::u72::u73::u74::u75::u76::u77::u78::u79::u80::u81::u82::u83::u84::u85::u86::u87::u88::u89::u90::u91::u92::u93::EM::EL::EK::K0::KZ::Gp::mX::mW::mV::mU::mT::mS::mR::mQ::mP::mO::lJ::pZ::pY::pX::mN::mM::mL::mK::mJ::se::sd::rZ::nR::nQ::nP::nO::nN::nL::nJ::nH::nG::nF::tf::te::td::pW::pV::pU::pT::pS::pR::pQ::pP::pO::pM::pL::pJ::pI::pH::pG::pF::pE::pD::pC::pB::pA::pz::pw::pv::pk::pj::ph::pg::pf::pe::pd::pb::o9::o8::o7::o6::o5::oZ::oY::oX::oW::oV::nE::mI::mH::mG::mF::mE::mD::mC::lI::[]),[]⟩ w') :
  Code.wp Tryz.prog (Zm.blk 0) (Zm.Qx 0 ee) ⟨List.toArray (c0::.int .i64 au::ur::c3::c4::c5::c6::c7::c8::.slice da ((aX ab).length:Nat) dc::.slice (some ⟨G,0,none⟩) n n::Gz::zb::yb::zY::zX::Cx::za::Gy::Gx::zW::zV::ya::Cw::Cv::Cu::xZ::yZ::yY::yX::yW::yV::yU::.slice ma n mc::.int .i64 (n:Int)::.int .i64 0::zU::zT::zS::zR::zQ::zP::zN::zM::zL::zJ::zH::DC::DB::DA::Ct::Cs::Cr::Cq::Cp::Co::Cn::Cm::Ck::Cj::Ci::Ch::Cg::Cf::Ce::Cd::Cc::Cb::zG::yT::yS::yR::yQ::Dd::Dc::zF::zD::Io::Im::Il::Ik::Ij::Ii::Ih::Ig::Ie::Ic::Gw::Gv::Gu::Gt::Gs::Gr::Gq::EM::EL::EK::K0::KZ::Gp::mX::mW::mV::mU::mT::mS::mR::mQ::mP::mO::lJ::pZ::pY::pX::mN::mM::mL::mK::mJ::se::sd::rZ::nR::nQ::nP::nO::nN::nL::nJ::nH::nG::nF::tf::te::td::pW::pV::pU::pT::pS::pR::pQ::pP::pO::pM::pL::pJ::pI::pH::pG::pF::pE::pD::pC::pB::pA::pz::pw::pv::pk::pj::ph::pg::pf::pe::pd::pb::o9::o8::o7::o6::o5::oZ::oY::oX::oW::oV::nE::mI::mH::mG::mF::mE::mD::mC::lI::[]),[]⟩ w3:=by
 conv=>arg 2;whnf
 have yL:=Tryz.underlying61;have uK:=Tryz.underlying38;have Nf:=Tryz.underlying36;have TP:=Tryz.underlying48;simp only[FG,azF,azM]at hp;have HQ:=Hw.bf hp;have HP:=Hw.bf (And.intro L3 hpm);have HW:=Hw.bf (And.intro hB hd);have HN:=Hw.bf hN;have HO:=Hw.bf (show Zm.R1 w3 w3 G n (ig au ab (aX ab)) v.2.1 0 from⟨hL0,fun i hi=>absurd hi (Nat.not_lt_zero i)⟩);have gq:n≤1000:=by have:=hp.2.2.2.2;omega
 clear L3 hpm hB hd hN hp hL0
 go_loopw [35] (fun i wr=>∃k:Nat,k≤n∧i=.int .i64 (k:Int)∧Zm.R1 w3 wr G n (ig au ab (aX ab)) v.2.1 k) (fun i _=>n-(RowKit.intOf i).toNat)
 case atStart=>exact⟨0,aAu _,rfl,HO.out⟩
 case round=>
  obtain⟨k,hk,rfl,⟨bm,eU⟩,hnl⟩:=hrel;clear HO;have hGr:G<wr.heap.size:=az3 hG3 bm.size;have hBw:Below w.heap.size w wr:=by
   have h:=HW.out.1;exact⟨bm.os.trans h.os,bm.tape.trans h.tape,bm.output.trans h.output,az0 h.size bm.size,fun b hb=>(bm.block b (by have:=h.size;omega) (by omega)).trans (h.block b hb)⟩
  by_cases bO:k<n
  ·have wV:(k:Int)<(n:Int):=by omega
   have Kl:(0:Int)≤(k:Int):=by omega
   clear ej;obtain⟨core,En⟩:∃r,v.2.1[k]? = some r:=⟨_,azS (by have:=HN.out;omega)⟩;obtain⟨b,off,c,hv,hb,hc⟩:=FZ (cH.1 HP.out.2) En;have hn:=HN.out;rw[hn]at hv;obtain⟨rfl,-,rfl⟩:=Value.slice.inj hv;have hcr:wr.cell? ⟨b,off+k,none⟩=some (.int .i64 core):=(hBw.cell (p:=⟨b,off+k,none⟩) hb).trans hc;have hlen:((v.2.1.take k).map (ig au ab (aX ab))++List.replicate (n-k) wx).length=n:=by simp[hn];omega
   have F2:SM (core,au,ab)=true:=by
    obtain⟨q1,q2,q3,q4,q5⟩:=HQ.out;simp only[xe,azF,azM]at q1;simp only[SM,azF,azM];exact⟨q3,q1.1,q2⟩
   have HS:=Hw.bf (Zq.aoK eU (i:=k) (by rw[hlen];exact bO) core au F2 (HP.out.1.up Kd hBw));obtain⟨wi,hwi⟩:∃z:World,z=wr:=⟨_,rfl⟩;have hL:=And.intro bm (And.intro eU (And.intro hlen En));rw[← hwi]at hL hnl;have HL:=Hw.bf hL;have HNl:=Hw.bf hnl;have aqd:(Tryz.prog.info? 38).map (·.size)=some 6:=by kernel_rfl
   clear bm eU hlen En hc hv F2 hn hL hnl
   go_wp2_with (first
    | (go_at_call 53;refine HS.out.mono ?_;rintro en w4 ⟨us,q,p1,rfl,hl6,Qn,ZF,⟨qa0,qn0,qc0,rfl⟩,Y4,hZ⟩)
    | (refine Zm.aj6 rfl 38 (.tmp 46) (.tmp 45) rfl rfl rfl (n:=6) hl6 aqd Y4 Qn rfl ?_))
   obtain⟨w4',hw4⟩:∃z:World,z=w4.setCells G (k*6) us:=⟨_,rfl⟩;rw[← hw4]at hZ ⊢;obtain⟨ps,hps⟩:∃ps:List Value,ps=[p1,.slice none 0 0,.slice none 0 0,.slice none 0 0,.slice none 0 0]:=⟨_,rfl⟩;rw[← hwi,← hps]at hZ;have HZ:=Hw.bf hZ;have HPS:=Hw.bf hps;clear hwi hZ HS Y4 hcr aqd hw4 hps;have Y7:ct (dp (core,au,ab)).1=true:=akh HQ.out.2.2.1 HQ.out.2.1 core;have alK:=Js (core,au,ab);have hfk:ig au ab (aX ab) core=((oe (dp (core,au,ab)).1 (aX ab)).map nY,(dp (core,au,ab)).2.1,[],[],[],aX ab):=rfl;generalize hsr:dp (core,au,ab)=sr at HZ Y7 alK hfk;have HT:=Hw.bf (And.intro alK hfk);clear hsr alK hfk;refine Zm.use (Zm.lp2 w3 wi w4' G n k ab da qa0 dc qn0 qc0 sr ps bO gq (oU _ HQ.out.1) HL.out.1 HW.out.2 Y7 HZ.out ?_);intro u14 u49 u50 u51 u52 u53 u54 u55 u56 u57 u58 u59 u60 u61 u62 u63 u64 u65 u66 u67 w5 qa qn qc aO hZ5;clear HZ;generalize wU:oe sr.1 (aX ab)=l1 at hZ5 aO;have hqn:qn=List.length (α:=aL) l1:=hZ5.own.asV;subst hqn;have ap7:l1.length≤68719476736:=fD aO;have g0:w5.cell? ⟨G,k*6,none⟩=some (.slice qa (l1.length:Nat) qc):=(hZ5.rc.cell (j:=0) rfl).1;have HZ5:=Hw.bf (show Zq wi w5 G k l1 sr (.slice qa (l1.length:Nat) qc) ps from hZ5);have HL1:=Hw.bf wU;clear hZ5 aO wU Y7;go_wp2;refine Zm.use (Zm.lp4 wi w5 G n k l1 qa qc sr ps bO gq ap7 HZ5.out ?_);intro u15 u74 u75 u76 u77 u78 u79 u80 u81 u82 u83 u84 u85 u86 w6 hZ6;have HF:=Hw.bf hZ6;have rX:Cl w6 (ef G) (.sl aE) (aX ab) _:=HW.out.2.ev (HL.out.1.tr hZ6.rc.1) (fun _ _ h=>.inr h) (fun _ _ h=>h)
   have HC:=Hw.bf (Zm.cln hZ6.gr rX (oU _ HQ.out.1));have hgr:=hZ6.gr;clear hZ6 rX g0 HZ5
   go_wp2_with (go_at_call 55;refine HC.out.mono ?_;rintro en w7 ⟨r7,rfl,hr7,tM,ho7,⟨a7,n7,c7,rfl⟩⟩;obtain⟨e7,f7⟩:=(HF.out.low tM).rc.there 5 (by omega);obtain⟨v7,e7⟩:=aA1.1 e7)
   have hZ7:=HF.out.low tM;refine⟨⟨k+1,by omega,by congr 1,Zm.ahx (x:=(l1.map nY,sr.2.1,sr.2.2.1,sr.2.2.2.1,sr.2.2.2.2.1,aX ab)) (Ev.st (X:=fun b=>b=G) (HL.out.1.tr hZ7.rc.1) G _ _ (.inl rfl)) (HF.out.fin tM hr7 HL.out.2.1 (by have:=HL.out.2.2.1;omega)) ?_ HN.out bO HL.out.2.2.2,?_⟩,by simp[RowKit.intOf];omega⟩
   ·rw[HT.out.2,HT.out.1,HL1.out]
   ·rw[HPS.out]at hZ7
    exact Zm.Nl.step hZ7 HNl.out
  ·obtain rfl:k=n:=by omega
   have wV:¬ (k:Int)<(k:Int):=by omega
   have HF:=Hw.bf (show Zm.R1 w3 wr G k (ig au ab (aX ab)) v.2.1 k from⟨⟨bm,eU⟩,hnl⟩);clear bm eU hnl;go_wp2;exact⟨rfl,ej _ _ _ _ _ _ _ _ _ _ _ _ _ _ _ _ _ _ _ _ _ _ _ _ _ _ _ _ _ _ _ _ _ _ _ _ _ _ _ _ _ _ _ _ _ _ _ _ _ _ _ _ _ _ _ _ _ _ _ _ _ _ _ _ HF.out⟩
end Go.AL
namespace Go.AL
open Go.Proofs Go.RowKit
variable [ZA]
structure Zm.OkS (s:ay):Prop where
 sl:ct s.1=true
 pn:s.2.1.length≤19
 op:∀r∈s.2.1,0≤r.2.1∧r.2.1≤4611686018427387904
 an:s.2.2.2.1=[]
structure Zm.I6 (w4 wr:World) (G n k:Nat) (g:ay→ay) (bM:List ay):Prop where
 ev:Ev w4 wr (fun b=>b=G)
 own:aR wr (ef G) G 38 6 bl (Kz (α:=ay) g bM k) (.slice (some ⟨G,0,none⟩) n n)
 nl3:∀i,k≤i→i<n→wr.cell? ⟨G,i*6+3,none⟩=some (.slice none 0 0)
 nl4:∀i,i<n→wr.cell? ⟨G,i*6+4,none⟩=some (.slice none 0 0)
section
variable {w4 wr W:World} {G n k:Nat} {g:ay→ay} {bM:List ay}
theorem Zm.I6.low(h:Zm.I6 w4 wr G n k g bM)(hG:G<wr.heap.size)(hb:Below wr.heap.size wr W):Zm.I6 w4 W G n k g bM:=
 ⟨h.ev.tr (et hb _),h.own.ev (et hb (fun _=>False)) (fun _ _ h=>h.elim) (fun _ _ h=>h) (fun _ _ h=>h),fun i h1 h2=>(hb.cell (p:=⟨G,i*6+3,none⟩) hG).trans (h.nl3 i h1 h2),fun i h2=>(hb.cell (p:=⟨G,i*6+4,none⟩) hG).trans (h.nl4 i h2)⟩
theorem Zm.I6.gr(h:Zm.I6 w4 wr G n k g bM):G<wr.heap.size:=(h.own.lt (g:=G) rfl).2
theorem Zm.I6.call(h:Zm.I6 w4 wr G n k g bM)(hn:bM.length=n)(hk:k<n)(hs:∀s∈bM,Zm.OkS s)(d:List aj)(ud:Value)(hd:Cl w4 (ef G) (.sl aE) d ud)(hdl:d.length≤1000000)(m:List Int)(um:Value)(hm:Cl w4 (ef G) (.sl [zI]) m um)(Qi:m.length≤1000000)
  (rm:Nat) (ids:List aj) (hM:Yh.M w4 rm ids) (hr:rm ≠ G) (hg:g=vq (fun x=>decide (x∈ids)) d m) :
  Calls Tryz.prog 57 #[.pointer (some ⟨G,k*6,none⟩),ud,.map (some rm),um] wr (fun en w'=>en=.returned (.tuple #[])∧Zm.I6 w4 w' G n (k+1) g bM):=by
 obtain⟨s,hsk⟩:∃s,bM[k]? = some s:=⟨_,azS (by omega)⟩;have hx:=ZJ g hsk;have aO:=hs s (azO hsk);obtain⟨cur,h1,h2,h3,h4,h5,h6,h7⟩:=h.own.at;obtain⟨us,u1,u2,u3⟩:=h7 k s hx;obtain⟨p0,p1,p2,p3,p4,p5,rfl,q0,q1,q2,q3,q4,q5⟩:=jt u1;have e0:cur[k*6]? = some p0:=u3 0 _ rfl;have e1:cur[k*6+1]? = some p1:=u3 1 _ rfl;have e2:cur[k*6+2]? = some p2:=u3 2 _ rfl;have e4:cur[k*6+4]? = some p4:=u3 4 _ rfl;have e5:cur[k*6+5]? = some p5:=u3 5 _ rfl;have e3:cur[k*6+3]? = some (.slice none 0 0):=by rw[← h1.cell];exact h.nl3 k (azJ _) hk
 have hfl:=Qs g bM k;have at6:List.length (α:=aA bl) (Kz g bM k)=n:=hfl.trans hn;have dO:k*6+6≤cur.size:=by rw[h2];omega
 have hMr:Yh.M wr rm ids:=hM.frame (by
  obtain⟨es,c,hmm,_⟩:=hM;exact h.ev.block rm (aAP.1 hmm).1 hr)
 refine(Za.calls wr G (k*6) cur h1 s.1 p0 e0 q0 s.2.1 p1 e1 q1 e3 d ud (hd.ev h.ev (fun _ _ h=>.inr h) (fun _ _ h=>h)) hdl m um (hm.ev h.ev (fun _ _ h=>.inr h) (fun _ _ h=>h)) Qi rm ids hMr aO.sl aO.pn aO.op).mono fun en w' hP=>?_
 obtain⟨rfl,vs,vl,va,bm,hG',c0,c1,c3⟩:=hP;refine⟨rfl,h.ev.tr bm,?_,fun i hi1 hi2=>?_,fun i hi2=>?_⟩
 ·have VV:Rc wr w' G k 6 38 [vs,vl,p2,va,p4,p5]:=by
   refine⟨bm,cur,_,h1,hG',by simp,rfl,by simpa using dO,fun m hm=>?_,fun j v hv=>?_⟩
   ·rw[aAj,azD (by omega),aAj,azD (by omega),aAj,azD (by omega)]
   ·have hj:j<6:=by grind
    simp only[aAj,aBY]
    match j,hj,hv with
    | 0,_,hv=>rw[azD (by omega),azE (by omega),azE (by omega)];simpa using hv
    | 1,_,hv=>rw[azE (by omega),azE (by omega)];simpa using hv
    | 2,_,hv=>rw[azD (by omega),azD (by omega),azD (by omega),e2];simpa using hv
    | 3,_,hv=>rw[azD (by omega),azD (by omega),azE (by omega),azE (by omega)];simpa using hv
    | 4,_,hv=>rw[azD (by omega),azD (by omega),azD (by omega),e4];simpa using hv
    | 5,_,hv=>rw[azD (by omega),azD (by omega),azD (by omega),e5];simpa using hv
  have aK:Rw w' (ef G) bl (g s) [vs,vl,p2,va,p4,p5]:=by
   have:=kJ (x:=((sf (fun x=>decide (x∈ids)) d m s.1 s.2.1 s.1 [] []).1,(sf (fun x=>decide (x∈ids)) d m s.1 s.2.1 s.1 [] []).2.1,s.2.2.1,ca uB (sf (fun x=>decide (x∈ids)) d m s.1 s.2.1 s.1 [] []).2.2,s.2.2.2.2)) c0 c1 (q2.ev bm (fun _ _ h=>.inr h) (fun _ _ h=>h)) c3 (q4.ev bm (fun _ _ h=>.inr h) (fun _ _ h=>h)) (q5.ev bm (fun _ _ h=>.inr h) (fun _ _ h=>h));rw[hg];unfold vq;rw[aO.an];exact this
  have:=VV.fin h.own (show k<List.length (α:=aA bl) (Kz g bM k)by omega) aK;rw[← Qr g hsk];exact this
 ·rw[hG'.cell,aAj,azD (by omega),aAj,azD (by omega),aAj,azD (by omega),← h1.cell]
  exact h.nl3 i (by omega) hi2
 ·rw[hG'.cell,aAj,azD (by omega),aAj,azD (by omega),aAj,azD (by omega),← h1.cell]
  exact h.nl4 i hi2
end
end Go.AL
namespace Go.AL
open Go.Proofs Go.RowKit
variable [ZA]
attribute [local go_sem] Oper.semAt_some
set_option maxRecDepth 100000 in
set_option maxHeartbeats 4000000 in
theorem Zm.lp6{ee:Act→World→Prop}(w4:World)(B7 G n rm:Nat)(g:ay→ay)(bM:List ay)(ids d:List aj)(ms:List Int)(ud:Value)(ma:Option Addr)(mc:Nat){c0 c1 c2 c3 c4 c5 c6 c8 Gz zb yb zY zX za Gy Gx zW zV ya Cw Cv Cu xZ yZ yY yX yW yV yU Dg Df De zU zT zS zR zQ zP zN zM zL zJ zH DC DB DA Ct Cs Cr Cq Cp Co Cn Cm Ck Cj Ci Ch Cg Cf Ce Cd Cc Cb zG yT yS yR yQ Dd Dc zF zD Io Im Il Ik Ij Ii Ih Ig Ie Ic Gw Gv Gu Gt Gs Gr Gq EM EL EK Gp mX mW mV mU mT mS mR mQ mP mO lJ pZ pY pX mN mM mL mK mJ se sd rZ nR nQ nP nO nN nL nJ nH nG nF tf te td pW pV pU pT pS pR pQ pP pO pM pL pJ pI pH pG pF pE pD pC pB pA pz pw pv pk pj ph pg pf pe pd pb o9 o8 o7 o6 o5 oZ oY oX oW oV nE mI mH mG mF mE mD mC lI:Value}(hn:bM.length=n)(gq:n≤1000)
  (h0:Zm.I6 w4 w4 G n 0 g bM) (hs:∀s∈bM,Zm.OkS s) (hd:Cl w4 (ef G) (.sl aE) d ud) (hdl:d.length≤1000000) (hm:Cl w4 (ef G) (.sl [zI]) ms (.slice ma n mc)) (Qi:ms.length≤1000000)
  (hM:Yh.M w4 rm ids) (hr:rm ≠ G) (hg:g=vq (fun x=>decide (x∈ids)) d ms) (hB:B7<w4.heap.size) (tM:B7 ≠ G) (ec1:w4.cell? ⟨B7,1,none⟩=some (.slice ma n mc))
  (ej:∀(u17 u98 u99 aoH aoG aoF aoE aoD aoC aoB aoA aoz aoy:Value) (w':World),Zm.I6 w4 w' G n n g bM→ee ⟨List.toArray (c0::c1::c2::c3::c4::c5::c6::.pointer (some ⟨B7,0,none⟩)::c8::ud::.slice (some ⟨G,0,none⟩) n n::Gz::zb::yb::zY::zX::.map (some rm)::u17::Gy::Gx::zW::zV::ya::Cw::Cv::Cu::xZ::yZ::yY::yX::yW::yV::yU::Dg::Df::De::zU::zT::zS::zR::zQ::zP::zN::zM::zL::zJ::zH::DC::DB::DA::Ct::Cs::Cr::Cq::Cp::Co::Cn::Cm::Ck::Cj::Ci::Ch::Cg::Cf::Ce::Cd::Cc::Cb::zG::yT::yS::yR::yQ::Dd::Dc::zF::zD::Io::Im::Il::Ik::Ij::Ii::Ih::Ig::Ie::Ic::Gw::Gv::Gu::Gt::Gs::Gr::Gq::EM::EL::EK::.int .i64 (n:Int)::u98::u99::aoH::aoG::aoF::aoE::aoD::aoC::aoB::aoA::aoz::aoy::lJ::pZ::pY::pX::mN::mM::mL::mK::mJ::se::sd::rZ::nR::nQ::nP::nO::nN::nL::nJ::nH::nG::nF::tf::te::td::pW::pV::pU::pT::pS::pR::pQ::pP::pO::pM::pL::pJ::pI::pH::pG::pF::pE::pD::pC::pB::pA::pz::pw::pv::pk::pj::ph::pg::pf::pe::pd::pb::o9::o8::o7::o6::o5::oZ::oY::oX::oW::oV::nE::mI::mH::mG::mF::mE::mD::mC::lI::[]),[]⟩ w') :
  Code.wp Tryz.prog (Zm.blk 6) (Zm.Qx 6 ee) ⟨List.toArray (c0::c1::c2::c3::c4::c5::c6::.pointer (some ⟨B7,0,none⟩)::c8::ud::.slice (some ⟨G,0,none⟩) n n::Gz::zb::yb::zY::zX::.map (some rm)::za::Gy::Gx::zW::zV::ya::Cw::Cv::Cu::xZ::yZ::yY::yX::yW::yV::yU::Dg::Df::De::zU::zT::zS::zR::zQ::zP::zN::zM::zL::zJ::zH::DC::DB::DA::Ct::Cs::Cr::Cq::Cp::Co::Cn::Cm::Ck::Cj::Ci::Ch::Cg::Cf::Ce::Cd::Cc::Cb::zG::yT::yS::yR::yQ::Dd::Dc::zF::zD::Io::Im::Il::Ik::Ij::Ii::Ih::Ig::Ie::Ic::Gw::Gv::Gu::Gt::Gs::Gr::Gq::EM::EL::EK::.int .i64 (n:Int)::.int .i64 0::Gp::mX::mW::mV::mU::mT::mS::mR::mQ::mP::mO::lJ::pZ::pY::pX::mN::mM::mL::mK::mJ::se::sd::rZ::nR::nQ::nP::nO::nN::nL::nJ::nH::nG::nF::tf::te::td::pW::pV::pU::pT::pS::pR::pQ::pP::pO::pM::pL::pJ::pI::pH::pG::pF::pE::pD::pC::pB::pA::pz::pw::pv::pk::pj::ph::pg::pf::pe::pd::pb::o9::o8::o7::o6::o5::oZ::oY::oX::oW::oV::nE::mI::mH::mG::mF::mE::mD::mC::lI::[]),[]⟩ w4:=by
 conv=>arg 2;whnf
 have yL:=Tryz.underlying61;have uK:=Tryz.underlying38;have YZ:=Tryz.underlying30;have HH:=Hw.bf h0;have HC:=Hw.bf (fun(k:Nat) (wr:World) (hk:k<n) (h:Zm.I6 w4 wr G n k g bM)=>h.call hn hk hs d ud hd hdl ms (.slice ma n mc) hm Qi rm ids hM hr hg);clear h0 hs hd hm hM hg hn
 go_loopw [98] (fun i wr=>∃k:Nat,k≤n∧i=.int .i64 (k:Int)∧Zm.I6 w4 wr G n k g bM) (fun i _=>n-(RowKit.intOf i).toNat)
 case atStart=>exact⟨0,aAu _,rfl,HH.out⟩
 case round=>
  obtain⟨k,hk,rfl,hI⟩:=hrel;clear HH;by_cases bO:k<n
  ·have wV:(k:Int)<(n:Int):=by omega
   have Kl:(0:Int)≤(k:Int):=by omega
   clear ej;have c1r:wr.cell? ⟨B7,1,none⟩=some (.slice ma n mc):=(hI.ev.cell hB tM).trans ec1;have HS:=Hw.bf (HC.out k wr.drew bO (hI.low hI.gr (Below.refl _ _).drew));clear hI;go_wp2
   go_region_with ((go_at_call 57;refine HS.out.mono ?_;rintro en w5 ⟨rfl,hI5⟩))
   all_goals go_wp2
   all_goals exact⟨⟨k+1,by omega,by congr 1,hI5⟩,by simp[RowKit.intOf];omega⟩
  ·obtain rfl:k=n:=by omega
   have wV:¬ (k:Int)<(k:Int):=by omega
   have HF:=Hw.bf hI;clear hI;go_wp2;exact⟨rfl,ej _ _ _ _ _ _ _ _ _ _ _ _ _ _ HF.out⟩
end Go.AL
