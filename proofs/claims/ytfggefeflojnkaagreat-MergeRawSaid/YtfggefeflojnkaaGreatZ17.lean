/- By an AI agent. -/
import Derived.Test.YtfggefeflojnkaaGreatZ16a
set_option linter.unusedVariables false
namespace Go.AL
open Go.Proofs Go.RowKit
variable [ZA]
attribute [local go_sem] Oper.semAt_some
set_option maxRecDepth 100000 in
set_option maxHeartbeats 4000000 in
theorem Zm.lp4{fv:Act→World→Prop}(wi w5:World)(G n k:Nat)(l1:List ax)(qa:Option Addr)(qc:Nat)(sr:ao)(ps:List Value){c0 c1 c2 c3 c4 c5 c6 c7 c8 c9 Gl El IN IM Lg Gk Vo Vn IL IK Ek Lf Le Ld Ej Ei Eh Eg Ef Ee Ed Lc Lb La Gj Gi Gh Gg Gf Ge Gd Gc Gb Ga F9 Mw Mv Mu IJ II IH IG IF IE ID IC IB IA Iz Iy Ix Iw Iv Iu It Is F8 F7 F6 F5 F4 Ir Iq Ip Io Im Il Ik Ij Ii Ih Ig Ie F3 F2 F1 F0 FZ FY FX Ec Eb Ea K9 K8 FW nz ny nw nv nu nt ns nr nq np lR qo qm qk nm nk nj ni nh sN sM sL oC oB oA oz oy ox ov ou ot oq tC tB tA qj qi qh qg qf qe qd qb pZ pY pX pW pV pU pT pS pR pQ pP pO pM pL pJ pI pH pG pF pE pD pC pB pA pz pw pv pk pj ph pg pf pe pd oo ng nf nd mZ mY mX mW lQ:Value}(hkn:k<n)(gv:n≤1000)(as0:l1.length≤68719476736)
  (hZ:Zq wi w5 G k l1 sr (.slice qa (l1.length:Nat) qc) ps)
  (ga:∀(u15 u74 u75 u76 u77 u78 u79 u80 u81 u82 u83 u84 u85 u86:Value) (w':World),Zq wi w' G k (l1.map gG) sr (.slice qa (l1.length:Nat) qc) ps→fv ⟨List.toArray (c0::c1::c2::c3::c4::c5::c6::c7::c8::c9::.slice (some ⟨G,0,none⟩) n n::.int .i64 (k:Int)::Gl::El::IN::u15::Lg::Gk::Vo::Vn::IL::IK::Ek::Lf::Le::Ld::Ej::Ei::Eh::Eg::Ef::Ee::Ed::Lc::Lb::La::Gj::Gi::Gh::Gg::Gf::Ge::Gd::Gc::Gb::Ga::F9::Mw::Mv::Mu::IJ::II::IH::IG::IF::IE::ID::IC::IB::IA::Iz::Iy::Ix::Iw::Iv::Iu::It::Is::F8::F7::F6::F5::F4::.int .i64 (l1.length:Int)::u74::u75::u76::u77::u78::u79::u80::u81::u82::u83::u84::u85::u86::F3::F2::F1::F0::FZ::FY::FX::Ec::Eb::Ea::K9::K8::FW::nz::ny::nw::nv::nu::nt::ns::nr::nq::np::lR::qo::qm::qk::nm::nk::nj::ni::nh::sN::sM::sL::oC::oB::oA::oz::oy::ox::ov::ou::ot::oq::tC::tB::tA::qj::qi::qh::qg::qf::qe::qd::qb::pZ::pY::pX::pW::pV::pU::pT::pS::pR::pQ::pP::pO::pM::pL::pJ::pI::pH::pG::pF::pE::pD::pC::pB::pA::pz::pw::pv::pk::pj::ph::pg::pf::pe::pd::oo::ng::nf::nd::mZ::mY::mX::mW::lQ::[]),[]⟩ w') :
  Code.wp Tryz.prog (Zm.blk 4) (Zm.Qx 4 fv) ⟨List.toArray (c0::c1::c2::c3::c4::c5::c6::c7::c8::c9::.slice (some ⟨G,0,none⟩) n n::.int .i64 (k:Int)::Gl::El::IN::IM::Lg::Gk::Vo::Vn::IL::IK::Ek::Lf::Le::Ld::Ej::Ei::Eh::Eg::Ef::Ee::Ed::Lc::Lb::La::Gj::Gi::Gh::Gg::Gf::Ge::Gd::Gc::Gb::Ga::F9::Mw::Mv::Mu::IJ::II::IH::IG::IF::IE::ID::IC::IB::IA::Iz::Iy::Ix::Iw::Iv::Iu::It::Is::F8::F7::F6::F5::F4::.int .i64 (l1.length:Int)::.int .i64 0::Ir::Iq::Ip::Io::Im::Il::Ik::Ij::Ii::Ih::Ig::Ie::F3::F2::F1::F0::FZ::FY::FX::Ec::Eb::Ea::K9::K8::FW::nz::ny::nw::nv::nu::nt::ns::nr::nq::np::lR::qo::qm::qk::nm::nk::nj::ni::nh::sN::sM::sL::oC::oB::oA::oz::oy::ox::ov::ou::ot::oq::tC::tB::tA::qj::qi::qh::qg::qf::qe::qd::qb::pZ::pY::pX::pW::pV::pU::pT::pS::pR::pQ::pP::pO::pM::pL::pJ::pI::pH::pG::pF::pE::pD::pC::pB::pA::pz::pw::pv::pk::pj::ph::pg::pf::pe::pd::oo::ng::nf::nd::mZ::mY::mX::mW::lQ::[]),[]⟩ w5:=by
 conv=>arg 2;whnf
 have Kt:=Tryz.underlying61;have C2:=Tryz.underlying38;have aor:=Tryz.underlying48;have Rk:(0:Int)≤(k:Int):=by omega
 have xi:(k:Int)<(n:Int):=by omega
 have HZ:=Hw.bT (show Zq wi w5 G k (KN gG l1 0) sr (.slice qa (l1.length:Nat) qc) ps from hZ);clear hZ
 go_loopw [74] (fun i wq=>∃j:Nat,j≤l1.length∧i=.int .i64 (j:Int)∧Zq wi wq G k (KN gG l1 j) sr (.slice qa (l1.length:Nat) qc) ps) (fun i _=>l1.length-(RowKit.intOf i).toNat)
 case atStart=>exact⟨0,aDj _,rfl,HZ.out⟩
 case round=>
  obtain⟨j,hj,rfl,hZ⟩:=hrel;clear HZ;by_cases hjt:j<l1.length
  ·have g0:wr.cell? ⟨G,k*6,none⟩=some (.slice qa (l1.length:Nat) qc):=(hZ.rc.cell (j:=0) rfl).1
   have hj1:(j:Int)<(l1.length:Int):=by omega
   have hj0:(0:Int)≤(j:Int):=by omega
   clear ga;obtain⟨s,hs⟩:∃s,l1[j]? = some s:=⟨_,aCF hjt⟩;have hfl:=Rr gG l1 j;obtain⟨g,rfl⟩:=hZ.own.zc (show 0<(KN gG l1 j).length by omega);have hth:wr.there g (j*15+12) 3:=hZ.own.there (show j<(KN gG l1 j).length by omega) (by omega);have hZ2:=hZ.ulk (j:=j) (abe gG hs);rw[Rq gG hs]at hZ2;have HZ2:=Hw.bT hZ2;have awA:(Tryz.prog.info? 48).map (·.size)=some 3:=by kernel_rfl
   clear hZ hZ2 hs hfl
   go_wp2_with (refine Zm.aq4 rfl 48 (.tmp 85) (.tmp 83) rfl rfl (us:=[.int .i64 0,.int .i64 0,.int .i64 0]) rfl (n:=3) rfl awA hth (by simp[Value.oneCell']) rfl ?_)
   exact⟨⟨j+1,by omega,by congr 1,HZ2.out⟩,by simp[RowKit.intOf];omega⟩
  ·obtain rfl:j=l1.length:=by omega
   have hj1:¬ (l1.length:Int)<(l1.length:Int):=by omega
   rw[Ru]at hZ;have HF:=Hw.bT hZ;clear hZ;go_wp2;exact⟨rfl,ga _ _ _ _ _ _ _ _ _ _ _ _ _ _ _ HF.out⟩
end Go.AL
namespace Go.AL
open Go.Proofs Go.RowKit
variable [ZA]
attribute [local go_sem] Oper.semAt_some
set_option maxRecDepth 100000 in
set_option maxHeartbeats 4000000 in
theorem Zm.lp0{fv:Act→World→Prop}(w w3:World)(G n:Nat)(rs:List bA)(ai:Int)(ab:List bz)(v:bU)(ur:Value)(ma da:Option Addr)(mc dc:Nat){c0 c3 c4 c5 c6 c7 c8 Vp Gl El IN IM Lg Gk Vo Vn IL IK Ek Lf Le Ld Ej Ei Eh Eg Ef Ee Ed Gj Gi Gh Gg Gf Ge Gd Gc Gb Ga F9 Mw Mv Mu IJ II IH IG IF IE ID IC IB IA Iz Iy Ix Iw Iv Iu It Is F8 F7 F6 F5 F4 Mt Ms Ir Iq Ip Io Im Il Ik Ij Ii Ih Ig Ie F3 F2 F1 F0 FZ FY FX Ec Eb Ea K9 K8 FW nz ny nw nv nu nt ns nr nq np lR qo qm qk nm nk nj ni nh sN sM sL oC oB oA oz oy ox ov ou ot oq tC tB tA qj qi qh qg qf qe qd qb pZ pY pX pW pV pU pT pS pR pQ pP pO pM pL pJ pI pH pG pF pE pD pC pB pA pz pw pv pk pj ph pg pf pe pd oo ng nf nd mZ mY mX mW lQ:Value}
  (Rb:Cl w ZA.A (.sl cV) ab ur) (hpm:Cl w gp (.sl [.int .i64]) v.2.1 (.slice ma n mc)) (hN:v.2.1.length=n) (hp:n9 (rs,ai,ab,v)=true) (hB:Below w.heap.size w w3) (Ks:w.heap.size≤G) (hG3:G<w3.heap.size)
  (hd:Cl w3 (eu G) (.sl aH) (bc ab) (.slice da ((bc ab).length:Nat) dc)) (hL0:Zm.L1 w3 w3 G G n (iy ai ab (bc ab)) v.2.1 0)
  (ga:∀(u11 u12 u14 u15 u35 u36 u37 u38 u39 u40 u41 u42 u43 u44 u45 u46 u47 u48 u49 u50 u51 u52 u53 u54 u55 u56 u57 u58 u59 u60 u61 u62 u63 u64 u65 u66 u67 u68 u69 u70 u71 u72 u73 u74 u75 u76 u77 u78 u79 u80 u81 u82 u83 u84 u85 u86 u87 u88 u89 u90 u91 u92 u93:Value) (w':World),Zm.R1 w3 w' G n (iy ai ab (bc ab)) v.2.1 n→fv ⟨List.toArray (c0::.int .i64 ai::ur::c3::c4::c5::c6::c7::c8::.slice da ((bc ab).length:Nat) dc::.slice (some ⟨G,0,none⟩) n n::u11::u12::El::u14::u15::Lg::Gk::Vo::Vn::IL::IK::Ek::Lf::Le::Ld::Ej::Ei::Eh::Eg::Ef::Ee::Ed::.slice ma n mc::.int .i64 (n:Int)::u35::u36::u37::u38::u39::u40::u41::u42::u43::u44::u45::u46::u47::u48::u49::u50::u51::u52::u53::u54::u55::u56::u57::u58::u59::u60::u61::u62::u63::u64::u65::u66::u67::u68::u69::u70::u71::u72::u73::u74::u75::u76::u77::u78::u79::u80::u81::u82::u83::u84::u85::u86::u87::u88::u89::u90::u91::u92::u93::Ec::Eb::Ea::K9::K8::FW::nz::ny::nw::nv::nu::nt::ns::nr::nq::np::lR::qo::qm::qk::nm::nk::nj::ni::nh::sN::sM::sL::oC::oB::oA::oz::oy::ox::ov::ou::ot::oq::tC::tB::tA::qj::qi::qh::qg::qf::qe::qd::qb::pZ::pY::pX::pW::pV::pU::pT::pS::pR::pQ::pP::pO::pM::pL::pJ::pI::pH::pG::pF::pE::pD::pC::pB::pA::pz::pw::pv::pk::pj::ph::pg::pf::pe::pd::oo::ng::nf::nd::mZ::mY::mX::mW::lQ::[]),[]⟩ w') :
  Code.wp Tryz.prog (Zm.blk 0) (Zm.Qx 0 fv) ⟨List.toArray (c0::.int .i64 ai::ur::c3::c4::c5::c6::c7::c8::.slice da ((bc ab).length:Nat) dc::.slice (some ⟨G,0,none⟩) n n::Vp::Gl::El::IN::IM::Lg::Gk::Vo::Vn::IL::IK::Ek::Lf::Le::Ld::Ej::Ei::Eh::Eg::Ef::Ee::Ed::.slice ma n mc::.int .i64 (n:Int)::.int .i64 0::Gj::Gi::Gh::Gg::Gf::Ge::Gd::Gc::Gb::Ga::F9::Mw::Mv::Mu::IJ::II::IH::IG::IF::IE::ID::IC::IB::IA::Iz::Iy::Ix::Iw::Iv::Iu::It::Is::F8::F7::F6::F5::F4::Mt::Ms::Ir::Iq::Ip::Io::Im::Il::Ik::Ij::Ii::Ih::Ig::Ie::F3::F2::F1::F0::FZ::FY::FX::Ec::Eb::Ea::K9::K8::FW::nz::ny::nw::nv::nu::nt::ns::nr::nq::np::lR::qo::qm::qk::nm::nk::nj::ni::nh::sN::sM::sL::oC::oB::oA::oz::oy::ox::ov::ou::ot::oq::tC::tB::tA::qj::qi::qh::qg::qf::qe::qd::qb::pZ::pY::pX::pW::pV::pU::pT::pS::pR::pQ::pP::pO::pM::pL::pJ::pI::pH::pG::pF::pE::pD::pC::pB::pA::pz::pw::pv::pk::pj::ph::pg::pf::pe::pd::oo::ng::nf::nd::mZ::mY::mX::mW::lQ::[]),[]⟩ w3:=by
 conv=>arg 2;whnf
 have Kt:=Tryz.underlying61;have C2:=Tryz.underlying38;have ah6:=Tryz.underlying36;have aor:=Tryz.underlying48;simp only[n9,aCs,aCy]at hp;have HQ:=Hw.bT hp;have HP:=Hw.bT (And.intro Rb hpm);have HW:=Hw.bT (And.intro hB hd);have HN:=Hw.bT hN;have HO:=Hw.bT (show Zm.R1 w3 w3 G n (iy ai ab (bc ab)) v.2.1 0 from⟨hL0,fun i hi=>absurd hi (Nat.not_lt_zero i)⟩);have gv:n≤1000:=by have:=hp.2.2.2.2;omega
 clear Rb hpm hB hd hN hp hL0
 go_loopw [35] (fun i wr=>∃k:Nat,k≤n∧i=.int .i64 (k:Int)∧Zm.R1 w3 wr G n (iy ai ab (bc ab)) v.2.1 k) (fun i _=>n-(RowKit.intOf i).toNat)
 case atStart=>exact⟨0,aDj _,rfl,HO.out⟩
 case round=>
  obtain⟨k,hk,rfl,⟨bL,fq⟩,hnl⟩:=hrel;clear HO;have hGr:G<wr.heap.size:=aCP hG3 bL.size;have hBw:Below w.heap.size w wr:=by
   have h:=HW.out.1;exact⟨bL.os.trans h.os,bL.tape.trans h.tape,bL.output.trans h.output,aCO h.size bL.size,fun b hb=>(bL.block b (by have:=h.size;omega) (by omega)).trans (h.block b hb)⟩
  by_cases cg:k<n
  ·have xi:(k:Int)<(n:Int):=by omega
   have Rk:(0:Int)≤(k:Int):=by omega
   clear ga;obtain⟨core,aa4⟩:∃r,v.2.1[k]? = some r:=⟨_,aCF (by have:=HN.out;omega)⟩;obtain⟨b,off,c,hv,hb,hc⟩:=Fx (cX.1 HP.out.2) aa4;have hn:=HN.out;rw[hn]at hv;obtain⟨rfl,-,rfl⟩:=Value.slice.inj hv;have hcr:wr.cell? ⟨b,off+k,none⟩=some (.int .i64 core):=(hBw.cell (p:=⟨b,off+k,none⟩) hb).trans hc;have hlen:((v.2.1.take k).map (iy ai ab (bc ab))++List.replicate (n-k) wL).length=n:=by simp[hn];omega
   have Be:Tv (core,ai,ab)=true:=by
    obtain⟨q1,q2,q3,q4,q5⟩:=HQ.out;simp only[lO,aCs,aCy]at q1;simp only[Tv,aCs,aCy];exact⟨q3,q1.1,q2⟩
   have HS:=Hw.bT (Zq.arH fq (i:=k) (by rw[hlen];exact cg) core ai Be (HP.out.1.up Ks hBw));obtain⟨wi,hwi⟩:∃z:World,z=wr:=⟨_,rfl⟩;have hL:=And.intro bL (And.intro fq (And.intro hlen aa4));rw[← hwi]at hL hnl;have HL:=Hw.bT hL;have HNl:=Hw.bT hnl;have as5:(Tryz.prog.info? 38).map (·.size)=some 6:=by kernel_rfl
   clear bL fq hlen aa4 hc hv Be hn hL hnl
   go_wp2_with (first
    | (go_at_call 53;refine HS.out.mono ?_;rintro en w4 ⟨us,q,p1,rfl,hl6,h1c,hB4,⟨qa0,qn0,qc0,rfl⟩,hth,hZ⟩)
    | (refine Zm.aq4 rfl 38 (.tmp 46) (.tmp 45) rfl rfl rfl (n:=6) hl6 as5 hth h1c rfl ?_))
   obtain⟨w4',hw4⟩:∃z:World,z=w4.setCells G (k*6) us:=⟨_,rfl⟩;rw[← hw4]at hZ ⊢;obtain⟨ps,hps⟩:∃ps:List Value,ps=[p1,.slice none 0 0,.slice none 0 0,.slice none 0 0,.slice none 0 0]:=⟨_,rfl⟩;rw[← hwi,← hps]at hZ;have HZ:=Hw.bT hZ;have HPS:=Hw.bT hps;clear hwi hZ HS hth hcr as5 hw4 hps;have aaI:br (eJ (core,ai,ab)).1=true:=amD HQ.out.2.2.1 HQ.out.2.1 core;have aot:=JO (core,ai,ab);have hfk:iy ai ab (bc ab) core=((iJ (eJ (core,ai,ab)).1 (bc ab)).map gG,(eJ (core,ai,ab)).2.1,[],[],[],bc ab):=rfl;generalize FC:eJ (core,ai,ab)=sr at HZ aaI aot hfk;have HT:=Hw.bT (And.intro aot hfk);clear FC aot hfk;refine Zm.use (Zm.lp2 w3 wi w4' G n k ab da qa0 dc qn0 qc0 sr ps cg gv (lN _ HQ.out.1) HL.out.1 HW.out.2 aaI HZ.out ?_);intro u14 u49 u50 u51 u52 u53 u54 u55 u56 u57 u58 u59 u60 u61 u62 u63 u64 u65 u66 u67 w5 qa qn qc aX hZ5;clear HZ;generalize uW:iJ sr.1 (bc ab)=l1 at hZ5 aX;have hqn:qn=List.length (α:=ax) l1:=hZ5.own.avD;subst hqn;have as0:l1.length≤68719476736:=dt aX;have g0:w5.cell? ⟨G,k*6,none⟩=some (.slice qa (l1.length:Nat) qc):=(hZ5.rc.cell (j:=0) rfl).1;have HZ5:=Hw.bT (show Zq wi w5 G k l1 sr (.slice qa (l1.length:Nat) qc) ps from hZ5);have HL1:=Hw.bT uW;clear hZ5 aX uW aaI;go_wp2;refine Zm.use (Zm.lp4 wi w5 G n k l1 qa qc sr ps cg gv as0 HZ5.out ?_);intro u15 u74 u75 u76 u77 u78 u79 u80 u81 u82 u83 u84 u85 u86 w6 hZ6;have HF:=Hw.bT hZ6
   have sK:Cl w6 (eu G) (.sl aH) (bc ab) _:=HW.out.2.ev (HL.out.1.tr hZ6.rc.1) (fun b _ h=>by first | exact h | exact .inr h | exact .inl (.inr h)) (fun b _ h=>by first | exact h | exact .inr h | exact .inl (.inr h));have HC:=Hw.bT (Zm.cln hZ6.gr sK (lN _ HQ.out.1));have hgr:=hZ6.gr;clear hZ6 sK g0 HZ5
   go_wp2_with (go_at_call 55;refine HC.out.mono ?_;rintro en w7 ⟨r7,rfl,hr7,ue,ho7,⟨a7,n7,c7,rfl⟩⟩;obtain⟨e7,f7⟩:=(HF.out.low ue).rc.there 5 (by omega);obtain⟨v7,e7⟩:=aDS.1 e7)
   have hZ7:=HF.out.low ue;refine⟨⟨k+1,by omega,by congr 1,Zm.akc (x:=(l1.map gG,sr.2.1,sr.2.2.1,sr.2.2.2.1,sr.2.2.2.2.1,bc ab)) (Ev.st (X:=fun b=>b=G) (HL.out.1.tr hZ7.rc.1) G _ _ (.inl rfl)) (HF.out.fin ue hr7 HL.out.2.1 (by have:=HL.out.2.2.1;omega)) ?_ HN.out cg HL.out.2.2.2,?_⟩,by simp[RowKit.intOf];omega⟩
   ·rw[HT.out.2,HT.out.1,HL1.out]
   ·rw[HPS.out]at hZ7
    exact Zm.Nl.step hZ7 HNl.out
  ·obtain rfl:k=n:=by omega
   have xi:¬ (k:Int)<(k:Int):=by omega
   have HF:=Hw.bT (show Zm.R1 w3 wr G k (iy ai ab (bc ab)) v.2.1 k from⟨⟨bL,fq⟩,hnl⟩);clear bL fq hnl;go_wp2;exact⟨rfl,ga _ _ _ _ _ _ _ _ _ _ _ _ _ _ _ _ _ _ _ _ _ _ _ _ _ _ _ _ _ _ _ _ _ _ _ _ _ _ _ _ _ _ _ _ _ _ _ _ _ _ _ _ _ _ _ _ _ _ _ _ _ _ _ _ HF.out⟩
end Go.AL
namespace Go.AL
open Go.Proofs Go.RowKit
variable [ZA]
structure Zm.OkS (s:ao):Prop where
 sl:br s.1=true
 pn:s.2.1.length≤19
 op:∀r∈s.2.1,0≤r.2.1∧r.2.1≤4611686018427387904
 an:s.2.2.2.1=[]
structure Zm.I6 (w4 wr:World) (G n k:Nat) (g:ao→ao) (bX:List ao):Prop where
 ev:Ev w4 wr (fun b=>b=G)
 own:bk wr (eu G) G 38 6 ba (KN (α:=ao) g bX k) (.slice (some ⟨G,0,none⟩) n n)
 nl3:∀i,k≤i→i<n→wr.cell? ⟨G,i*6+3,none⟩=some (.slice none 0 0)
 nl4:∀i,i<n→wr.cell? ⟨G,i*6+4,none⟩=some (.slice none 0 0)
section
variable {w4 wr W:World} {G n k:Nat} {g:ao→ao} {bX:List ao}
theorem Zm.I6.low(h:Zm.I6 w4 wr G n k g bX)(hG:G<wr.heap.size)(hb:Below wr.heap.size wr W):Zm.I6 w4 W G n k g bX:=
 ⟨h.ev.tr (fP hb _),h.own.ev (fP hb (fun _=>False)) (fun _ _ h=>h.elim) (fun b _ h=>by first | exact h | exact .inr h | exact .inl (.inr h)) (fun b _ h=>by first | exact h | exact .inr h | exact .inl (.inr h)),fun i h1 h2=>(hb.cell (p:=⟨G,i*6+3,none⟩) hG).trans (h.nl3 i h1 h2),fun i h2=>(hb.cell (p:=⟨G,i*6+4,none⟩) hG).trans (h.nl4 i h2)⟩
theorem Zm.I6.gr(h:Zm.I6 w4 wr G n k g bX):G<wr.heap.size:=(h.own.lt (g:=G) rfl).2
theorem Zm.I6.call(h:Zm.I6 w4 wr G n k g bX)(hn:bX.length=n)(hk:k<n)(hs:∀s∈bX,Zm.OkS s)(d:List al)(ud:Value)(hd:Cl w4 (eu G) (.sl aH) d ud)(hdl:d.length≤1000000)(m:List Int)(um:Value)(hm:Cl w4 (eu G) (.sl [.int .i64]) m um)(hml:m.length≤1000000)
  (rm:Nat) (ids:List al) (hM:Yh.M w4 rm ids) (hr:rm ≠ G) (hg:g=vA (fun x=>decide (x∈ids)) d m) :
  Calls Tryz.prog 57 #[.pointer (some ⟨G,k*6,none⟩),ud,.map (some rm),um] wr (fun en w'=>en=.returned (.tuple #[])∧Zm.I6 w4 w' G n (k+1) g bX):=by
 obtain⟨s,hsk⟩:∃s,bX[k]? = some s:=⟨_,aCF (by omega)⟩;have hx:=abe g hsk;have aX:=hs s (aCC hsk);obtain⟨cur,h1,h2,h3,h4,h5,h6,h7⟩:=h.own.at;obtain⟨us,u1,u2,u3⟩:=h7 k s hx;obtain⟨p0,p1,p2,p3,p4,p5,rfl,q0,q1,q2,q3,q4,q5⟩:=jg u1;have e0:cur[k*6]? = some p0:=u3 0 _ rfl;have e1:cur[k*6+1]? = some p1:=u3 1 _ rfl;have e2:cur[k*6+2]? = some p2:=u3 2 _ rfl;have e4:cur[k*6+4]? = some p4:=u3 4 _ rfl;have e5:cur[k*6+5]? = some p5:=u3 5 _ rfl;have e3:cur[k*6+3]? = some (.slice none 0 0):=by rw[← h1.cell];exact h.nl3 k (aCt _) hk
 have hfl:=Rr g bX k;have awD:List.length (α:=az ba) (KN g bX k)=n:=hfl.trans hn;have dC:k*6+6≤cur.size:=by rw[h2];omega
 have hMr:Yh.M wr rm ids:=hM.frame (by
  obtain⟨es,c,hmm,_⟩:=hM;exact h.ev.block rm (aDJ.1 hmm).1 hr)
 refine(Za.calls wr G (k*6) cur h1 s.1 p0 e0 q0 s.2.1 p1 e1 q1 e3 d ud (hd.ev h.ev (fun b _ h=>by first | exact h | exact .inr h | exact .inl (.inr h)) (fun b _ h=>by first | exact h | exact .inr h | exact .inl (.inr h))) hdl m um (hm.ev h.ev (fun b _ h=>by first | exact h | exact .inr h | exact .inl (.inr h)) (fun b _ h=>by first | exact h | exact .inr h | exact .inl (.inr h))) hml rm ids hMr aX.sl aX.pn aX.op).mono fun en w' hP=>?_
 obtain⟨rfl,vs,vl,va,bL,hG',c0,c1,c3⟩:=hP;refine⟨rfl,h.ev.tr bL,?_,fun i hi1 hi2=>?_,fun i hi2=>?_⟩
 ·have Xf:Rc wr w' G k 6 38 [vs,vl,p2,va,p4,p5]:=by
   refine⟨bL,cur,_,h1,hG',by simp,rfl,by simpa using dC,fun m hm=>?_,fun j v hv=>?_⟩
   ·rw[aDc,aCo (by omega),aDc,aCo (by omega),aDc,aCo (by omega)]
   ·have hj:j<6:=by have:=(aCD.1 hv).1;simpa using this
    simp only[aDc,aEJ]
    match j,hj,hv with
    | 0,_,hv=>rw[aCo (by omega),aCr (by omega),aCr (by omega)];simpa using hv
    | 1,_,hv=>rw[aCr (by omega),aCr (by omega)];simpa using hv
    | 2,_,hv=>rw[aCo (by omega),aCo (by omega),aCo (by omega),e2];simpa using hv
    | 3,_,hv=>rw[aCo (by omega),aCo (by omega),aCr (by omega),aCr (by omega)];simpa using hv
    | 4,_,hv=>rw[aCo (by omega),aCo (by omega),aCo (by omega),e4];simpa using hv
    | 5,_,hv=>rw[aCo (by omega),aCo (by omega),aCo (by omega),e5];simpa using hv
  have aO:Rw w' (eu G) ba (g s) [vs,vl,p2,va,p4,p5]:=by
   have:=oG (x:=((sO (fun x=>decide (x∈ids)) d m s.1 s.2.1 s.1 [] []).1,(sO (fun x=>decide (x∈ids)) d m s.1 s.2.1 s.1 [] []).2.1,s.2.2.1,cb iP (sO (fun x=>decide (x∈ids)) d m s.1 s.2.1 s.1 [] []).2.2,s.2.2.2.2)) c0 c1 (q2.ev bL (fun b _ h=>by first | exact h | exact .inr h | exact .inl (.inr h)) (fun b _ h=>by first | exact h | exact .inr h | exact .inl (.inr h))) c3 (q4.ev bL (fun b _ h=>by first | exact h | exact .inr h | exact .inl (.inr h)) (fun b _ h=>by first | exact h | exact .inr h | exact .inl (.inr h))) (q5.ev bL (fun b _ h=>by first | exact h | exact .inr h | exact .inl (.inr h)) (fun b _ h=>by first | exact h | exact .inr h | exact .inl (.inr h)));rw[hg];unfold vA;rw[aX.an];exact this
  have:=Xf.fin h.own (show k<List.length (α:=az ba) (KN g bX k)by omega) aO;rw[← Rq g hsk];exact this
 ·rw[hG'.cell,aDc,aCo (by omega),aDc,aCo (by omega),aDc,aCo (by omega),← h1.cell]
  exact h.nl3 i (by omega) hi2
 ·rw[hG'.cell,aDc,aCo (by omega),aDc,aCo (by omega),aDc,aCo (by omega),← h1.cell]
  exact h.nl4 i hi2
end
end Go.AL
namespace Go.AL
open Go.Proofs Go.RowKit
variable [ZA]
attribute [local go_sem] Oper.semAt_some
set_option maxRecDepth 100000 in
set_option maxHeartbeats 4000000 in
theorem Zm.lp6{fv:Act→World→Prop}(w4:World)(B7 G n rm:Nat)(g:ao→ao)(bX:List ao)(ids d:List al)(ms:List Int)(ud:Value)(ma:Option Addr)(mc:Nat){c0 c1 c2 c3 c4 c5 c6 c8 Vp Gl El IN IM Gk Vo Vn IL IK Ek Lf Le Ld Ej Ei Eh Eg Ef Ee Ed Lc Lb La Gj Gi Gh Gg Gf Ge Gd Gc Gb Ga F9 Mw Mv Mu IJ II IH IG IF IE ID IC IB IA Iz Iy Ix Iw Iv Iu It Is F8 F7 F6 F5 F4 Mt Ms Ir Iq Ip Io Im Il Ik Ij Ii Ih Ig Ie F3 F2 F1 F0 FZ FY FX Ec Eb Ea FW nz ny nw nv nu nt ns nr nq np lR qo qm qk nm nk nj ni nh sN sM sL oC oB oA oz oy ox ov ou ot oq tC tB tA qj qi qh qg qf qe qd qb pZ pY pX pW pV pU pT pS pR pQ pP pO pM pL pJ pI pH pG pF pE pD pC pB pA pz pw pv pk pj ph pg pf pe pd oo ng nf nd mZ mY mX mW lQ:Value}(hn:bX.length=n)(gv:n≤1000)
  (h0:Zm.I6 w4 w4 G n 0 g bX) (hs:∀s∈bX,Zm.OkS s) (hd:Cl w4 (eu G) (.sl aH) d ud) (hdl:d.length≤1000000) (hm:Cl w4 (eu G) (.sl [.int .i64]) ms (.slice ma n mc)) (hml:ms.length≤1000000)
  (hM:Yh.M w4 rm ids) (hr:rm ≠ G) (hg:g=vA (fun x=>decide (x∈ids)) d ms) (hB:B7<w4.heap.size) (ue:B7 ≠ G) (ec1:w4.cell? ⟨B7,1,none⟩=some (.slice ma n mc))
  (ga:∀(u17 u98 u99 arE arD arC arB arA arz ary arx arw arv:Value) (w':World),Zm.I6 w4 w' G n n g bX→fv ⟨List.toArray (c0::c1::c2::c3::c4::c5::c6::.pointer (some ⟨B7,0,none⟩)::c8::ud::.slice (some ⟨G,0,none⟩) n n::Vp::Gl::El::IN::IM::.map (some rm)::u17::Vo::Vn::IL::IK::Ek::Lf::Le::Ld::Ej::Ei::Eh::Eg::Ef::Ee::Ed::Lc::Lb::La::Gj::Gi::Gh::Gg::Gf::Ge::Gd::Gc::Gb::Ga::F9::Mw::Mv::Mu::IJ::II::IH::IG::IF::IE::ID::IC::IB::IA::Iz::Iy::Ix::Iw::Iv::Iu::It::Is::F8::F7::F6::F5::F4::Mt::Ms::Ir::Iq::Ip::Io::Im::Il::Ik::Ij::Ii::Ih::Ig::Ie::F3::F2::F1::F0::FZ::FY::FX::Ec::Eb::Ea::.int .i64 (n:Int)::u98::u99::arE::arD::arC::arB::arA::arz::ary::arx::arw::arv::lR::qo::qm::qk::nm::nk::nj::ni::nh::sN::sM::sL::oC::oB::oA::oz::oy::ox::ov::ou::ot::oq::tC::tB::tA::qj::qi::qh::qg::qf::qe::qd::qb::pZ::pY::pX::pW::pV::pU::pT::pS::pR::pQ::pP::pO::pM::pL::pJ::pI::pH::pG::pF::pE::pD::pC::pB::pA::pz::pw::pv::pk::pj::ph::pg::pf::pe::pd::oo::ng::nf::nd::mZ::mY::mX::mW::lQ::[]),[]⟩ w') :
  Code.wp Tryz.prog (Zm.blk 6) (Zm.Qx 6 fv) ⟨List.toArray (c0::c1::c2::c3::c4::c5::c6::.pointer (some ⟨B7,0,none⟩)::c8::ud::.slice (some ⟨G,0,none⟩) n n::Vp::Gl::El::IN::IM::.map (some rm)::Gk::Vo::Vn::IL::IK::Ek::Lf::Le::Ld::Ej::Ei::Eh::Eg::Ef::Ee::Ed::Lc::Lb::La::Gj::Gi::Gh::Gg::Gf::Ge::Gd::Gc::Gb::Ga::F9::Mw::Mv::Mu::IJ::II::IH::IG::IF::IE::ID::IC::IB::IA::Iz::Iy::Ix::Iw::Iv::Iu::It::Is::F8::F7::F6::F5::F4::Mt::Ms::Ir::Iq::Ip::Io::Im::Il::Ik::Ij::Ii::Ih::Ig::Ie::F3::F2::F1::F0::FZ::FY::FX::Ec::Eb::Ea::.int .i64 (n:Int)::.int .i64 0::FW::nz::ny::nw::nv::nu::nt::ns::nr::nq::np::lR::qo::qm::qk::nm::nk::nj::ni::nh::sN::sM::sL::oC::oB::oA::oz::oy::ox::ov::ou::ot::oq::tC::tB::tA::qj::qi::qh::qg::qf::qe::qd::qb::pZ::pY::pX::pW::pV::pU::pT::pS::pR::pQ::pP::pO::pM::pL::pJ::pI::pH::pG::pF::pE::pD::pC::pB::pA::pz::pw::pv::pk::pj::ph::pg::pf::pe::pd::oo::ng::nf::nd::mZ::mY::mX::mW::lQ::[]),[]⟩ w4:=by
 conv=>arg 2;whnf
 have Kt:=Tryz.underlying61;have C2:=Tryz.underlying38;have aaB:=Tryz.underlying30;have HH:=Hw.bT h0;have HC:=Hw.bT (fun(k:Nat) (wr:World) (hk:k<n) (h:Zm.I6 w4 wr G n k g bX)=>h.call hn hk hs d ud hd hdl ms (.slice ma n mc) hm hml rm ids hM hr hg);clear h0 hs hd hm hM hg hn
 go_loopw [98] (fun i wr=>∃k:Nat,k≤n∧i=.int .i64 (k:Int)∧Zm.I6 w4 wr G n k g bX) (fun i _=>n-(RowKit.intOf i).toNat)
 case atStart=>exact⟨0,aDj _,rfl,HH.out⟩
 case round=>
  obtain⟨k,hk,rfl,hI⟩:=hrel;clear HH;by_cases cg:k<n
  ·have xi:(k:Int)<(n:Int):=by omega
   have Rk:(0:Int)≤(k:Int):=by omega
   clear ga;have c1r:wr.cell? ⟨B7,1,none⟩=some (.slice ma n mc):=(hI.ev.cell hB ue).trans ec1;have HS:=Hw.bT (HC.out k wr.drew cg (hI.low hI.gr (Below.refl _ _).drew));clear hI;go_wp2
   go_region_with ((go_at_call 57;refine HS.out.mono ?_;rintro en w5 ⟨rfl,hI5⟩))
   all_goals go_wp2
   all_goals exact⟨⟨k+1,by omega,by congr 1,hI5⟩,by simp[RowKit.intOf];omega⟩
  ·obtain rfl:k=n:=by omega
   have xi:¬ (k:Int)<(k:Int):=by omega
   have HF:=Hw.bT hI;clear hI;go_wp2;exact⟨rfl,ga _ _ _ _ _ _ _ _ _ _ _ _ _ _ HF.out⟩
end Go.AL
