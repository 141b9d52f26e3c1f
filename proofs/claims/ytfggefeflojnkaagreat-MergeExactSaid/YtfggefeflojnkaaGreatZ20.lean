/- AI. -/
import Derived.Test.YtfggefeflojnkaaGreatZ18b
import Derived.Test.YtfggefeflojnkaaGreatZ17
set_option linter.unusedSimpArgs false
set_option linter.unusedVariables false
set_option linter.unusedSectionVars false
namespace Go.AL
open Go.Proofs Go.RowKit
variable [ZA]
attribute [local go_sem] Oper.semAt_some
def lL(rs:List eB)(ow:List Int)(c:Int)(l:List (ay×Int)):List ag:=l.flatMap fun p=>(jQ (p.1.1,p.2)).filter (iG rs ow c)
theorem UG(rs:List eB)(ow:List Int)(c:Int)(l:List (ay×Int))(p:ay×Int):lL rs ow c (l++[p])=lL rs ow c l++(jQ (p.1.1,p.2)).filter (iG rs ow c):=by
 grind[lL]
theorem Zm.asu{P:Program}{b:Nat}{c:Code}{Q:Exit→Act→World→Prop}{a:Act}{w:World}(h:c.wp P (Zm.Qx b (Q .normal)) a w):c.wp P (Exit.inBlock b Q) a w:=wp_mono h fun e a w hq=>by
 cases e with
 | exit i=>
  obtain⟨rfl,hk⟩:=hq;show if i=i then _ else _
  rw[azE rfl];exact hk
 | _=>exact hq.elim
theorem vt(rs:List eB)(ow:List Int)(c:Int):∀(l:List (ay×Int)),(∀p∈l,p.1.1.length≤1000000)→(lL rs ow c l).length≤l.length*1000000
 | [],_=>by simp[lL]
 | p::l,h=>by
  have h1:=vt rs ow c l (fun x hx=>h x (az6 _ hx));have h2:=aCk (iG rs ow c) (jQ (p.1.1,p.2));have h3:=BY p.1.1 p.2;have h4:=h p az1;have e:lL rs ow c (p::l)=(jQ (p.1.1,p.2)).filter (iG rs ow c)++lL rs ow c l:=by unfold lL;rw[aBO]
  rw[e,azG,azL];omega
theorem UF{rs:List eB}{ow:List Int}{c:Int}{bM:List ay}{ms:List Int}{k:Nat}{t:ay}{m:Int}(ht:bM[k]? = some t)(hm:ms[k]? = some m):lL rs ow c ((bM.zip ms).take (k+1))=lL rs ow c ((bM.zip ms).take k)++(jQ (t.1,m)).filter (iG rs ow c):=by
 have hz:(bM.zip ms)[k]? = some (t,m):=by grind
 rw[aAz,hz];grind[UG]
theorem Zm.E8.auL{wi wr:World}{G n i:Nat}{bM:List ay}{acc:List ag}{ve:Value}(h:Zm.E8 wi wr G n i bM acc ve){l:List aL}{q:Value}(hq:Cl wr (Aq G ve) (.sl bg) l q)(hl:ct l=true)(Nn:l.length≤19)(m:Int):
  Calls Tryz.prog 58 #[q,.int .i64 m] wr fun en w'=>∃la lc,en=.returned (.slice la ((jQ (l,m)).length:Nat) lc)∧Below wr.heap.size wr w'∧Cl w' (Aq G ve) (.sl aF) (jQ (l,m)) (.slice la ((jQ (l,m)).length:Nat) lc):=by
 refine(Hw.call VL ((l,m):List aL×Int) (show Ua (l,m)=true by simp only[Ua,azF,azM];exact⟨hl,Nn⟩) (A:=Aq G ve) h.hA (us:=#[q,.int .i64 m]) (yE.two (Ag.rdc hq) Ag.int)).mono fun en w' hh=>?_
 obtain⟨us,A',rfl,hr,nW,hA',hB⟩:=hh;obtain⟨u,rfl,ho,hg⟩:=(show ∃u',us=[u']∧aR w' A' wr.heap.size 69 13 aF (jQ (l,m)) u'∧∀g,u'.ownBlock=some g→A' g from hr);have hc:Cl w' (Aq G ve) (.sl aF) (jQ (l,m)) u:=(ho.ev (Ev.rf w' (fun _=>False)) (fun _ _ h=>h.elim) (fun b _ hb=>nW b hb) (fun _ _ h=>h)).cl rfl (fun g hg hb=>by have:=(ho.lt hg).1;have:=h.hA g hb;omega);obtain⟨a,c,rfl⟩:=(show ∃a c,u=.slice a ((jQ (l,m)).length:Nat) c from ho.form);exact⟨a,c,rfl,hB,hc⟩
set_option maxRecDepth 100000 in
set_option maxHeartbeats 4000000 in
theorem Zm.as0{ee:Act→World→Prop}(wi:World)(B7 G n i:Nat)(bM:List ay)(rs:List eB)(ow ms:List Int)(c:Int)(C6:Value)(ma oa:Option Addr)(mc oc:Nat){c1 c2 c3 c4 c5 c6 c8 c9 Gz zb yb zY zX Cx za zW zV ya Cw Cv Cu xZ yZ yY yX yW yV yU Dg Df De zU zT zS zR zQ zP zN zM zL zJ zH DC DB DA Ct Cs Cr Cq Cp Co Cn Cm Ck Cj Ci Ch Cg Cf Ce Cd Cc Cb zG yT yS yR yQ Dd Dc zF zD Io Im Il Ik Ij Ii Ih Ig Ie Ic Gw Gv Gu Gt Gs Gr Gq EM EL EK K0 KZ Gp mX mW mV mU mT mS mR mQ mP mO lJ pZ pY pX mN mM mL mK mJ nR nQ nP nO nN nL nJ nH nG nF tf te td pW pV pU pT pS pR pQ pP pO pM pL pJ pI pH pG pF pE pD pC pB pA pz pw pv pk pj ph pg pf pe pd pb o9 o8 o7 o6 o5 oZ oY oX oW oV nE mI mH mG mF mE mD mC lI:Value}(hi:i<n)(gq:n≤1000)(L4:bM.length=n)(Qh:ms.length=n)
  (h8:Zm.E8 wi wi G n i bM [] (.slice none 0 0)) (wu:∀t∈bM,ct t.1=true∧t.1.length≤19)
  (Y9:Cl wi (ef G) (.sl tP) rs C6) (Em:af rs=true) (V0:Cl wi (ef G) (.sl [zI]) ms (.slice ma n mc)) (how:Cl wi (ef G) (.sl [zI]) ow (.slice oa (ow.length:Nat) oc)) (hB:B7<wi.heap.size) (tM:B7 ≠ G) (ec2:wi.cell? ⟨B7,2,none⟩=some (.slice oa (ow.length:Nat) oc))
  (ej:∀(u20 u21 u23 u24 u25 WB WA Wz Wy Wx Ww Wv Wu Wt Ws Wr Wq Wp Jl Jk Jj Ji Jh Jg Jf Je Jd Jc Jb Ja I9 I7 I5 I4 I3 I2 I1 I0 IZ IY IX IW IV IU IT IS IQ IP IN IM IL IK IJ II IH IG IF IE ID IC IB Wo:Value) (w':World) (va:Option Addr) (vn vc:Nat),Zm.E8 wi w' G n i bM (lL rs ow c (bM.zip ms)) (.slice va vn vc)→ee ⟨List.toArray (C6::c1::c2::c3::c4::c5::c6::.pointer (some ⟨B7,0,none⟩)::c8::c9::.slice (some ⟨G,0,none⟩) n n::Gz::zb::yb::zY::zX::Cx::za::.int .i64 (i:Int)::.int .i64 c::u20::u21::ya::u23::u24::u25::xZ::yZ::yY::yX::yW::yV::yU::Dg::Df::De::zU::zT::zS::zR::zQ::zP::zN::zM::zL::zJ::zH::DC::DB::DA::Ct::Cs::Cr::Cq::Cp::Co::Cn::Cm::Ck::Cj::Ci::Ch::Cg::Cf::Ce::Cd::Cc::Cb::zG::yT::yS::yR::yQ::Dd::Dc::zF::zD::Io::Im::Il::Ik::Ij::Ii::Ih::Ig::Ie::Ic::Gw::Gv::Gu::Gt::Gs::Gr::Gq::EM::EL::EK::K0::KZ::Gp::mX::mW::mV::mU::mT::mS::mR::mQ::mP::mO::lJ::pZ::pY::pX::mN::mM::mL::mK::mJ::.slice ma n mc::.int .i64 (n:Int)::WB::WA::Wz::Wy::Wx::Ww::Wv::Wu::Wt::Ws::Wr::Wq::Wp::Jl::Jk::Jj::Ji::Jh::Jg::Jf::Je::Jd::Jc::Jb::Ja::I9::I7::I5::I4::I3::I2::I1::I0::IZ::IY::IX::IW::IV::IU::IT::IS::IQ::IP::IN::IM::IL::IK::IJ::II::IH::IG::IF::IE::ID::IC::IB::Wo::mI::mH::mG::mF::mE::mD::mC::lI::[]),[]⟩ w') :
  Code.wp Tryz.prog (Zm.blk 10) (Zm.Qx 10 ee) ⟨List.toArray (C6::c1::c2::c3::c4::c5::c6::.pointer (some ⟨B7,0,none⟩)::c8::c9::.slice (some ⟨G,0,none⟩) n n::Gz::zb::yb::zY::zX::Cx::za::.int .i64 (i:Int)::.int .i64 c::zW::zV::ya::Cw::Cv::Cu::xZ::yZ::yY::yX::yW::yV::yU::Dg::Df::De::zU::zT::zS::zR::zQ::zP::zN::zM::zL::zJ::zH::DC::DB::DA::Ct::Cs::Cr::Cq::Cp::Co::Cn::Cm::Ck::Cj::Ci::Ch::Cg::Cf::Ce::Cd::Cc::Cb::zG::yT::yS::yR::yQ::Dd::Dc::zF::zD::Io::Im::Il::Ik::Ij::Ii::Ih::Ig::Ie::Ic::Gw::Gv::Gu::Gt::Gs::Gr::Gq::EM::EL::EK::K0::KZ::Gp::mX::mW::mV::mU::mT::mS::mR::mQ::mP::mO::lJ::pZ::pY::pX::mN::mM::mL::mK::mJ::.slice ma n mc::.int .i64 (n:Int)::.int .i64 0::nR::nQ::nP::nO::nN::nL::nJ::nH::nG::nF::tf::te::td::pW::pV::pU::pT::pS::pR::pQ::pP::pO::pM::pL::pJ::pI::pH::pG::pF::pE::pD::pC::pB::pA::pz::pw::pv::pk::pj::ph::pg::pf::pe::pd::pb::o9::o8::o7::o6::o5::oZ::oY::oX::oW::oV::nE::mI::mH::mG::mF::mE::mD::mC::lI::[]),[]⟩ wi:=by
 conv=>arg 2;whnf
 have yL:=Tryz.underlying61;have uK:=Tryz.underlying38;have YZ:=Tryz.underlying30;have Nf:=Tryz.underlying35;have HP:=Hw.bf (And.intro Y9 (And.intro how (And.intro ec2 (And.intro V0 wu))));have HN:=Hw.bf (And.intro L4 Qh);have H0:=Hw.bf (show Zm.E8 wi wi G n i bM (lL rs ow c ((bM.zip ms).take 0)) (.slice none 0 0)from h8);clear Y9 how ec2 V0 wu h8 L4 Qh
 go_loopw [121] (fun i' wr=>∃(k:Nat) (va:Option Addr) (vn vc:Nat),k≤n∧i'=.int .i64 (k:Int)∧Zm.E8 wi wr G n i bM (lL rs ow c ((bM.zip ms).take k)) (.slice va vn vc)) (fun i' _=>n-(RowKit.intOf i').toNat)
 case atStart=>exact⟨0,_,_,_,aAu _,rfl,H0.out⟩
 case round=>
  obtain⟨k,va,vn,vc,hk,rfl,hI⟩:=hrel;clear H0;by_cases bO:k<n
  ·have wV:(k:Int)<(n:Int):=by omega
   have Kl:(0:Int)≤(k:Int):=by omega
   clear ej;obtain⟨m,hm⟩:∃m,ms[k]? = some m:=⟨_,azS (by have:=HN.out.2;omega)⟩;obtain⟨t,ht⟩:∃t,bM[k]? = some t:=⟨_,azS (by have:=HN.out.1;omega)⟩;obtain⟨b,off,c',hv,hb,hc⟩:=FZ (cH.1 (hI.pure HP.out.2.2.2.1)) hm;have Qh:=HN.out.2;rw[Qh]at hv;obtain⟨rfl,-,rfl⟩:=Value.slice.inj hv;obtain⟨q,hq,rX⟩:=hI.au ht;obtain⟨qa,qn,qc,rfl⟩:=rX.form;have Y2:=HP.out.2.2.2.2 t (azO ht);have HE:=Hw.bf (hI.auL rX Y2.1 Y2.2 m);have HT:=Hw.bf (UF (rs:=rs) (ow:=ow) (c:=c) ht hm);have lA:(lL rs ow c ((bM.zip ms).take k)).length+(jQ (t.1,m)).length≤1000000000:=by
    have h1:=vt rs ow c ((bM.zip ms).take k) (fun p hp=>az0 (HP.out.2.2.2.2 p.1 (List.of_mem_zip (aAY hp)).1).2 (by omega));have h2:=List.length_take_le k (bM.zip ms);have h3:=BY t.1 m;have h4:=Y2.2;have h5:((bM.zip ms).take k).length*1000000≤k*1000000:=aAh _ h2;omega
   have sq:(jQ (t.1,m)).length≤1000000:=az0 (az0 (BY t.1 m) Y2.2) (by omega);have HI:=Hw.bf (And.intro hI (And.intro lA sq));clear hv rX Y2 ht hm Qh hI lA sq
   go_wp2_with (go_at_call 58;refine HE.out.mono ?_;rintro en w5 ⟨la,lc,rfl,jn,hL5⟩)
   refine Zm.asu (Zm.asZ wi w5 B7 G n i bM (lL rs ow c ((bM.zip ms).take k)) (jQ (t.1,m)) (.slice va vn vc) rs ow c C6 la oa lc oc hi gq (HI.out.1.low jn) ⟨_,_,_,rfl⟩ hL5 HI.out.2.2 HI.out.2.1 HP.out.1 Em HP.out.2.1 hB tM HP.out.2.2.1 ?_);intro u23 u24 u25 Jl Jk Jj Ji Jh Jg Jf Je Jd Jc Jb Ja I9 I7 I5 I4 I3 I2 I1 I0 IZ IY IX IW IV IU IT IS IQ IP IN IM IL IK IJ II IH IG IF IE ID IC IB w6 ve6 h6;obtain⟨va6,vn6,vc6,rfl⟩:=h6.form;have H6:=Hw.bf h6.e8;clear h6 jn hL5 hq hc;go_wp2;exact⟨⟨k+1,_,_,_,by omega,by congr 1,by rw[HT.out];exact H6.out⟩,by simp[RowKit.intOf];omega⟩
  ·obtain rfl:k=n:=by omega
   have wV:¬ (k:Int)<(k:Int):=by omega
   have hz:(bM.zip ms).length=k:=by rw[List.length_zip,HN.out.1,HN.out.2];exact Nat.min_self k
   rw[aAQ (by omega)]at hI;have HF:=Hw.bf hI;clear hI hz;go_wp2;exact⟨rfl,ej _ _ _ _ _ _ _ _ _ _ _ _ _ _ _ _ _ _ _ _ _ _ _ _ _ _ _ _ _ _ _ _ _ _ _ _ _ _ _ _ _ _ _ _ _ _ _ _ _ _ _ _ _ _ _ _ _ _ _ _ _ _ _ _ _ _ HF.out⟩
end Go.AL
namespace Go.AL
open Go.Proofs Go.RowKit
variable [ZA]
attribute [local go_sem] Oper.semAt_some
def aiD(rs:List eB)(v:jf)(all:List ay)(s:ay)(c:Int):ay:=(s.1,s.2.1,s.2.2.1,s.2.2.2.1,MK rs v.2.2 c (all.zip v.2.1),s.2.2.2.2.2)
theorem JJ(rs:List eB)(v:jf)(all:List ay):∀(a b:List ay) (m m':List Int),a.length=m.length→kZ rs v all (a++b) (m++m')=kZ rs v all a m++kZ rs v all b m'
 | [],b,[],m',_=>rfl
 | s::a,b,c::m,m',h=>by
  simp only[aAS,kZ];rw[JJ rs v all a b m m' (by simpa using h)]
 | [],_,_::_,_,h=>by simp at h
 | _::_,_,[],_,h=>by simp at h
theorem uj(rs:List eB)(v:jf)(all:List ay):∀(a:List ay) (m:List Int),a.length=m.length→(kZ rs v all a m).length=a.length
 | [],[],_=>rfl
 | s::a,c::m,h=>by
  simp only[kZ,azL];rw[uj rs v all a m (by simpa using h)]
 | [],_::_,h=>by simp at h
 | _::_,[],h=>by simp at h
theorem JI(rs:List eB)(v:jf)(all:List ay):∀(a:List ay) (m:List Int),a.length=m.length→(kZ rs v all a m).map (·.1)=a.map (·.1)
 | [],[],_=>rfl
 | s::a,c::m,h=>by
  simp only[kZ,aAy];rw[JI rs v all a m (by simpa using h)]
 | [],_::_,h=>by simp at h
 | _::_,[],h=>by simp at h
def ly(rs:List eB)(v:jf)(all:List ay)(i:Nat):List ay:=kZ rs v all (all.take i) (v.2.1.take i)++all.drop i
section
variable {rs:List eB} {v:jf} {all:List ay} {n i:Nat}
theorem Yv(ha:all.length=n)(hm:v.2.1.length=n)(hi:i≤n):(ly rs v all i).length=n:=by
 unfold ly;rw[azG,uj _ _ _ _ _ (by simp;omega)];simp;omega
theorem Yw(ha:all.length=n)(hm:v.2.1.length=n)(hi:i≤n):(ly rs v all i).map (·.1)=all.map (·.1):=by
 unfold ly;rw[List.map_append,JI _ _ _ _ _ (by simp;omega),← List.map_append,aAT]
theorem afY(ha:all.length=n)(hm:v.2.1.length=n){s:ay}(hs:all[i]? = some s):(ly rs v all i)[i]? = some s:=by
 have hi:=(azR.1 hs).1;unfold ly;have hl:(kZ rs v all (all.take i) (v.2.1.take i)).length=i:=by grind[uj]
 grind
theorem Yu(ha:all.length=n)(hm:v.2.1.length=n){s:ay}(hs:all[i]? = some s){c:Int}(hc:v.2.1[i]? = some c):(ly rs v all i).set i (aiD rs v all s c)=ly rs v all (i+1):=by
 have hi:=(azR.1 hs).1;have hx:all[i]=s:=by grind
 unfold ly;have hl:(kZ rs v all (all.take i) (v.2.1.take i)).length=i:=by grind[uj]
 rw[List.set_append,azD (by omega),hl,aAX,aA4 hi,hx,List.set_cons_zero,aAz,aAz,hs,hc];grind[JJ,kZ,aiD]
theorem Yx(ha:all.length=n)(hm:v.2.1.length=n):ly rs v all n=kZ rs v all all v.2.1:=by
 unfold ly;grind
theorem Lk(ow:List Int)(c:Int):∀{a b:List ay} {ms:List Int},a.map (·.1)=b.map (·.1)→lL rs ow c (a.zip ms)=lL rs ow c (b.zip ms)
 | [],[],_,_=>rfl
 | x::a,y::b,[],_=>rfl
 | x::a,y::b,m::ms,h=>by
  simp only[aAy,aBw]at h;have ih:=Lk ow c (ms:=ms) h.2;unfold lL at *;simp_all
 | [],_::_,_,h=>by simp at h
 | _::_,[],_,h=>by simp at h
end
structure Zm.I8 (w8 wr:World) (G n i:Nat) (l:List ay):Prop where
 ev:Ev w8 wr (fun b=>b=G)
 own:aR wr (ef G) G 38 6 bl l (.slice (some ⟨G,0,none⟩) n n)
 nl4:∀i',i≤i'→i'<n→wr.cell? ⟨G,i'*6+4,none⟩=some (.slice none 0 0)
set_option maxRecDepth 100000 in
set_option maxHeartbeats 4000000 in
theorem Zm.lp8{ee:Act→World→Prop}(w8:World)(B7 G n:Nat)(all:List ay)(rs:List eB)(v:jf)(C6:Value)(ma oa:Option Addr)(mc oc:Nat){c1 c2 c3 c4 c5 c6 c8 c9 Gz zb yb zY zX Cx za Gy Gx zW zV ya Cw Cv Cu xZ yZ yY yX yW yV yU Dg Df De zU zT zS zR zQ zP zN zM zL zJ zH DC DB DA Ct Cs Cr Cq Cp Co Cn Cm Ck Cj Ci Ch Cg Cf Ce Cd Cc Cb zG yT yS yR yQ Dd Dc zF zD Io Im Il Ik Ij Ii Ih Ig Ie Ic Gw Gv Gu Gt Gs Gr Gq EM EL EK K0 KZ Gp mX mW mV mU mT mS mR mQ mP mO lJ mN mM mL mK mJ se sd rZ nR nQ nP nO nN nL nJ nH nG nF tf te td pW pV pU pT pS pR pQ pP pO pM pL pJ pI pH pG pF pE pD pC pB pA pz pw pv pk pj ph pg pf pe pd pb o9 o8 o7 o6 o5 oZ oY oX oW oV nE mI mH mG mF mE mD mC lI:Value}(gq:n≤1000)(L4:all.length=n)(Qh:v.2.1.length=n)
  (h8:Zm.I8 w8 w8 G n 0 all) (wu:∀t∈all,ct t.1=true∧t.1.length≤19)
  (Y9:Cl w8 (ef G) (.sl tP) rs C6) (Em:af rs=true) (V0:Cl w8 (ef G) (.sl [zI]) v.2.1 (.slice ma n mc)) (how:Cl w8 (ef G) (.sl [zI]) v.2.2 (.slice oa (v.2.2.length:Nat) oc)) (hB:B7<w8.heap.size) (tM:B7 ≠ G) (ec1:w8.cell? ⟨B7,1,none⟩=some (.slice ma n mc)) (ec2:w8.cell? ⟨B7,2,none⟩=some (.slice oa (v.2.2.length:Nat) oc))
  (ej:∀(u18 u19 u20 u21 u23 u24 u25 aox aow aov aou aot aos aor aoq WB WA Wz Wy Wx Ww Wv Wu Wt Ws Wr Wq Wp Jl Jk Jj Ji Jh Jg Jf Je Jd Jc Jb Ja I9 I7 I5 I4 I3 I2 I1 I0 IZ IY IX IW IV IU IT IS IQ IP IN IM IL IK IJ II IH IG IF IE ID IC IB Wo aoo aon aom aol aok aoj aoi:Value) (w':World),Zm.I8 w8 w' G n n (kZ rs v all all v.2.1)→ee ⟨List.toArray (C6::c1::c2::c3::c4::c5::c6::.pointer (some ⟨B7,0,none⟩)::c8::c9::.slice (some ⟨G,0,none⟩) n n::Gz::zb::yb::zY::zX::Cx::za::u18::u19::u20::u21::ya::u23::u24::u25::xZ::yZ::yY::yX::yW::yV::yU::Dg::Df::De::zU::zT::zS::zR::zQ::zP::zN::zM::zL::zJ::zH::DC::DB::DA::Ct::Cs::Cr::Cq::Cp::Co::Cn::Cm::Ck::Cj::Ci::Ch::Cg::Cf::Ce::Cd::Cc::Cb::zG::yT::yS::yR::yQ::Dd::Dc::zF::zD::Io::Im::Il::Ik::Ij::Ii::Ih::Ig::Ie::Ic::Gw::Gv::Gu::Gt::Gs::Gr::Gq::EM::EL::EK::K0::KZ::Gp::mX::mW::mV::mU::mT::mS::mR::mQ::mP::mO::lJ::.slice ma n mc::.int .i64 (n:Int)::aox::aow::aov::aou::aot::aos::aor::aoq::WB::WA::Wz::Wy::Wx::Ww::Wv::Wu::Wt::Ws::Wr::Wq::Wp::Jl::Jk::Jj::Ji::Jh::Jg::Jf::Je::Jd::Jc::Jb::Ja::I9::I7::I5::I4::I3::I2::I1::I0::IZ::IY::IX::IW::IV::IU::IT::IS::IQ::IP::IN::IM::IL::IK::IJ::II::IH::IG::IF::IE::ID::IC::IB::Wo::aoo::aon::aom::aol::aok::aoj::aoi::lI::[]),[]⟩ w') :
  Code.wp Tryz.prog (Zm.blk 8) (Zm.Qx 8 ee) ⟨List.toArray (C6::c1::c2::c3::c4::c5::c6::.pointer (some ⟨B7,0,none⟩)::c8::c9::.slice (some ⟨G,0,none⟩) n n::Gz::zb::yb::zY::zX::Cx::za::Gy::Gx::zW::zV::ya::Cw::Cv::Cu::xZ::yZ::yY::yX::yW::yV::yU::Dg::Df::De::zU::zT::zS::zR::zQ::zP::zN::zM::zL::zJ::zH::DC::DB::DA::Ct::Cs::Cr::Cq::Cp::Co::Cn::Cm::Ck::Cj::Ci::Ch::Cg::Cf::Ce::Cd::Cc::Cb::zG::yT::yS::yR::yQ::Dd::Dc::zF::zD::Io::Im::Il::Ik::Ij::Ii::Ih::Ig::Ie::Ic::Gw::Gv::Gu::Gt::Gs::Gr::Gq::EM::EL::EK::K0::KZ::Gp::mX::mW::mV::mU::mT::mS::mR::mQ::mP::mO::lJ::.slice ma n mc::.int .i64 (n:Int)::.int .i64 0::mN::mM::mL::mK::mJ::se::sd::rZ::nR::nQ::nP::nO::nN::nL::nJ::nH::nG::nF::tf::te::td::pW::pV::pU::pT::pS::pR::pQ::pP::pO::pM::pL::pJ::pI::pH::pG::pF::pE::pD::pC::pB::pA::pz::pw::pv::pk::pj::ph::pg::pf::pe::pd::pb::o9::o8::o7::o6::o5::oZ::oY::oX::oW::oV::nE::mI::mH::mG::mF::mE::mD::mC::lI::[]),[]⟩ w8:=by
 conv=>arg 2;whnf
 have yL:=Tryz.underlying61;have uK:=Tryz.underlying38;have YZ:=Tryz.underlying30;have Nf:=Tryz.underlying35;have HP:=Hw.bf (And.intro Y9 (And.intro how (And.intro ec2 (And.intro V0 (And.intro wu ec1)))));have HN:=Hw.bf (And.intro L4 Qh);have H0:=Hw.bf (show Zm.I8 w8 w8 G n 0 (ly rs v all 0)from h8);clear Y9 how ec2 V0 wu h8 L4 Qh ec1
 go_loopw [113] (fun i' wr=>∃(i:Nat),i≤n∧i'=.int .i64 (i:Int)∧Zm.I8 w8 wr G n i (ly rs v all i)) (fun i' _=>n-(RowKit.intOf i').toNat)
 case atStart=>exact⟨0,aAu _,rfl,H0.out⟩
 case round=>
  obtain⟨i,hk,rfl,hI⟩:=hrel;clear H0;by_cases bO:i<n
  ·have wV:(i:Int)<(n:Int):=by omega
   have Kl:(0:Int)≤(i:Int):=by omega
   clear ej;obtain⟨c,hc⟩:∃c,v.2.1[i]? = some c:=⟨_,azS (by have:=HN.out.2;omega)⟩;obtain⟨s,hs⟩:∃s,all[i]? = some s:=⟨_,azS (by have:=HN.out.1;omega)⟩;have up:∀{t:Ty} {x:t.T} {u:Value},Cl w8 (ef G) t x u→Cl wr (ef G) t x u:=fun hc=>hc.ev hI.ev (fun _ _ h=>.inr h) (fun _ _ h=>h)
   have c1r:wr.cell? ⟨B7,1,none⟩=some (.slice ma n mc):=(hI.ev.cell hB tM).trans HP.out.2.2.2.2.2;obtain⟨b,off,c',hv,hb,j6⟩:=FZ (cH.1 (up HP.out.2.2.2.1)) hc;have Qh:=HN.out.2;rw[Qh]at hv;obtain⟨rfl,-,rfl⟩:=Value.slice.inj hv;have Qi:=Yv (rs:=rs) HN.out.1 HN.out.2 hk;have Zr:=Yw (rs:=rs) HN.out.1 HN.out.2 hk;have fP:=afY (rs:=rs) HN.out.1 HN.out.2 hs;have Y6:=Zm.E8.start hI.own fP (hI.nl4 i (azJ _) bO);have alL:∀t∈ly rs v all i,ct t.1=true∧t.1.length≤19:=fun t ht=>by
    have h1:t.1∈(ly rs v all i).map (·.1):=az4.2 ⟨t,ht,rfl⟩;rw[Zr]at h1;obtain⟨t',h2,h3⟩:=az4.1 h1;rw[← h3];exact HP.out.2.2.2.2.1 t' h2
   have c2r:wr.cell? ⟨B7,2,none⟩=some (.slice oa (v.2.2.length:Nat) oc):=(hI.ev.cell hB tM).trans HP.out.2.2.1;have hBr:B7<wr.heap.size:=az3 hB hI.ev.size;have fQ:(lL rs v.2.2 c ((ly rs v all i).zip v.2.1)).length≤1099511627776:=by
    have h1:=vt rs v.2.2 c ((ly rs v all i).zip v.2.1) (fun p hp=>az0 (alL p.1 (List.of_mem_zip hp).1).2 (by omega));have h2:((ly rs v all i).zip v.2.1).length≤n:=by rw[List.length_zip];omega
    have h5:((ly rs v all i).zip v.2.1).length*1000000≤n*1000000:=aAh _ h2;omega
   have HA:=Hw.bf (Lk (rs:=rs) v.2.2 c (ms:=v.2.1) Zr);have HST:=Hw.bf (And.intro Y6 (And.intro alL (And.intro Qi (And.intro fP fQ))));have HUP:=Hw.bf (And.intro (up HP.out.1) (And.intro (up HP.out.2.2.2.1) (And.intro (up HP.out.2.1) c2r)));have HS:=Hw.bf (And.intro hs hc);have HI:=Hw.bf hI;clear hv up Qh Qi Zr fP Y6 alL fQ hs hc hI c2r;go_wp2;refine Zm.use (Zm.as0 wr B7 G n i (ly rs v all i) rs v.2.2 v.2.1 c C6 _ oa _ oc bO gq HST.out.2.2.1 HN.out.2 HST.out.1 HST.out.2.1 HUP.out.1 Em HUP.out.2.1 HUP.out.2.2.1 hBr tM HUP.out.2.2.2 ?_);intro u20 u21 u23 u24 u25 WB WA Wz Wy Wx Ww Wv Wu Wt Ws Wr Wq Wp Jl Jk Jj Ji Jh Jg Jf Je Jd Jc Jb Ja I9 I7 I5 I4 I3 I2 I1 I0 IZ IY IX IW IV IU IT IS IQ IP IN IM IL IK IJ II IH IG IF IE ID IC IB Wo w6 va6 vn6 vc6 h6;have BO:=h6.cell.1;have HSO:=Hw.bf (h6.sort HST.out.2.2.2.2 HST.out.2.2.2.1);clear h6 j6 c1r
   go_wp2_with (go_at_call 61;refine HSO.out.mono ?_;rintro en w7 ⟨rfl,ho7,at7,atp⟩)
   refine⟨⟨i+1,by omega,by congr 1,HI.out.ev.tr at7,?_,fun i' h1 h2=>(atp _ (by omega)).trans (HI.out.nl4 i' (by omega) h2)⟩,by simp[RowKit.intOf];omega⟩;have e:=Yu (rs:=rs) HN.out.1 HN.out.2 HS.out.1 HS.out.2;rw[← e];rw[HA.out]at ho7;exact ho7
  ·obtain rfl:i=n:=by omega
   have wV:¬ (i:Int)<(i:Int):=by omega
   rw[Yx HN.out.1 HN.out.2]at hI;have HF:=Hw.bf hI;clear hI;go_wp2;exact⟨rfl,ej _ _ _ _ _ _ _ _ _ _ _ _ _ _ _ _ _ _ _ _ _ _ _ _ _ _ _ _ _ _ _ _ _ _ _ _ _ _ _ _ _ _ _ _ _ _ _ _ _ _ _ _ _ _ _ _ _ _ _ _ _ _ _ _ _ _ _ _ _ _ _ _ _ _ _ _ _ _ _ _ HF.out⟩
end Go.AL
namespace Go.AL
open Go.Proofs Go.RowKit
attribute [local go_sem] Oper.semAt_some
def M5(l:List cC):Bool:=l.all fun r=>decide (r.2.2.2.2.1.length≤19)&&(decide (r.2.2.2.2.2.1.length≤19)&&r.2.2.2.2.2.1.all fun q=>decide (0≤q.2.1)&&decide (q.2.1≤4611686018427387904))
theorem Jt{ab:List cC}(h:M5 ab=true)(c au:Int):(dp (c,au,ab)).2.1.length≤19∧(∀r∈(dp (c,au,ab)).2.1,0≤r.2.1∧r.2.1≤4611686018427387904)∧(au≤19→(dp (c,au,ab)).1.length≤19):=by
 by_cases h0:bu (fun q:cC=>decide (q.1=c)) ab 0<0
 ·simp only[dp,azC h0,azH]
  grind
 ·have bO:bu (fun q:cC=>decide (q.1=c)) ab 0<0+(ab.length:Nat):=jO _ ab 0 (aBl 0)
  have hm:=azU.1 h (ab.getD (bu (fun q=>decide (q.1=c)) ab 0).toNat zq5) (by
   grind)
  simp only[azF,azM,azU]at hm;simp only[dp,azK h0,azI];grind
variable [ZA]
theorem afH{au:Int}{ab:List cC}(hs:au≤19)(hp:ab.all AZ=true)(hq:M5 ab=true)(d:List aj)(c:Int):Zm.OkS (ig au ab d c)∧(ig au ab d c).1.length≤19:=by
 have h1:=MB (d:=d) (show au≤1000000 by omega) (azU.1 hp) c;rw[← Bc]at h1;simp only[SK,azF,azM]at h1;have h2:=Jt hq c au;refine⟨⟨h1.1,h2.1,h2.2.1,rfl⟩,?_⟩;grind[ig,dp,Fs]
theorem ane{h:aj→Bool}{d:List aj}{m:List Int}{s:ay}(h1:Zm.OkS s)(h2:s.1.length≤19):ct (vq h d m s).1=true∧(vq h d m s).1.length≤19:=by
 rw[aaD h d m s h1.an];obtain⟨a1,a2⟩:=zg h d m s.2.1 s.1 [] [] h1.sl;exact⟨a1,by show(og h d m s.2.1 s.1 [] []).1.length≤_;omega⟩
def Zm.aaL(w:World)(l:List ay)(en:Ending)(w':World):Prop:=∃u,en=.returned u∧aR w' ZA.A w.heap.size 38 6 bl l u∧Below w.heap.size w w'
theorem Zm.fin{w w8 w':World}{G n:Nat}{rs:List eB}{au:Int}{ab:List cC}{v:jf}(hA:∀b,ZA.A b→b<w.heap.size)(Kd:w.heap.size≤G)(hB:Below w.heap.size w w8)(h:Zm.I8 w8 w' G n n (kZ rs v ((v.2.1.map (ig au ab (aX ab))).map (vq (fun x=>decide (x∈jK (v.2.1.map (ig au ab (aX ab))))) (aX ab) v.2.1)) ((v.2.1.map (ig au ab (aX ab))).map (vq (fun x=>decide (x∈jK (v.2.1.map (ig au ab (aX ab))))) (aX ab) v.2.1)) v.2.1)):
  Zm.aaL w (JH (rs,au,ab,v)) (.returned (.slice (some ⟨G,0,none⟩) n n)) w':=by
 refine⟨_,rfl,?_,?_⟩
 ·have e:JH (rs,au,ab,v)=kZ rs v ((v.2.1.map (ig au ab (aX ab))).map (vq (fun x=>decide (x∈jK (v.2.1.map (ig au ab (aX ab))))) (aX ab) v.2.1)) ((v.2.1.map (ig au ab (aX ab))).map (vq (fun x=>decide (x∈jK (v.2.1.map (ig au ab (aX ab))))) (aX ab) v.2.1)) v.2.1:=by
   grind[JH,Gk]
  rw[e];exact(h.own.mono Kd).ev (Ev.rf w' (fun _=>False)) (fun _ _ h=>h.elim) (fun b _ hb=>.inl ⟨az3 (hA b hb) Kd,hb⟩) (fun _ _ h=>h)
 ·have h1:=h.ev
  exact⟨h1.os.trans hB.os,h1.tape.trans hB.tape,h1.output.trans hB.output,az0 hB.size h1.size,fun b hb=>(h1.block b (az3 hb hB.size) (by omega)).trans (hB.block b hb)⟩
theorem Zm.bev{w w1 w2:World}{G:Nat}(Kd:w.heap.size≤G)(hB:Below w.heap.size w w1)(h1:Ev w1 w2 (fun b=>b=G)):Below w.heap.size w w2:=
 ⟨h1.os.trans hB.os,h1.tape.trans hB.tape,h1.output.trans hB.output,az0 hB.size h1.size,fun b hb=>(h1.block b (az3 hb hB.size) (by omega)).trans (hB.block b hb)⟩
set_option maxRecDepth 100000 in
set_option maxHeartbeats 4000000 in
theorem Zm.calls(w:World)(hA:∀b,ZA.A b→b<w.heap.size)(rs:List eB)(au:Int)(ab:List cC)(v:jf)(C6 ur pm po:Value)(Y9:Cl w ZA.A (.sl tP) rs C6)(L3:Cl w ZA.A (.sl eG) ab ur)(hpm:Cl w ZA.A (.sl [zI]) v.2.1 pm)(zw:Cl w ZA.A (.sl [zI]) v.2.2 po)(hp:FG (rs,au,ab,v)=true)(hq:M5 ab=true)(apM:au≤19):
  Calls Tryz.prog 19 #[C6,.int .i64 au,ur,.agg #[.int .i64 v.1,pm,po]] w (Zm.aaL w (JH (rs,au,ab,v))):=by
 have yL:=Tryz.underlying61;have YZ:=Tryz.underlying30;have HQ:=Hw.bf hp;simp only[FG,azF,azM]at hp;obtain⟨hp1,Kj,hp3,hp4,hp5⟩:=hp;obtain⟨Ko,Zv⟩:=Lg hp1;obtain⟨ma,mc,rfl⟩:=(show ∃a c,pm=.slice a (v.2.1.length:Nat) c from(cH.1 hpm).form);obtain⟨oa,oc,rfl⟩:=(show ∃a c,po=.slice a (v.2.2.length:Nat) c from(cH.1 zw).form);have Kw:Below w.heap.size w (w.alloc (.cells #[.int .i64 v.1,.slice ma (v.2.1.length:Nat) mc,.slice oa (v.2.2.length:Nat) oc] 30)):=(Below.refl _ _).alloc (azJ _) _;have hbv:=HB.new w 30 #[.int .i64 v.1,.slice ma (v.2.1.length:Nat) mc,.slice oa (v.2.2.length:Nat) oc];have HD:=Hw.bf (Zd.calls _ ab ur ((cH.1 (L3.low Kw)).fr (cz.refl _ _) (cz.refl _ _) (azJ _) (fun _ _ h=>h.elim) (fun _ _ h=>h.elim)) Ko Zv);have HP:=Hw.bf (And.intro Y9 (And.intro L3 (And.intro hpm zw)));have HB1:=Hw.bf (And.intro Kw hbv);obtain⟨n,hn⟩:∃n,v.2.1.length=n:=⟨_,rfl⟩;have HN:=Hw.bf hn;have gq:n≤1000:=by omega
 rw[hn]at HD HB1 HP ⊢;have HOK:=Hw.bf (fun c=>afH apM Kj hq (aX ab) c);have HDL:=Hw.bf (oU _ hp1);clear Y9 L3 hpm zw Kw hbv hp1 Kj hp3 Ko Zv hn hp5 hq apM;go_enter Tryz.func19,Tryz.ntmps19
 go_upto_region 2 with(go_at_call 17;refine HD.out.mono ?_;rintro en w2 ⟨ud,rfl,Da,hBd⟩)
 have Ql:Below w.heap.size w w2:=HB1.out.1.trans (hBd.mono HB1.out.1.size);have c1:w2.cell? ⟨w.heap.size,1,none⟩=some (.slice ma n mc):=(hBd.cell (p:=⟨w.heap.size,1,none⟩) (by simp)).trans (HB1.out.2.cell 1);have c2:w2.cell? ⟨w.heap.size,2,none⟩=some (.slice oa (v.2.2.length:Nat) oc):=(hBd.cell (p:=⟨w.heap.size,2,none⟩) (by simp)).trans (HB1.out.2.cell 2);have hG:w.heap.size<w2.heap.size:=az3 (by simp) hBd.size;obtain⟨G,hGe⟩:∃G,G=w2.heap.size:=⟨_,rfl⟩;have Kd:w.heap.size<G:=by omega
 have hcd:Cl w2 (ef G) (.sl aE) (aX ab) ud:=by
  have h1:aR w2 (ef G) (w.heap.size+1) 48 3 aE (aX ab) ud:=by
   rcases Da with h | ⟨g,cap,cur,e1,e2,e3,e4,e5,e6,e7⟩
   ·exact .inl h
   ·refine .inr ⟨g,cap,cur,e1,by simpa using e2,e3,e4,e5,e6,fun i x hx=>?_⟩
    obtain⟨us,k1,k2,k3⟩:=e7 i x hx;have gV:=l6 k1;subst gV;exact⟨_,iQ,k2,k3⟩
  exact h1.cl rfl fun g hg he=>by
   have h2:=h1.lt hg;rcases he with he | he
   ·have:=hA g he.2;omega
   ·omega
 obtain⟨da,dc,rfl⟩:=(show ∃a c,ud=.slice a ((aX ab).length:Nat) c from Da.form);have HD2:=Hw.bf (And.intro Ql hcd);clear HD HB1 Da hBd Ql hcd
 go_upto_region 3 with(refine Zm.aoa rfl 61 (.tmp 30) (.tmp 30) rfl rfl rfl (Zm.mk w2 n gq) ?_;rintro r w3 ⟨rfl,VX,rh⟩)
 have k1:w3.cell? ⟨w.heap.size,1,none⟩=some (.slice ma n mc):=(rh.cell (p:=⟨w.heap.size,1,none⟩) hG).trans c1;have k2:w3.cell? ⟨w.heap.size,2,none⟩=some (.slice oa (v.2.2.length:Nat) oc):=(rh.cell (p:=⟨w.heap.size,2,none⟩) hG).trans c2;have hG3:G<w3.heap.size:=hGe▸(VX.lt (g:=w2.heap.size) rfl).2;have aqE:=HD2.out.1.trans (rh.mono HD2.out.1.size);have hd3:=HD2.out.2.low rh;rw[← hGe]at VX ⊢;have HO:=Hw.bf (And.intro (Zm.ahv (f:=ig au ab (aX ab)) (ms:=v.2.1) VX) (And.intro aqE (And.intro hd3 (And.intro k1 k2))));clear VX rh c1 c2 hG HD2 aqE hd3 k2 hGe;go_wp2;refine Zm.use (Zm.lp0 w w3 G n rs au ab v ur ma da mc dc HP.out.2.1 (HP.out.2.2.1.fr (cz.refl _ _) (azJ _) (fun _ _ h=>h.elim)) HN.out HQ.out HO.out.2.1 (aAR Kd) hG3 HO.out.2.2.1 HO.out.1 ?_);intro u11 u12 u14 u15 u35 u36 u37 u38 u39 u40 u41 u42 u43 u44 u45 u46 u47 u48 u49 u50 u51 u52 u53 u54 u55 u56 u57 u58 u59 u60 u61 u62 u63 u64 u65 u66 u67 u68 u69 u70 u71 u72 u73 u74 u75 u76 u77 u78 u79 u80 u81 u82 u83 u84 u85 u86 u87 u88 u89 u90 u91 u92 u93 w4 h4;have ZF:=Zm.bev (aAR Kd) HO.out.2.1 h4.1.1;obtain⟨bM,Y5⟩:∃l,l=v.2.1.map (ig au ab (aX ab)):=⟨_,rfl⟩;have Qg:aR w4 (ef G) G 38 6 bl bM (.slice (some ⟨G,0,none⟩) n n):=by
  have:=h4.1.2;rw[aAQ (aBt HN.out),aAX,List.replicate_zero,aAc]at this;rw[Y5];exact this
 have hln:bM.length=n:=by rw[Y5,aA7];exact HN.out
 have dS:∀s∈bM,Zm.OkS s∧s.1.length≤19:=fun s hs=>by
  rw[Y5]at hs;obtain⟨c,_,rfl⟩:=az4.1 hs;exact HOK.out c
 have hG4:G<w4.heap.size:=(Qg.lt (g:=G) rfl).2;have HH:=Hw.bf (Zh.calls w4 bM _ (Qg.sl rfl (X:=fun _=>False) (fun _ _ h=>h)) (by omega) (fun s hs=>az0 (dS s hs).2 (by omega)));have d4:=HO.out.2.2.1.ev h4.1.1 (fun b _ h=>.inr h) (fun _ _ h=>h);have k4:w4.cell? ⟨w.heap.size,1,none⟩=some (.slice ma n mc):=(h4.1.1.cell (aBX Kd hG3) (by omega)).trans HO.out.2.2.2.1;have k4b:w4.cell? ⟨w.heap.size,2,none⟩=some (.slice oa (v.2.2.length:Nat) oc):=(h4.1.1.cell (aBX Kd hG3) (by omega)).trans HO.out.2.2.2.2;have HS:=Hw.bf (And.intro hln (And.intro dS Y5));have H4:=Hw.bf (And.intro ZF (And.intro Qg (And.intro h4.2 (And.intro d4 (And.intro k4 k4b)))));clear ZF Qg hln dS h4 d4 k4 k4b Y5 HO k1
 go_wp2_with (go_at_call 56;refine HH.out.mono ?_;rintro en w5 ⟨rfl,hM5,jn⟩)
 have hG5:G<w5.heap.size:=az3 hG4 jn.size;obtain⟨g,hg⟩:∃g,g=vq (fun x=>decide (x∈jK bM)) (aX ab) v.2.1:=⟨_,rfl⟩;have h60:Zm.I6 w5 w5 G n 0 g bM:=by
  obtain⟨_,q2,q3,_⟩:=H4.out;refine⟨Ev.rf _ _,?_,fun i _ h2=>(jn.cell (p:=⟨G,i*6+3,none⟩) hG4).trans (q3 i h2).1,fun i h2=>(jn.cell (p:=⟨G,i*6+4,none⟩) hG4).trans (q3 i h2).2⟩;exact q2.ev (et jn (fun _=>False)) (fun _ _ h=>h.elim) (fun _ _ h=>h) (fun _ _ h=>h)
 have amk:=H4.out.1.trans (jn.mono H4.out.1.size);have up5:∀{t:Ty} {x:t.T} {u:Value},Cl w ZA.A t x u→Cl w5 (ef G) t x u:=fun h=>h.up (aAR Kd) amk
 have hw5:w.heap.size<w5.heap.size:=aBX Kd hG5;have dU:w.heap.size ≠ G:=Nat.ne_of_lt Kd;have k5:w5.cell? ⟨w.heap.size,1,none⟩=some (.slice ma n mc):=(jn.cell (p:=⟨w.heap.size,1,none⟩) (aBX Kd hG4)).trans H4.out.2.2.2.2.1;have k5b:w5.cell? ⟨w.heap.size,2,none⟩=some (.slice oa (v.2.2.length:Nat) oc):=(jn.cell (p:=⟨w.heap.size,2,none⟩) (aBX Kd hG4)).trans H4.out.2.2.2.2.2;have H5:=Hw.bf (And.intro h60 (And.intro amk (And.intro hM5 (And.intro (up5 HP.out.1) (And.intro (up5 HP.out.2.2.1) (And.intro (up5 HP.out.2.2.2) (And.intro (H4.out.2.2.2.1.low jn) (And.intro k5 k5b))))))));clear h60 amk hM5 jn up5 k5 k5b H4 HH;refine Zm.use (Zm.lp6 w5 w.heap.size G n w4.heap.size g bM (jK bM) (aX ab) v.2.1 _ _ _ HS.out.1 gq H5.out.1 (fun s hs=>(HS.out.2.1 s hs).1) H5.out.2.2.2.2.2.2.1 (by have:=HDL.out;omega) H5.out.2.2.2.2.1 (by have:=HN.out;omega) H5.out.2.2.1 (by omega) hg hw5 dU H5.out.2.2.2.2.2.2.2.1 ?_);intro u17 u98 u99 aoH aoG aoF aoE aoD aoC aoB aoA aoz aoy w6 h6;have fQ:Kz g bM n=bM.map g:=by rw[← HS.out.1];exact Qt g bM
 have up6:∀{t:Ty} {x:t.T} {u:Value},Cl w5 (ef G) t x u→Cl w6 (ef G) t x u:=fun h=>h.ev h6.ev (fun b _ h=>.inr h) (fun _ _ h=>h)
 have hw6:w.heap.size<w6.heap.size:=az3 hw5 h6.ev.size;have k6:w6.cell? ⟨w.heap.size,1,none⟩=some (.slice ma n mc):=(h6.ev.cell hw5 dU).trans H5.out.2.2.2.2.2.2.2.1;have k6b:w6.cell? ⟨w.heap.size,2,none⟩=some (.slice oa (v.2.2.length:Nat) oc):=(h6.ev.cell hw5 dU).trans H5.out.2.2.2.2.2.2.2.2;have h8:Zm.I8 w6 w6 G n 0 (bM.map g):=⟨Ev.rf _ _,by rw[← fQ];exact h6.own,fun i _ h2=>h6.nl4 i h2⟩;have apH:∀t∈bM.map g,ct t.1=true∧t.1.length≤19:=fun t ht=>by
  obtain⟨s,hs,rfl⟩:=az4.1 ht;rw[hg];exact ane (HS.out.2.1 s hs).1 (HS.out.2.1 s hs).2
 have H6:=Hw.bf (And.intro h8 (And.intro apH (And.intro (up6 H5.out.2.2.2.1) (And.intro (up6 H5.out.2.2.2.2.1) (And.intro (up6 H5.out.2.2.2.2.2.1) (And.intro k6b (Zm.bev (aAR Kd) H5.out.2.1 h6.ev)))))));have HG:=Hw.bf hg;clear h8 apH up6 h6 H5 fQ k6b hg;go_wp2;refine Zm.use (Zm.lp8 w6 w.heap.size G n (bM.map g) rs v C6 _ oa _ oc gq (by rw[aA7];exact HS.out.1) HN.out H6.out.1 H6.out.2.1 H6.out.2.2.1 hp4 H6.out.2.2.2.1 H6.out.2.2.2.2.1 hw6 dU k6 H6.out.2.2.2.2.2.1 ?_);intro u18 u19 u20 u21 u23 u24 u25 aox aow aov aou aot aos aor aoq WB WA Wz Wy Wx Ww Wv Wu Wt Ws Wr Wq Wp Jl Jk Jj Ji Jh Jg Jf Je Jd Jc Jb Ja I9 I7 I5 I4 I3 I2 I1 I0 IZ IY IX IW IV IU IT IS IQ IP IN IM IL IK IJ II IH IG IF IE ID IC IB Wo aoo aon aom aol aok aoj aoi w7 h7;have Zt:Zm.aaL w (JH (rs,au,ab,v)) (.returned (.slice (some ⟨G,0,none⟩) n n)) w7:=by
  refine Zm.fin hA (aAR Kd) H6.out.2.2.2.2.2.2 ?_;rw[HG.out,HS.out.2.2]at h7;exact h7
 clear h7 H6 k6;go_wp2;go_ret;exact Zt
end Go.AL
namespace Go.AL
open Go.RowKit
theorem amJ{P:Program}{g:FuncId}{ad:List AK}{t:Ty}{pre:dA ad→Bool}{fn:dA ad→t.T}(h:∀a,pre a=true→∀(w:World) (A:Nat→Prop),(∀b,A b→b<w.heap.size)→∀us:Array Value,yE w A ad a us.toList→Calls P g us w (fun en w'=>∃u,en=.returned u∧Cl w' A t (fn a) u∧Below w.heap.size w w')):dn.Ok P ⟨g,ad,[.v t],pre,fn⟩:=by
 intro a hp vs hv;refine⟨fun rds h=>XC _ _ rds h,fun w A us hA dO hrel=>?_⟩
 haveI:ZA:=⟨A⟩
 have ha:yE w A ad a us.toList:=anh hv (QJ (by rw[aAU];exact dO.symm) fun i x hx=>by
  grind)
 refine(h a hp w A hA us ha).mono fun en w' hh=>?_
 obtain⟨u,rfl,⟨v,hv1,VU⟩,hB⟩:=hh;have cR:∀o ob,gC [RD.v v] o=some ob→False:=fun o ob h=>by
  match o,h with
  | 0,h=>cases h
  | o+1,h=>simp[gC]at h
 refine⟨[.v v],[u],iE,A,(⟨.v v,rfl,v,rfl,hv1⟩:∃rd,[RD.v v]=[rd]∧tn (.v t) (fn a) rd),rfl,rfl,⟨fun o ob ho=>(cR o ob ho).elim,fun o o' ob ob' b h1 _ _ _=>(cR o ob h1).elim,fun b hb=>az3 (hA b hb) hB.size⟩,fun k rd hk=>?_,fun b _ h=>h,⟨hB.os,hB.tape,hB.output,hB.size,fun q hq _=>hB.block q hq⟩,fun k ob b h1 _=>(cR k ob h1).elim⟩
 match k,hk with
 | 0,hk=>
  simp at hk;subst hk;exact⟨u,rfl,cD.aN VU⟩
 | k+1,hk=>simp at hk
end Go.AL
namespace Go.Proofs
open Go.AL Go.RowKit
noncomputable def Sd:dn:=⟨17,[.rd eG],[.v (.sl aE)],fun a:List cC=>xe a,fun a:List cC=>aX a⟩
theorem LO:Sd.Ok Tryz.prog:=amJ (ad:=[.rd eG]) (t:=.sl aE) (pre:=fun a:List cC=>xe a) (fn:=fun a:List cC=>aX a) fun a hp w A hA us ha=>by
 haveI:ZA:=⟨A⟩
 have hp:xe a=true:=hp;obtain⟨u,e,hu⟩:=(show ∃u,us.toList=[u]∧Ag w A (.rd eG) a u from ha);have gV:us=#[u]:=by rw[← aB8 (xs:=us),e]
 subst gV;obtain⟨h1,h2⟩:=Lg hp;refine(Zd.calls w a u ((aq5 hu).fr (cz.refl _ _) (cz.refl _ _) (azJ _) (fun _ _ h=>h.elim) (fun _ _ h=>h.elim)) h1 h2).mono fun en w' hh=>?_
 obtain⟨v,rfl,ho,hB⟩:=hh;have h3:aR w' A w.heap.size 48 3 aE (aX a) v:=by
  rcases ho with h | ⟨g,cap,cur,e1,e2,e3,e4,e5,e6,e7⟩
  ·exact .inl h
  ·refine .inr ⟨g,cap,cur,e1,e2,e3,e4,e5,e6,fun i x hx=>?_⟩
   obtain⟨us,k1,k2,k3⟩:=e7 i x hx;have gV:=l6 k1;subst gV;exact⟨_,iQ,k2,k3⟩
 exact⟨v,rfl,h3.cl rfl fun g hg he=>by have:=(h3.lt hg).1;have:=hA g he;omega,hB⟩
def FV(a:List eB×Int×List cC×jf):Bool:=FG a&&(M5 a.2.2.1&&decide (a.2.1≤19))
theorem Yp(rs:List eB)(au:Int)(ab:List cC)(v:jf)(h:FV (rs,au,ab,v)=true):FG (rs,au,ab,v)=true∧M5 ab=true∧au≤19:=by
 simp only[FV,azF,azM]at h;exact h
noncomputable def R8:dn:=⟨19,[.c (.sl tP),.c zI,.c (.sl eG),.g Jp],[.v (.sl bl)],fun a:List eB×Int×List cC×jf=>FV a,fun a:List eB×Int×List cC×jf=>gi a⟩
theorem LL:R8.Ok Tryz.prog:=amJ (ad:=[.c (.sl tP),.c zI,.c (.sl eG),.g Jp]) (t:=.sl bl) (pre:=fun a:List eB×Int×List cC×jf=>FV a) (fn:=fun a:List eB×Int×List cC×jf=>gi a) fun a hp w A hA us ha=>by
 obtain⟨rs,au,ab,v⟩:=(a:List eB×Int×List cC×jf);have hp:=Yp _ _ _ _ hp;obtain⟨u0,r0,e0,h0,u1,r1,rfl,h1,u2,r2,rfl,h2,u3,rfl,h3⟩:=(show ∃u0 r0,us.toList=u0::r0∧Ag w A (.c (.sl tP)) rs u0∧∃u1 r1,r0=u1::r1∧Ag w A (.c zI) au u1∧∃u2 r2,r1=u2::r2∧Ag w A (.c (.sl eG)) ab u2∧∃u3,r2=[u3]∧Ag w A (.g Jp) v u3 from ha);have gV:us=#[u0,u1,u2,u3]:=by rw[← aB8 (xs:=us),e0]
 subst gV;obtain rfl:=xh (aaG h1);obtain⟨vs,rfl,hv⟩:=aq6 h3;obtain⟨p1,p2,ev,q1,q2⟩:=aeG hv;have tL:vs=#[.int .i64 v.1,p1,p2]:=by rw[← aB8 (xs:=vs),ev]
 subst tL;refine(@Zm.calls ⟨A⟩ w hA rs au ab v u0 u2 p1 p2 (aaG h0) (aaG h2) q1 q2 hp.1 hp.2.1 hp.2.2).mono fun en w' hh=>?_
 obtain⟨u,rfl,ho,hB⟩:=hh;refine⟨u,rfl,?_,hB⟩;have ho:aR w' A w.heap.size 38 6 bl (JH (rs,au,ab,v)) u:=ho;show Cl w' A (.sl bl) (gi (rs,au,ab,v)) u;rw[← afI];exact ho.cl rfl fun g hg he=>by have:=(ho.lt hg).1;have:=hA g he;omega
