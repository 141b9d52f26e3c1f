/- By an AI agent. -/
import Derived.Test.YtfggefeflojnkaaGreatZ18b
import Derived.Test.YtfggefeflojnkaaGreatZ17
set_option linter.unusedSectionVars false
namespace Go.AL
open Go.Proofs Go.RowKit
variable [ZA]
attribute [local go_sem] Oper.semAt_some
def lT(rs:List bA)(ow:List Int)(c:Int)(l:List (ao×Int)):List ay:=l.flatMap fun p=>(gg (p.1.1,p.2)).filter (fa rs ow c)
theorem Vy(rs:List bA)(ow:List Int)(c:Int)(l:List (ao×Int))(p:ao×Int):lT rs ow c (l++[p])=lT rs ow c l++(gg (p.1.1,p.2)).filter (fa rs ow c):=by
 unfold lT;rw[List.flatMap_append];simp
theorem Zm.avi{P:Program}{b:Nat}{c:Code}{Q:Exit→Act→World→Prop}{a:Act}{w:World}(h:c.wp P (Zm.Qx b (Q .normal)) a w):c.wp P (Exit.inBlock b Q) a w:=wp_mono h fun e a w hq=>by
 cases e with
 | exit i=>
  obtain⟨rfl,hk⟩:=hq;show if i=i then _ else _
  rw[aCr rfl];exact hk
 | _=>exact hq.elim
theorem vB(rs:List bA)(ow:List Int)(c:Int):∀(l:List (ao×Int)),(∀p∈l,p.1.1.length≤1000000)→(lT rs ow c l).length≤l.length*1000000
 | [],_=>by simp[lT]
 | p::l,h=>by
  have h1:=vB rs ow c l (fun x hx=>h x (aCQ _ hx));have h2:=aET (fa rs ow c) (gg (p.1.1,p.2));have h3:=vd p.1.1 p.2;have h4:=h p aCK;have e:lT rs ow c (p::l)=(gg (p.1.1,p.2)).filter (fa rs ow c)++lT rs ow c l:=by unfold lT;rw[aEC]
  rw[e,aCp,aCv];omega
theorem Vx{rs:List bA}{ow:List Int}{c:Int}{bX:List ao}{ms:List Int}{k:Nat}{t:ao}{m:Int}(ht:bX[k]? = some t)(hm:ms[k]? = some m):lT rs ow c ((bX.zip ms).take (k+1))=lT rs ow c ((bX.zip ms).take k)++(gg (t.1,m)).filter (fa rs ow c):=by
 have hz:(bX.zip ms)[k]? = some (t,m):=by rw[aFa];exact⟨ht,hm⟩
 rw[aDn,hz];exact Vy rs ow c _ (t,m)
theorem Zm.E8.axa{wi wr:World}{G n i:Nat}{bX:List ao}{acc:List ay}{ve:Value}(h:Zm.E8 wi wr G n i bX acc ve){l:List ax}{q:Value}(hq:Cl wr (Aq G ve) (.sl aW) l q)(hl:br l=true)(Ky:l.length≤19)(m:Int):
  Calls Tryz.prog 58 #[q,.int .i64 m] wr fun en w'=>∃la lc,en=.returned (.slice la ((gg (l,m)).length:Nat) lc)∧Below wr.heap.size wr w'∧Cl w' (Aq G ve) (.sl aJ) (gg (l,m)) (.slice la ((gg (l,m)).length:Nat) lc):=by
 refine(Hw.call W0 ((l,m):List ax×Int) (show U1 (l,m)=true by simp only[U1,aCs,aCy];exact⟨hl,Ky⟩) (A:=Aq G ve) h.hA (us:=#[q,.int .i64 m]) (Hy.two (Ag.rdc hq) Ag.int)).mono fun en w' hh=>?_
 obtain⟨us,A',rfl,hr,sY,hA',hB⟩:=hh;obtain⟨u,rfl,ho,hg⟩:=(show ∃u',us=[u']∧bk w' A' wr.heap.size 69 13 aJ (gg (l,m)) u'∧∀g,u'.ownBlock=some g→A' g from hr);have hc:Cl w' (Aq G ve) (.sl aJ) (gg (l,m)) u:=(ho.ev (Ev.rf w' (fun _=>False)) (fun _ _ h=>h.elim) (fun b _ hb=>sY b hb) (fun b _ h=>by first | exact h | exact .inr h | exact .inl (.inr h))).cl rfl (fun g hg hb=>by have:=(ho.lt hg).1;have:=h.hA g hb;omega);obtain⟨a,c,rfl⟩:=(show ∃a c,u=.slice a ((gg (l,m)).length:Nat) c from ho.form);exact⟨a,c,rfl,hB,hc⟩
set_option maxRecDepth 100000 in
set_option maxHeartbeats 4000000 in
theorem Zm.avH{fv:Act→World→Prop}(wi:World)(B7 G n i:Nat)(bX:List ao)(rs:List bA)(ow ms:List Int)(c:Int)(CC:Value)(ma oa:Option Addr)(mc oc:Nat){c1 c2 c3 c4 c5 c6 c8 c9 Vp Gl El IN IM Lg Gk IL IK Ek Lf Le Ld Ej Ei Eh Eg Ef Ee Ed Lc Lb La Gj Gi Gh Gg Gf Ge Gd Gc Gb Ga F9 Mw Mv Mu IJ II IH IG IF IE ID IC IB IA Iz Iy Ix Iw Iv Iu It Is F8 F7 F6 F5 F4 Mt Ms Ir Iq Ip Io Im Il Ik Ij Ii Ih Ig Ie F3 F2 F1 F0 FZ FY FX Ec Eb Ea K9 K8 FW nz ny nw nv nu nt ns nr nq np lR qo qm qk nm nk nj ni nh oC oB oA oz oy ox ov ou ot oq tC tB tA qj qi qh qg qf qe qd qb pZ pY pX pW pV pU pT pS pR pQ pP pO pM pL pJ pI pH pG pF pE pD pC pB pA pz pw pv pk pj ph pg pf pe pd oo ng nf nd mZ mY mX mW lQ:Value}(hi:i<n)(gv:n≤1000)(hsn:bX.length=n)(hmn:ms.length=n)
  (h8:Zm.E8 wi wi G n i bX [] (.slice none 0 0)) (wJ:∀t∈bX,br t.1=true∧t.1.length≤19)
  (hrs:Cl wi (eu G) (.sl dB) rs CC) (DP:af rs=true) (Xi:Cl wi (eu G) (.sl [.int .i64]) ms (.slice ma n mc)) (how:Cl wi (eu G) (.sl [.int .i64]) ow (.slice oa (ow.length:Nat) oc)) (hB:B7<wi.heap.size) (ue:B7 ≠ G) (ec2:wi.cell? ⟨B7,2,none⟩=some (.slice oa (ow.length:Nat) oc))
  (ga:∀(u20 u21 u23 u24 u25 XQ XP XO XN XM XL XK XJ XH XG XF XE XD JJ JI JH JG JF JE JD JC JB JA Jz Jy Jx Jw Jv Ju Jt Js Jr Jq Jp Jo Jn Jm Jl Jk Jj Ji Jh Jg Jf Je Jd Jc Jb Ja I9 I7 I5 I4 I3 I2 I1 XC:Value) (w':World) (va:Option Addr) (vn vc:Nat),Zm.E8 wi w' G n i bX (lT rs ow c (bX.zip ms)) (.slice va vn vc)→fv ⟨List.toArray (CC::c1::c2::c3::c4::c5::c6::.pointer (some ⟨B7,0,none⟩)::c8::c9::.slice (some ⟨G,0,none⟩) n n::Vp::Gl::El::IN::IM::Lg::Gk::.int .i64 (i:Int)::.int .i64 c::u20::u21::Ek::u23::u24::u25::Ej::Ei::Eh::Eg::Ef::Ee::Ed::Lc::Lb::La::Gj::Gi::Gh::Gg::Gf::Ge::Gd::Gc::Gb::Ga::F9::Mw::Mv::Mu::IJ::II::IH::IG::IF::IE::ID::IC::IB::IA::Iz::Iy::Ix::Iw::Iv::Iu::It::Is::F8::F7::F6::F5::F4::Mt::Ms::Ir::Iq::Ip::Io::Im::Il::Ik::Ij::Ii::Ih::Ig::Ie::F3::F2::F1::F0::FZ::FY::FX::Ec::Eb::Ea::K9::K8::FW::nz::ny::nw::nv::nu::nt::ns::nr::nq::np::lR::qo::qm::qk::nm::nk::nj::ni::nh::.slice ma n mc::.int .i64 (n:Int)::XQ::XP::XO::XN::XM::XL::XK::XJ::XH::XG::XF::XE::XD::JJ::JI::JH::JG::JF::JE::JD::JC::JB::JA::Jz::Jy::Jx::Jw::Jv::Ju::Jt::Js::Jr::Jq::Jp::Jo::Jn::Jm::Jl::Jk::Jj::Ji::Jh::Jg::Jf::Je::Jd::Jc::Jb::Ja::I9::I7::I5::I4::I3::I2::I1::XC::ng::nf::nd::mZ::mY::mX::mW::lQ::[]),[]⟩ w') :
  Code.wp Tryz.prog (Zm.blk 10) (Zm.Qx 10 fv) ⟨List.toArray (CC::c1::c2::c3::c4::c5::c6::.pointer (some ⟨B7,0,none⟩)::c8::c9::.slice (some ⟨G,0,none⟩) n n::Vp::Gl::El::IN::IM::Lg::Gk::.int .i64 (i:Int)::.int .i64 c::IL::IK::Ek::Lf::Le::Ld::Ej::Ei::Eh::Eg::Ef::Ee::Ed::Lc::Lb::La::Gj::Gi::Gh::Gg::Gf::Ge::Gd::Gc::Gb::Ga::F9::Mw::Mv::Mu::IJ::II::IH::IG::IF::IE::ID::IC::IB::IA::Iz::Iy::Ix::Iw::Iv::Iu::It::Is::F8::F7::F6::F5::F4::Mt::Ms::Ir::Iq::Ip::Io::Im::Il::Ik::Ij::Ii::Ih::Ig::Ie::F3::F2::F1::F0::FZ::FY::FX::Ec::Eb::Ea::K9::K8::FW::nz::ny::nw::nv::nu::nt::ns::nr::nq::np::lR::qo::qm::qk::nm::nk::nj::ni::nh::.slice ma n mc::.int .i64 (n:Int)::.int .i64 0::oC::oB::oA::oz::oy::ox::ov::ou::ot::oq::tC::tB::tA::qj::qi::qh::qg::qf::qe::qd::qb::pZ::pY::pX::pW::pV::pU::pT::pS::pR::pQ::pP::pO::pM::pL::pJ::pI::pH::pG::pF::pE::pD::pC::pB::pA::pz::pw::pv::pk::pj::ph::pg::pf::pe::pd::oo::ng::nf::nd::mZ::mY::mX::mW::lQ::[]),[]⟩ wi:=by
 conv=>arg 2;whnf
 have Kt:=Tryz.underlying61;have C2:=Tryz.underlying38;have aaB:=Tryz.underlying30;have ah6:=Tryz.underlying35;have HP:=Hw.bT (And.intro hrs (And.intro how (And.intro ec2 (And.intro Xi wJ))));have HN:=Hw.bT (And.intro hsn hmn);have H0:=Hw.bT (show Zm.E8 wi wi G n i bX (lT rs ow c ((bX.zip ms).take 0)) (.slice none 0 0)from h8);clear hrs how ec2 Xi wJ h8 hsn hmn
 go_loopw [121] (fun i' wr=>∃(k:Nat) (va:Option Addr) (vn vc:Nat),k≤n∧i'=.int .i64 (k:Int)∧Zm.E8 wi wr G n i bX (lT rs ow c ((bX.zip ms).take k)) (.slice va vn vc)) (fun i' _=>n-(RowKit.intOf i').toNat)
 case atStart=>exact⟨0,_,_,_,aDj _,rfl,H0.out⟩
 case round=>
  obtain⟨k,va,vn,vc,hk,rfl,hI⟩:=hrel;clear H0;by_cases cg:k<n
  ·have xi:(k:Int)<(n:Int):=by omega
   have Rk:(0:Int)≤(k:Int):=by omega
   clear ga;obtain⟨m,hm⟩:∃m,ms[k]? = some m:=⟨_,aCF (by have:=HN.out.2;omega)⟩;obtain⟨t,ht⟩:∃t,bX[k]? = some t:=⟨_,aCF (by have:=HN.out.1;omega)⟩;obtain⟨b,off,c',hv,hb,hc⟩:=Fx (cX.1 (hI.pure HP.out.2.2.2.1)) hm;have hmn:=HN.out.2;rw[hmn]at hv;obtain⟨rfl,-,rfl⟩:=Value.slice.inj hv;obtain⟨q,hq,sK⟩:=hI.ai ht;obtain⟨qa,qn,qc,rfl⟩:=sK.form;have hts:=HP.out.2.2.2.2 t (aCC ht);have HE:=Hw.bT (hI.axa sK hts.1 hts.2 m);have HT:=Hw.bT (Vx (rs:=rs) (ow:=ow) (c:=c) ht hm);have lG:(lT rs ow c ((bX.zip ms).take k)).length+(gg (t.1,m)).length≤1000000000:=by
    have h1:=vB rs ow c ((bX.zip ms).take k) (fun p hp=>aCO (HP.out.2.2.2.2 p.1 (List.of_mem_zip (aDT hp)).1).2 (by omega));have h2:=List.length_take_le k (bX.zip ms);have h3:=vd t.1 m;have h4:=hts.2;have h5:((bX.zip ms).take k).length*1000000≤k*1000000:=aDa _ h2;omega
   have sW:(gg (t.1,m)).length≤1000000:=aCO (aCO (vd t.1 m) hts.2) (by omega);have HI:=Hw.bT (And.intro hI (And.intro lG sW));clear hv sK hts ht hm hmn hI lG sW
   go_wp2_with (go_at_call 58;refine HE.out.mono ?_;rintro en w5 ⟨la,lc,rfl,ki,hL5⟩)
   refine Zm.avi (Zm.avG wi w5 B7 G n i bX (lT rs ow c ((bX.zip ms).take k)) (gg (t.1,m)) (.slice va vn vc) rs ow c CC la oa lc oc hi gv (HI.out.1.low ki) ⟨_,_,_,rfl⟩ hL5 HI.out.2.2 HI.out.2.1 HP.out.1 DP HP.out.2.1 hB ue HP.out.2.2.1 ?_);intro u23 u24 u25 JJ JI JH JG JF JE JD JC JB JA Jz Jy Jx Jw Jv Ju Jt Js Jr Jq Jp Jo Jn Jm Jl Jk Jj Ji Jh Jg Jf Je Jd Jc Jb Ja I9 I7 I5 I4 I3 I2 I1 w6 ve6 h6;obtain⟨va6,vn6,vc6,rfl⟩:=h6.form;have H6:=Hw.bT h6.e8;clear h6 ki hL5 hq hc;go_wp2;exact⟨⟨k+1,_,_,_,by omega,by congr 1,by rw[HT.out];exact H6.out⟩,by simp[RowKit.intOf];omega⟩
  ·obtain rfl:k=n:=by omega
   have xi:¬ (k:Int)<(k:Int):=by omega
   have hz:(bX.zip ms).length=k:=by rw[List.length_zip,HN.out.1,HN.out.2];exact Nat.min_self k
   rw[aDz (by omega)]at hI;have HF:=Hw.bT hI;clear hI hz;go_wp2;exact⟨rfl,ga _ _ _ _ _ _ _ _ _ _ _ _ _ _ _ _ _ _ _ _ _ _ _ _ _ _ _ _ _ _ _ _ _ _ _ _ _ _ _ _ _ _ _ _ _ _ _ _ _ _ _ _ _ _ _ _ _ _ _ _ _ _ _ _ _ _ HF.out⟩
end Go.AL
namespace Go.AL
open Go.Proofs Go.RowKit
variable [ZA]
attribute [local go_sem] Oper.semAt_some
def alh(rs:List bA)(v:bU)(all:List ao)(s:ao)(c:Int):ao:=(s.1,s.2.1,s.2.2.1,s.2.2.2.1,Nb rs v.2.2 c (all.zip v.2.1),s.2.2.2.2.2)
theorem J3(rs:List bA)(v:bU)(all:List ao):∀(a b:List ao) (m m':List Int),a.length=m.length→ly rs v all (a++b) (m++m')=ly rs v all a m++ly rs v all b m'
 | [],b,[],m',_=>rfl
 | s::a,b,c::m,m',h=>by
  simp only[aDC,ly];rw[J3 rs v all a b m m' (by simpa using h)]
 | [],_,_::_,_,h=>by simp at h
 | _::_,_,[],_,h=>by simp at h
theorem uB(rs:List bA)(v:bU)(all:List ao):∀(a:List ao) (m:List Int),a.length=m.length→(ly rs v all a m).length=a.length
 | [],[],_=>rfl
 | s::a,c::m,h=>by
  simp only[ly,aCv];rw[uB rs v all a m (by simpa using h)]
 | [],_::_,h=>by simp at h
 | _::_,[],h=>by simp at h
theorem J2(rs:List bA)(v:bU)(all:List ao):∀(a:List ao) (m:List Int),a.length=m.length→(ly rs v all a m).map (·.1)=a.map (·.1)
 | [],[],_=>rfl
 | s::a,c::m,h=>by
  simp only[ly,aDh];rw[J2 rs v all a m (by simpa using h)]
 | [],_::_,h=>by simp at h
 | _::_,[],h=>by simp at h
def lF(rs:List bA)(v:bU)(all:List ao)(i:Nat):List ao:=ly rs v all (all.take i) (v.2.1.take i)++all.drop i
section
variable {rs:List bA} {v:bU} {all:List ao} {n i:Nat}
theorem aaa(ha:all.length=n)(hm:v.2.1.length=n)(hi:i≤n):(lF rs v all i).length=n:=by
 unfold lF;rw[aCp,uB _ _ _ _ _ (by simp;omega)];simp;omega
theorem aab(ha:all.length=n)(hm:v.2.1.length=n)(hi:i≤n):(lF rs v all i).map (·.1)=all.map (·.1):=by
 unfold lF;rw[aEB,J2 _ _ _ _ _ (by simp;omega),← aEB,aDx]
theorem ahS(ha:all.length=n)(hm:v.2.1.length=n){s:ao}(hs:all[i]? = some s):(lF rs v all i)[i]? = some s:=by
 have hi:=(aCD.1 hs).1;unfold lF;have hl:(ly rs v all (all.take i) (v.2.1.take i)).length=i:=by rw[uB _ _ _ _ _ (by simp;omega)];simp;omega
 rw[aCY (by omega),hl,aD2,aDQ];simpa using hs
theorem Z9(ha:all.length=n)(hm:v.2.1.length=n){s:ao}(hs:all[i]? = some s){c:Int}(hc:v.2.1[i]? = some c):(lF rs v all i).set i (alh rs v all s c)=lF rs v all (i+1):=by
 have hi:=(aCD.1 hs).1;have hx:all[i]=s:=by rw[aCF hi]at hs;exact aDb hs
 unfold lF;have hl:(ly rs v all (all.take i) (v.2.1.take i)).length=i:=by rw[uB _ _ _ _ _ (by simp;omega)];simp;omega
 rw[List.set_append,aCo (by omega),hl,aD2,aDW hi,hx,aCR,aDn,aDn,hs,hc];rw[Option.toList_some,Option.toList_some,J3 _ _ _ _ _ _ _ (by simp;omega)];simp[ly,alh]
theorem aac(ha:all.length=n)(hm:v.2.1.length=n):lF rs v all n=ly rs v all all v.2.1:=by
 unfold lF;rw[aDz (by omega),aDz (by omega),aEX (by omega),aCM]
theorem LA(ow:List Int)(c:Int):∀{a b:List ao} {ms:List Int},a.map (·.1)=b.map (·.1)→lT rs ow c (a.zip ms)=lT rs ow c (b.zip ms)
 | [],[],_,_=>rfl
 | x::a,y::b,[],_=>rfl
 | x::a,y::b,m::ms,h=>by
  simp only[aDh,aEa]at h;have ih:=LA ow c (ms:=ms) h.2;unfold lT at *;simp only[List.zip_cons_cons,aEC,ih,h.1]
 | [],_::_,_,h=>by simp at h
 | _::_,[],_,h=>by simp at h
end
structure Zm.I8 (w8 wr:World) (G n i:Nat) (l:List ao):Prop where
 ev:Ev w8 wr (fun b=>b=G)
 own:bk wr (eu G) G 38 6 ba l (.slice (some ⟨G,0,none⟩) n n)
 nl4:∀i',i≤i'→i'<n→wr.cell? ⟨G,i'*6+4,none⟩=some (.slice none 0 0)
set_option maxRecDepth 100000 in
set_option maxHeartbeats 4000000 in
theorem Zm.lp8{fv:Act→World→Prop}(w8:World)(B7 G n:Nat)(all:List ao)(rs:List bA)(v:bU)(CC:Value)(ma oa:Option Addr)(mc oc:Nat){c1 c2 c3 c4 c5 c6 c8 c9 Vp Gl El IN IM Lg Gk Vo Vn IL IK Ek Lf Le Ld Ej Ei Eh Eg Ef Ee Ed Lc Lb La Gj Gi Gh Gg Gf Ge Gd Gc Gb Ga F9 Mw Mv Mu IJ II IH IG IF IE ID IC IB IA Iz Iy Ix Iw Iv Iu It Is F8 F7 F6 F5 F4 Mt Ms Ir Iq Ip Io Im Il Ik Ij Ii Ih Ig Ie F3 F2 F1 F0 FZ FY FX Ec Eb Ea K9 K8 FW nz ny nw nv nu nt ns nr nq np lR nm nk nj ni nh sN sM sL oC oB oA oz oy ox ov ou ot oq tC tB tA qj qi qh qg qf qe qd qb pZ pY pX pW pV pU pT pS pR pQ pP pO pM pL pJ pI pH pG pF pE pD pC pB pA pz pw pv pk pj ph pg pf pe pd oo ng nf nd mZ mY mX mW lQ:Value}(gv:n≤1000)(hsn:all.length=n)(hmn:v.2.1.length=n)
  (h8:Zm.I8 w8 w8 G n 0 all) (wJ:∀t∈all,br t.1=true∧t.1.length≤19)
  (hrs:Cl w8 (eu G) (.sl dB) rs CC) (DP:af rs=true) (Xi:Cl w8 (eu G) (.sl [.int .i64]) v.2.1 (.slice ma n mc)) (how:Cl w8 (eu G) (.sl [.int .i64]) v.2.2 (.slice oa (v.2.2.length:Nat) oc)) (hB:B7<w8.heap.size) (ue:B7 ≠ G) (ec1:w8.cell? ⟨B7,1,none⟩=some (.slice ma n mc)) (ec2:w8.cell? ⟨B7,2,none⟩=some (.slice oa (v.2.2.length:Nat) oc))
  (ga:∀(u18 u19 u20 u21 u23 u24 u25 aru art ars arq arp aro arn arl XQ XP XO XN XM XL XK XJ XH XG XF XE XD JJ JI JH JG JF JE JD JC JB JA Jz Jy Jx Jw Jv Ju Jt Js Jr Jq Jp Jo Jn Jm Jl Jk Jj Ji Jh Jg Jf Je Jd Jc Jb Ja I9 I7 I5 I4 I3 I2 I1 XC ark arj ari arh arf are ard:Value) (w':World),Zm.I8 w8 w' G n n (ly rs v all all v.2.1)→fv ⟨List.toArray (CC::c1::c2::c3::c4::c5::c6::.pointer (some ⟨B7,0,none⟩)::c8::c9::.slice (some ⟨G,0,none⟩) n n::Vp::Gl::El::IN::IM::Lg::Gk::u18::u19::u20::u21::Ek::u23::u24::u25::Ej::Ei::Eh::Eg::Ef::Ee::Ed::Lc::Lb::La::Gj::Gi::Gh::Gg::Gf::Ge::Gd::Gc::Gb::Ga::F9::Mw::Mv::Mu::IJ::II::IH::IG::IF::IE::ID::IC::IB::IA::Iz::Iy::Ix::Iw::Iv::Iu::It::Is::F8::F7::F6::F5::F4::Mt::Ms::Ir::Iq::Ip::Io::Im::Il::Ik::Ij::Ii::Ih::Ig::Ie::F3::F2::F1::F0::FZ::FY::FX::Ec::Eb::Ea::K9::K8::FW::nz::ny::nw::nv::nu::nt::ns::nr::nq::np::lR::.slice ma n mc::.int .i64 (n:Int)::aru::art::ars::arq::arp::aro::arn::arl::XQ::XP::XO::XN::XM::XL::XK::XJ::XH::XG::XF::XE::XD::JJ::JI::JH::JG::JF::JE::JD::JC::JB::JA::Jz::Jy::Jx::Jw::Jv::Ju::Jt::Js::Jr::Jq::Jp::Jo::Jn::Jm::Jl::Jk::Jj::Ji::Jh::Jg::Jf::Je::Jd::Jc::Jb::Ja::I9::I7::I5::I4::I3::I2::I1::XC::ark::arj::ari::arh::arf::are::ard::lQ::[]),[]⟩ w') :
  Code.wp Tryz.prog (Zm.blk 8) (Zm.Qx 8 fv) ⟨List.toArray (CC::c1::c2::c3::c4::c5::c6::.pointer (some ⟨B7,0,none⟩)::c8::c9::.slice (some ⟨G,0,none⟩) n n::Vp::Gl::El::IN::IM::Lg::Gk::Vo::Vn::IL::IK::Ek::Lf::Le::Ld::Ej::Ei::Eh::Eg::Ef::Ee::Ed::Lc::Lb::La::Gj::Gi::Gh::Gg::Gf::Ge::Gd::Gc::Gb::Ga::F9::Mw::Mv::Mu::IJ::II::IH::IG::IF::IE::ID::IC::IB::IA::Iz::Iy::Ix::Iw::Iv::Iu::It::Is::F8::F7::F6::F5::F4::Mt::Ms::Ir::Iq::Ip::Io::Im::Il::Ik::Ij::Ii::Ih::Ig::Ie::F3::F2::F1::F0::FZ::FY::FX::Ec::Eb::Ea::K9::K8::FW::nz::ny::nw::nv::nu::nt::ns::nr::nq::np::lR::.slice ma n mc::.int .i64 (n:Int)::.int .i64 0::nm::nk::nj::ni::nh::sN::sM::sL::oC::oB::oA::oz::oy::ox::ov::ou::ot::oq::tC::tB::tA::qj::qi::qh::qg::qf::qe::qd::qb::pZ::pY::pX::pW::pV::pU::pT::pS::pR::pQ::pP::pO::pM::pL::pJ::pI::pH::pG::pF::pE::pD::pC::pB::pA::pz::pw::pv::pk::pj::ph::pg::pf::pe::pd::oo::ng::nf::nd::mZ::mY::mX::mW::lQ::[]),[]⟩ w8:=by
 conv=>arg 2;whnf
 have Kt:=Tryz.underlying61;have C2:=Tryz.underlying38;have aaB:=Tryz.underlying30;have ah6:=Tryz.underlying35;have HP:=Hw.bT (And.intro hrs (And.intro how (And.intro ec2 (And.intro Xi (And.intro wJ ec1)))));have HN:=Hw.bT (And.intro hsn hmn);have H0:=Hw.bT (show Zm.I8 w8 w8 G n 0 (lF rs v all 0)from h8);clear hrs how ec2 Xi wJ h8 hsn hmn ec1
 go_loopw [113] (fun i' wr=>∃(i:Nat),i≤n∧i'=.int .i64 (i:Int)∧Zm.I8 w8 wr G n i (lF rs v all i)) (fun i' _=>n-(RowKit.intOf i').toNat)
 case atStart=>exact⟨0,aDj _,rfl,H0.out⟩
 case round=>
  obtain⟨i,hk,rfl,hI⟩:=hrel;clear H0;by_cases cg:i<n
  ·have xi:(i:Int)<(n:Int):=by omega
   have Rk:(0:Int)≤(i:Int):=by omega
   clear ga;obtain⟨c,hc⟩:∃c,v.2.1[i]? = some c:=⟨_,aCF (by have:=HN.out.2;omega)⟩;obtain⟨s,hs⟩:∃s,all[i]? = some s:=⟨_,aCF (by have:=HN.out.1;omega)⟩;have up:∀{t:Ty} {x:t.T} {u:Value},Cl w8 (eu G) t x u→Cl wr (eu G) t x u:=fun hc=>hc.ev hI.ev (fun b _ h=>by first | exact h | exact .inr h | exact .inl (.inr h)) (fun b _ h=>by first | exact h | exact .inr h | exact .inl (.inr h))
   have c1r:wr.cell? ⟨B7,1,none⟩=some (.slice ma n mc):=(hI.ev.cell hB ue).trans HP.out.2.2.2.2.2;obtain⟨b,off,c',hv,hb,iu⟩:=Fx (cX.1 (up HP.out.2.2.2.1)) hc;have hmn:=HN.out.2;rw[hmn]at hv;obtain⟨rfl,-,rfl⟩:=Value.slice.inj hv;have hml:=aaa (rs:=rs) HN.out.1 HN.out.2 hk;have aa0:=aab (rs:=rs) HN.out.1 HN.out.2 hk;have fJ:=ahS (rs:=rs) HN.out.1 HN.out.2 hs;have aaH:=Zm.E8.start hI.own fJ (hI.nl4 i (aCt _) cg);have aou:∀t∈lF rs v all i,br t.1=true∧t.1.length≤19:=fun t ht=>by
    have h1:t.1∈(lF rs v all i).map (·.1):=aCN.2 ⟨t,ht,rfl⟩;rw[aa0]at h1;obtain⟨t',h2,h3⟩:=aCN.1 h1;rw[← h3];exact HP.out.2.2.2.2.1 t' h2
   have c2r:wr.cell? ⟨B7,2,none⟩=some (.slice oa (v.2.2.length:Nat) oc):=(hI.ev.cell hB ue).trans HP.out.2.2.1;have hBr:B7<wr.heap.size:=aCP hB hI.ev.size;have fS:(lT rs v.2.2 c ((lF rs v all i).zip v.2.1)).length≤1099511627776:=by
    have h1:=vB rs v.2.2 c ((lF rs v all i).zip v.2.1) (fun p hp=>aCO (aou p.1 (List.of_mem_zip hp).1).2 (by omega));have h2:((lF rs v all i).zip v.2.1).length≤n:=by rw[List.length_zip];omega
    have h5:((lF rs v all i).zip v.2.1).length*1000000≤n*1000000:=aDa _ h2;omega
   have HA:=Hw.bT (LA (rs:=rs) v.2.2 c (ms:=v.2.1) aa0);have HST:=Hw.bT (And.intro aaH (And.intro aou (And.intro hml (And.intro fJ fS))));have HUP:=Hw.bT (And.intro (up HP.out.1) (And.intro (up HP.out.2.2.2.1) (And.intro (up HP.out.2.1) c2r)));have HS:=Hw.bT (And.intro hs hc);have HI:=Hw.bT hI;clear hv up hmn hml aa0 fJ aaH aou fS hs hc hI c2r;go_wp2;refine Zm.use (Zm.avH wr B7 G n i (lF rs v all i) rs v.2.2 v.2.1 c CC _ oa _ oc cg gv HST.out.2.2.1 HN.out.2 HST.out.1 HST.out.2.1 HUP.out.1 DP HUP.out.2.1 HUP.out.2.2.1 hBr ue HUP.out.2.2.2 ?_);intro u20 u21 u23 u24 u25 XQ XP XO XN XM XL XK XJ XH XG XF XE XD JJ JI JH JG JF JE JD JC JB JA Jz Jy Jx Jw Jv Ju Jt Js Jr Jq Jp Jo Jn Jm Jl Jk Jj Ji Jh Jg Jf Je Jd Jc Jb Ja I9 I7 I5 I4 I3 I2 I1 XC w6 va6 vn6 vc6 h6;have Ro:=h6.cell.1;have HSO:=Hw.bT (h6.sort HST.out.2.2.2.2 HST.out.2.2.2.1);clear h6 iu c1r
   go_wp2_with (go_at_call 61;refine HSO.out.mono ?_;rintro en w7 ⟨rfl,ho7,awE,av7⟩)
   refine⟨⟨i+1,by omega,by congr 1,HI.out.ev.tr awE,?_,fun i' h1 h2=>(av7 _ (by omega)).trans (HI.out.nl4 i' (by omega) h2)⟩,by simp[RowKit.intOf];omega⟩;have e:=Z9 (rs:=rs) HN.out.1 HN.out.2 HS.out.1 HS.out.2;rw[← e];rw[HA.out]at ho7;exact ho7
  ·obtain rfl:i=n:=by omega
   have xi:¬ (i:Int)<(i:Int):=by omega
   rw[aac HN.out.1 HN.out.2]at hI;have HF:=Hw.bT hI;clear hI;go_wp2;exact⟨rfl,ga _ _ _ _ _ _ _ _ _ _ _ _ _ _ _ _ _ _ _ _ _ _ _ _ _ _ _ _ _ _ _ _ _ _ _ _ _ _ _ _ _ _ _ _ _ _ _ _ _ _ _ _ _ _ _ _ _ _ _ _ _ _ _ _ _ _ _ _ _ _ _ _ _ _ _ _ _ _ _ _ HF.out⟩
end Go.AL
namespace Go.AL
open Go.Proofs
def CT(d:List al)(s:ax):ax:=bif !bJ s&&(decide (kR s∈d)&&!decide (kR s=(0,0,0)))then mkS z8 (sS s) (0,0,0)else s
theorem agT(s:ax):CT [] s=s:=by simp[CT]
theorem agU(d:List al){s:ax}(h:bJ s=true):CT d s=s:=by unfold CT;rw[h];rfl
theorem X3(x:al)(d:List al)(s:ax):CT d (iK x s)=CT (x::d) s:=by
 unfold iK;cases h:kV x s with
 | true=>
  rw[aCn,agU d (show bJ (mkS z8 (sS s) (0,0,0))=true from rfl)];unfold kV at h;simp only[aCs,aCy,aDe,aE8]at h;obtain⟨h1,h2,h3⟩:=h;unfold CT;rw[h1,h2,aCm (show x∈x::d from aCK),aCz h3];rfl
 | false=>
  rw[aCq];unfold CT;cases h1:bJ s with
  | true=>rfl
  | false=>
   by_cases h3:kR s=(0,0,0)
   ·rw[aCm h3];simp
   ·have hx:¬ kR s=x:=fun e=>by
     unfold kV at h;rw[h1,aCm e,aCz (fun e2=>h3 (e.trans e2))]at h;cases h
    rw[aEc.2 (show kR s∈d↔kR s∈x::d by simp[hx])]
theorem Qm:∀(d:List al) (l:List ax),iJ l d=l.map (CT d)
 | [],l=>by
  show l=_;rw[show CT []=id from funext agT,aDP]
 | x::d,l=>by
  show iJ (l.map (iK x)) d=_;rw[Qm d,List.map_map];exact aDu fun s _=>X3 x d s
theorem vg(rs:List bA)(v:bU)(all:List ao):∀(r:List ao) (k i:Nat),(iS rs v all r k)[i]? = (r[i]?).map fun s=>(s.1,s.2.1,s.2.2.1,s.2.2.2.1,mO (rs,all,((k+i:Nat):Int),v),s.2.2.2.2.2)
 | [],k,i=>rfl
 | s::r,k,0=>rfl
 | s::r,k,i+1=>by
  simp only[iS,aDZ];rw[vg rs v all r (k+1) i,show k+1+i=k+(i+1)by omega]
def ET(a:List bA×Int×List bz×bU):List ao:=a.2.2.2.2.1.map (e9 a.2.1 a.2.2.1 (bc a.2.2.1))
theorem Fb(a:List bA×Int×List bz×bU){i:Nat}{c:Int}(hc:a.2.2.2.2.1[i]? = some c):
  ∃s,(eC a)[i]? = some s∧(s.1,s.2.1,s.2.2.1,s.2.2.2.1,s.2.2.2.2.2)=(fun t:ao=>(t.1,t.2.1,t.2.2.1,t.2.2.2.1,t.2.2.2.2.2)) (eY (bu (ET a)) (bc a.2.2.1) a.2.2.2.2.1 (e9 a.2.1 a.2.2.1 (bc a.2.2.1) c)):=by
 unfold eC
 dsimp only
 rw[vg,aDm,aDm,hc];exact⟨_,rfl,rfl⟩
theorem QA(a:List bA×Int×List bz×bU):(eC a).length=a.2.2.2.2.1.length:=by
 unfold eC
 dsimp only
 rw[vf,aDF,aDF]
theorem EU(h:al→Bool)(d:List al)(m:List Int)(l0:List ax):∀(q:List bn) (l:List ax) (left:List bn) (an:List bR),SmT l l0→
  kJ h d m q l left an=((q.filter fun r=>(dI h l0 r d m).2).foldl (fun l r=>gH (l,(j9 r).2.1)) l,left++q.filter (fun r=>!(dI h l0 r d m).2),an++(q.filter fun r=>(dI h l0 r d m).2).map fun r=>((j9 r).2.1,(dI h l0 r d m).1))
 | [],l,left,an,hs=>by simp[kJ]
 | r::q,l,left,an,hs=>by
  simp only[kJ,hs.out];cases hb:(dI h l0 r d m).2 with
  | true=>rw[aCn,EU h d m l0 q _ _ _ (hs.rel _),aE9 (by exact hb),aEV (by rw[hb];simp)];simp
  | false=>rw[aCq,EU h d m l0 q _ _ _ hs,aEV (by rw[hb];simp),aE9 (by rw[hb];rfl)];simp
def VB(op:Int)(l:List ax):Prop:=∀s∈l,sS s ≠ op
theorem Z0{op:Int}(h:op ≠ 0)(l:List ax):VB op (gH (l,op)):=fun s hs=>by
 obtain⟨x,_,rfl⟩:=aCN.1 (show s∈l.map (iM op)from hs);unfold iM;by_cases hx:sS x=op
 ·rw[aCm hx];exact fun e=>h e.symm
 ·rw[aCz hx];exact hx
theorem Uo{op:Int}(h:op ≠ 0)(op':Int){l:List ax}(hl:VB op l):VB op (gH (l,op')):=fun s hs=>by
 obtain⟨x,hx,rfl⟩:=aCN.1 (show s∈l.map (iM op')from hs);unfold iM;cases decide (sS x=op')with
 | true=>exact fun e=>h e.symm
 | false=>exact hl x hx
theorem DF{op:Int}(h:op ≠ 0):∀(q:List bn) (l:List ax),(VB op l∨∃r∈q,(j9 r).2.1=op)→VB op (q.foldl (fun l r=>gH (l,(j9 r).2.1)) l)
 | [],l,hl=>by
  rcases hl with hl | ⟨r,hr,_⟩
  ·exact hl
  ·simp at hr
 | r::q,l,hl=>by
  rw[aDH];refine DF h q _ ?_;rcases hl with hl | ⟨x,hx,e⟩
  ·exact .inl (Uo h _ hl)
  ·rcases aCJ.1 hx with rfl | hx
   ·exact .inl (by rw[e];exact Z0 h l)
   ·exact .inr ⟨x,hx,e⟩
def knB(a:List bA×Int×List bz×bU)(c:Int)(r:bn):Bool:=(dI (bu (ET a)) (e9 a.2.1 a.2.2.1 (bc a.2.2.1) c).1 r (bc a.2.2.1) a.2.2.2.2.1).2
theorem ahv(a:List bA×Int×List bz×bU){i:Nat}{c:Int}(hc:a.2.2.2.2.1[i]? = some c):
  ∃s,(eC a)[i]? = some s∧s.2.1=(eJ (c,a.2.1,a.2.2.1)).2.1.filter (fun r=>!knB a c r)∧s.2.2.2.1.length=((eJ (c,a.2.1,a.2.2.1)).2.1.filter (knB a c)).length∧
   ∀r∈(eJ (c,a.2.1,a.2.2.1)).2.1,knB a c r=true→(j9 r).2.1 ≠ 0→VB (j9 r).2.1 s.1:=by
 obtain⟨s,h1,h2⟩:=Fb a hc;have hq:(e9 a.2.1 a.2.2.1 (bc a.2.2.1) c).2.1=(eJ (c,a.2.1,a.2.2.1)).2.1:=by rw[← Fk];rfl
 have e1:s.1=(eY (bu (ET a)) (bc a.2.2.1) a.2.2.2.2.1 (e9 a.2.1 a.2.2.1 (bc a.2.2.1) c)).1:=aCL (·.1) h2;have e2:s.2.1=(eY (bu (ET a)) (bc a.2.2.1) a.2.2.2.2.1 (e9 a.2.1 a.2.2.1 (bc a.2.2.1) c)).2.1:=aCL (·.2.1) h2;have e3:s.2.2.2.1=(eY (bu (ET a)) (bc a.2.2.1) a.2.2.2.2.1 (e9 a.2.1 a.2.2.1 (bc a.2.2.1) c)).2.2.2.1:=aCL (·.2.2.2.1) h2;unfold eY at e1 e2 e3;rw[EU _ _ _ (e9 a.2.1 a.2.2.1 (bc a.2.2.1) c).1 _ _ _ _ rfl,hq]at e1 e2 e3;refine⟨s,h1,?_,?_,fun r hr hk h0=>?_⟩
 ·rw[e2];rfl
 ·rw[e3,bt];simp only[aC1,aDF];rfl
 ·rw[e1]
  exact DF h0 _ _ (.inr ⟨r,aEz.2 ⟨hr,hk⟩,rfl⟩)
open Go.Proofs Go.RowKit
attribute [local go_sem] Oper.semAt_some
def Ka(l:List bz):Bool:=l.all fun r=>decide (r.2.2.2.2.1.length≤19)&&(decide (r.2.2.2.2.2.1.length≤19)&&r.2.2.2.2.2.1.all fun q=>decide (0≤q.2.1)&&decide (q.2.1≤4611686018427387904))
theorem JP{ab:List bz}(h:Ka ab=true)(c ai:Int):(eJ (c,ai,ab)).2.1.length≤19∧(∀r∈(eJ (c,ai,ab)).2.1,0≤r.2.1∧r.2.1≤4611686018427387904)∧(ai≤19→(eJ (c,ai,ab)).1.length≤19):=by
 by_cases h0:aL (fun q:bz=>decide (q.1=c)) ab 0<0
 ·simp only[eJ,aCm h0,aCn]
  exact⟨by simp,by simp,fun h=>by simp;omega⟩
 ·have cg:aL (fun q:bz=>decide (q.1=c)) ab 0<0+(ab.length:Nat):=lJ _ ab 0 (Int.le_refl 0)
  have hm:=aCG.1 h (ab.getD (aL (fun q=>decide (q.1=c)) ab 0).toNat zq5) (by
   rw[aDB,aCF (by omega)];exact aEU _)
  simp only[aCs,aCy,aCG]at hm;simp only[eJ,aCz h0,aCq];exact⟨hm.2.1,hm.2.2,fun _=>hm.1⟩
variable [ZA]
theorem ahG{ai:Int}{ab:List bz}(hs:ai≤19)(hp:ab.all ux=true)(hq:Ka ab=true)(d:List al)(c:Int):Zm.OkS (iy ai ab d c)∧(iy ai ab d c).1.length≤19:=by
 have h1:=Fc (d:=d) (show ai≤1000000 by omega) (aCG.1 hp) c;rw[← Fk]at h1;simp only[CU,aCs,aCy]at h1;have h2:=JP hq c ai;refine⟨⟨h1.1,h2.1,h2.2.1,rfl⟩,?_⟩;have e:(iy ai ab d c).1.length=(eJ (c,ai,ab)).1.length:=by
  unfold iy;rw[Qm];simp
 rw[e];exact h2.2.2 hs
theorem ap9{h:al→Bool}{d:List al}{m:List Int}{s:ao}(h1:Zm.OkS s)(h2:s.1.length≤19):br (vA h d m s).1=true∧(vA h d m s).1.length≤19:=by
 rw[aco h d m s h1.an];obtain⟨a1,a2⟩:=zb h d m s.2.1 s.1 [] [] h1.sl;exact⟨a1,by show(kJ h d m s.2.1 s.1 [] []).1.length≤_;omega⟩
def Zm.acu(w:World)(l:List ao)(en:Ending)(w':World):Prop:=∃u,en=.returned u∧bk w' ZA.A w.heap.size 38 6 ba l u∧Below w.heap.size w w'
theorem Zm.fin{w w8 w':World}{G n:Nat}{rs:List bA}{ai:Int}{ab:List bz}{v:bU}(hA:∀b,ZA.A b→b<w.heap.size)(Ks:w.heap.size≤G)(hB:Below w.heap.size w w8)(h:Zm.I8 w8 w' G n n (ly rs v ((v.2.1.map (iy ai ab (bc ab))).map (vA (fun x=>decide (x∈jx (v.2.1.map (iy ai ab (bc ab))))) (bc ab) v.2.1)) ((v.2.1.map (iy ai ab (bc ab))).map (vA (fun x=>decide (x∈jx (v.2.1.map (iy ai ab (bc ab))))) (bc ab) v.2.1)) v.2.1)):
  Zm.acu w (J1 (rs,ai,ab,v)) (.returned (.slice (some ⟨G,0,none⟩) n n)) w':=by
 refine⟨_,rfl,?_,?_⟩
 ·have e:J1 (rs,ai,ab,v)=ly rs v ((v.2.1.map (iy ai ab (bc ab))).map (vA (fun x=>decide (x∈jx (v.2.1.map (iy ai ab (bc ab))))) (bc ab) v.2.1)) ((v.2.1.map (iy ai ab (bc ab))).map (vA (fun x=>decide (x∈jx (v.2.1.map (iy ai ab (bc ab))))) (bc ab) v.2.1)) v.2.1:=by
   unfold J1
   dsimp only
   rw[FQ]
  rw[e];exact(h.own.mono Ks).ev (Ev.rf w' (fun _=>False)) (fun _ _ h=>h.elim) (fun b _ hb=>.inl ⟨aCP (hA b hb) Ks,hb⟩) (fun _ _ h=>h)
 ·have h1:=h.ev
  exact⟨h1.os.trans hB.os,h1.tape.trans hB.tape,h1.output.trans hB.output,aCO hB.size h1.size,fun b hb=>(h1.block b (aCP hb hB.size) (by omega)).trans (hB.block b hb)⟩
theorem Zm.bev{w w1 w2:World}{G:Nat}(Ks:w.heap.size≤G)(hB:Below w.heap.size w w1)(h1:Ev w1 w2 (fun b=>b=G)):Below w.heap.size w w2:=
 ⟨h1.os.trans hB.os,h1.tape.trans hB.tape,h1.output.trans hB.output,aCO hB.size h1.size,fun b hb=>(h1.block b (aCP hb hB.size) (by omega)).trans (hB.block b hb)⟩
set_option maxRecDepth 100000 in
set_option maxHeartbeats 4000000 in
theorem Zm.calls(w:World)(hA:∀b,ZA.A b→b<w.heap.size)(rs:List bA)(ai:Int)(ab:List bz)(v:bU)(CC ur pm po:Value)(hrs:Cl w ZA.A (.sl dB) rs CC)(Rb:Cl w ZA.A (.sl cV) ab ur)(hpm:Cl w ZA.A (.sl [.int .i64]) v.2.1 pm)(Bh:Cl w ZA.A (.sl [.int .i64]) v.2.2 po)(hp:n9 (rs,ai,ab,v)=true)(hq:Ka ab=true)(asG:ai≤19):
  Calls Tryz.prog 19 #[CC,.int .i64 ai,ur,.agg #[.int .i64 v.1,pm,po]] w (Zm.acu w (J1 (rs,ai,ab,v))):=by
 have Kt:=Tryz.underlying61;have aaB:=Tryz.underlying30;have HQ:=Hw.bT hp;simp only[n9,aCs,aCy]at hp;obtain⟨hp1,DQ,hp3,hp4,hp5⟩:=hp;obtain⟨CI,hd2⟩:=Lw hp1;obtain⟨ma,mc,rfl⟩:=(show ∃a c,pm=.slice a (v.2.1.length:Nat) c from(cX.1 hpm).form);obtain⟨oa,oc,rfl⟩:=(show ∃a c,po=.slice a (v.2.2.length:Nat) c from(cX.1 Bh).form);have KL:Below w.heap.size w (w.alloc (.cells #[.int .i64 v.1,.slice ma (v.2.1.length:Nat) mc,.slice oa (v.2.2.length:Nat) oc] 30)):=(Below.refl _ _).alloc (aCt _) _;have hbv:=HB.new w 30 #[.int .i64 v.1,.slice ma (v.2.1.length:Nat) mc,.slice oa (v.2.2.length:Nat) oc];have HD:=Hw.bT (Zd.calls _ ab ur ((cX.1 (Rb.low KL)).fr (cZ.refl _ _) (cZ.refl _ _) (aCt _) (fun _ _ h=>h.elim) (fun _ _ h=>h.elim)) CI hd2);have HP:=Hw.bT (And.intro hrs (And.intro Rb (And.intro hpm Bh)));have HB1:=Hw.bT (And.intro KL hbv);obtain⟨n,hn⟩:∃n,v.2.1.length=n:=⟨_,rfl⟩;have HN:=Hw.bT hn;have gv:n≤1000:=by omega
 rw[hn]at HD HB1 HP ⊢;have HOK:=Hw.bT (fun c=>ahG asG DQ hq (bc ab) c);have HDL:=Hw.bT (lN _ hp1);clear hrs Rb hpm Bh KL hbv hp1 DQ hp3 CI hd2 hn hp5 hq asG;go_enter Tryz.func19,Tryz.ntmps19
 go_upto_region 2 with(go_at_call 17;refine HD.out.mono ?_;rintro en w2 ⟨ud,rfl,CG,hBd⟩)
 have hB2:Below w.heap.size w w2:=HB1.out.1.trans (hBd.mono HB1.out.1.size);have c1:w2.cell? ⟨w.heap.size,1,none⟩=some (.slice ma n mc):=(hBd.cell (p:=⟨w.heap.size,1,none⟩) (by simp)).trans (HB1.out.2.cell 1);have c2:w2.cell? ⟨w.heap.size,2,none⟩=some (.slice oa (v.2.2.length:Nat) oc):=(hBd.cell (p:=⟨w.heap.size,2,none⟩) (by simp)).trans (HB1.out.2.cell 2);have hG:w.heap.size<w2.heap.size:=aCP (by simp) hBd.size;obtain⟨G,hGe⟩:∃G,G=w2.heap.size:=⟨_,rfl⟩;have Ks:w.heap.size<G:=by omega
 have hcd:Cl w2 (eu G) (.sl aH) (bc ab) ud:=by
  have h1:bk w2 (eu G) (w.heap.size+1) 48 3 aH (bc ab) ud:=by
   rcases CG with h | ⟨g,cap,cur,e1,e2,e3,e4,e5,e6,e7⟩
   ·exact .inl h
   ·refine .inr ⟨g,cap,cur,e1,by simpa using e2,e3,e4,e5,e6,fun i x hx=>?_⟩
    obtain⟨us,k1,k2,k3⟩:=e7 i x hx;have ja:=rK k1;subst ja;exact⟨_,j5,k2,k3⟩
  exact h1.cl rfl fun g hg he=>by
   have h2:=h1.lt hg;rcases he with he | he
   ·have:=hA g he.2;omega
   ·omega
 obtain⟨da,dc,rfl⟩:=(show ∃a c,ud=.slice a ((bc ab).length:Nat) c from CG.form);have HD2:=Hw.bT (And.intro hB2 hcd);clear HD HB1 CG hBd hB2 hcd
 go_upto_region 3 with(refine Zm.aq5 rfl 61 (.tmp 30) (.tmp 30) rfl rfl rfl (Zm.mk w2 n gv) ?_;rintro r w3 ⟨rfl,NF,tu⟩)
 have k1:w3.cell? ⟨w.heap.size,1,none⟩=some (.slice ma n mc):=(tu.cell (p:=⟨w.heap.size,1,none⟩) hG).trans c1;have k2:w3.cell? ⟨w.heap.size,2,none⟩=some (.slice oa (v.2.2.length:Nat) oc):=(tu.cell (p:=⟨w.heap.size,2,none⟩) hG).trans c2;have hG3:G<w3.heap.size:=hGe▸(NF.lt (g:=w2.heap.size) rfl).2;have atz:=HD2.out.1.trans (tu.mono HD2.out.1.size);have hd3:=HD2.out.2.low tu;rw[← hGe]at NF ⊢;have HO:=Hw.bT (And.intro (Zm.aka (f:=iy ai ab (bc ab)) (ms:=v.2.1) NF) (And.intro atz (And.intro hd3 (And.intro k1 k2))));clear NF tu c1 c2 hG HD2 atz hd3 k2 hGe;go_wp2;refine Zm.use (Zm.lp0 w w3 G n rs ai ab v ur ma da mc dc HP.out.2.1 (HP.out.2.2.1.fr (cZ.refl _ _) (aCt _) (fun _ _ h=>h.elim)) HN.out HQ.out HO.out.2.1 (aDO Ks) hG3 HO.out.2.2.1 HO.out.1 ?_);intro u11 u12 u14 u15 u35 u36 u37 u38 u39 u40 u41 u42 u43 u44 u45 u46 u47 u48 u49 u50 u51 u52 u53 u54 u55 u56 u57 u58 u59 u60 u61 u62 u63 u64 u65 u66 u67 u68 u69 u70 u71 u72 u73 u74 u75 u76 u77 u78 u79 u80 u81 u82 u83 u84 u85 u86 u87 u88 u89 u90 u91 u92 u93 w4 h4;have hB4:=Zm.bev (aDO Ks) HO.out.2.1 h4.1.1;obtain⟨bX,aaG⟩:∃l,l=v.2.1.map (iy ai ab (bc ab)):=⟨_,rfl⟩;have Rj:bk w4 (eu G) G 38 6 ba bX (.slice (some ⟨G,0,none⟩) n n):=by
  have:=h4.1.2;rw[aDz (Nat.le_of_eq HN.out),aD2,List.replicate_zero,aCM]at this;rw[aaG];exact this
 have hln:bX.length=n:=by rw[aaG,aDF];exact HN.out
 have dG:∀s∈bX,Zm.OkS s∧s.1.length≤19:=fun s hs=>by
  rw[aaG]at hs;obtain⟨c,_,rfl⟩:=aCN.1 hs;exact HOK.out c
 have hG4:G<w4.heap.size:=(Rj.lt (g:=G) rfl).2;have HH:=Hw.bT (Zh.calls w4 bX _ (Rj.sl rfl (X:=fun _=>False) (fun _ _ h=>h)) (by omega) (fun s hs=>aCO (dG s hs).2 (by omega)));have d4:=HO.out.2.2.1.ev h4.1.1 (fun b _ h=>.inr h) (fun _ _ h=>h);have k4:w4.cell? ⟨w.heap.size,1,none⟩=some (.slice ma n mc):=(h4.1.1.cell (aEI Ks hG3) (by omega)).trans HO.out.2.2.2.1;have k4b:w4.cell? ⟨w.heap.size,2,none⟩=some (.slice oa (v.2.2.length:Nat) oc):=(h4.1.1.cell (aEI Ks hG3) (by omega)).trans HO.out.2.2.2.2;have HS:=Hw.bT (And.intro hln (And.intro dG aaG));have H4:=Hw.bT (And.intro hB4 (And.intro Rj (And.intro h4.2 (And.intro d4 (And.intro k4 k4b)))));clear hB4 Rj hln dG h4 d4 k4 k4b aaG HO k1
 go_wp2_with (go_at_call 56;refine HH.out.mono ?_;rintro en w5 ⟨rfl,hM5,ki⟩)
 have hG5:G<w5.heap.size:=aCP hG4 ki.size;obtain⟨g,hg⟩:∃g,g=vA (fun x=>decide (x∈jx bX)) (bc ab) v.2.1:=⟨_,rfl⟩;have h60:Zm.I6 w5 w5 G n 0 g bX:=by
  obtain⟨_,q2,q3,_⟩:=H4.out;refine⟨Ev.rf _ _,?_,fun i _ h2=>(ki.cell (p:=⟨G,i*6+3,none⟩) hG4).trans (q3 i h2).1,fun i h2=>(ki.cell (p:=⟨G,i*6+4,none⟩) hG4).trans (q3 i h2).2⟩;exact q2.ev (fP ki (fun _=>False)) (fun _ _ h=>h.elim) (fun _ _ h=>h) (fun _ _ h=>h)
 have ao3:=H4.out.1.trans (ki.mono H4.out.1.size);have up5:∀{t:Ty} {x:t.T} {u:Value},Cl w ZA.A t x u→Cl w5 (eu G) t x u:=fun h=>h.up (aDO Ks) ao3
 have hw5:w.heap.size<w5.heap.size:=aEI Ks hG5;have ec:w.heap.size ≠ G:=Nat.ne_of_lt Ks;have k5:w5.cell? ⟨w.heap.size,1,none⟩=some (.slice ma n mc):=(ki.cell (p:=⟨w.heap.size,1,none⟩) (aEI Ks hG4)).trans H4.out.2.2.2.2.1;have k5b:w5.cell? ⟨w.heap.size,2,none⟩=some (.slice oa (v.2.2.length:Nat) oc):=(ki.cell (p:=⟨w.heap.size,2,none⟩) (aEI Ks hG4)).trans H4.out.2.2.2.2.2;have H5:=Hw.bT (And.intro h60 (And.intro ao3 (And.intro hM5 (And.intro (up5 HP.out.1) (And.intro (up5 HP.out.2.2.1) (And.intro (up5 HP.out.2.2.2) (And.intro (H4.out.2.2.2.1.low ki) (And.intro k5 k5b))))))));clear h60 ao3 hM5 ki up5 k5 k5b H4 HH;refine Zm.use (Zm.lp6 w5 w.heap.size G n w4.heap.size g bX (jx bX) (bc ab) v.2.1 _ _ _ HS.out.1 gv H5.out.1 (fun s hs=>(HS.out.2.1 s hs).1) H5.out.2.2.2.2.2.2.1 (by have:=HDL.out;omega) H5.out.2.2.2.2.1 (by have:=HN.out;omega) H5.out.2.2.1 (by omega) hg hw5 ec H5.out.2.2.2.2.2.2.2.1 ?_);intro u17 u98 u99 arE arD arC arB arA arz ary arx arw arv w6 h6;have fS:KN g bX n=bX.map g:=by rw[← HS.out.1];exact Ru g bX
 have up6:∀{t:Ty} {x:t.T} {u:Value},Cl w5 (eu G) t x u→Cl w6 (eu G) t x u:=fun h=>h.ev h6.ev (fun b _ h=>.inr h) (fun _ _ h=>h)
 have hw6:w.heap.size<w6.heap.size:=aCP hw5 h6.ev.size;have k6:w6.cell? ⟨w.heap.size,1,none⟩=some (.slice ma n mc):=(h6.ev.cell hw5 ec).trans H5.out.2.2.2.2.2.2.2.1;have k6b:w6.cell? ⟨w.heap.size,2,none⟩=some (.slice oa (v.2.2.length:Nat) oc):=(h6.ev.cell hw5 ec).trans H5.out.2.2.2.2.2.2.2.2;have h8:Zm.I8 w6 w6 G n 0 (bX.map g):=⟨Ev.rf _ _,by rw[← fS];exact h6.own,fun i _ h2=>h6.nl4 i h2⟩;have asz:∀t∈bX.map g,br t.1=true∧t.1.length≤19:=fun t ht=>by
  obtain⟨s,hs,rfl⟩:=aCN.1 ht;rw[hg];exact ap9 (HS.out.2.1 s hs).1 (HS.out.2.1 s hs).2
 have H6:=Hw.bT (And.intro h8 (And.intro asz (And.intro (up6 H5.out.2.2.2.1) (And.intro (up6 H5.out.2.2.2.2.1) (And.intro (up6 H5.out.2.2.2.2.2.1) (And.intro k6b (Zm.bev (aDO Ks) H5.out.2.1 h6.ev)))))));have HG:=Hw.bT hg;clear h8 asz up6 h6 H5 fS k6b hg;go_wp2;refine Zm.use (Zm.lp8 w6 w.heap.size G n (bX.map g) rs v CC _ oa _ oc gv (by rw[aDF];exact HS.out.1) HN.out H6.out.1 H6.out.2.1 H6.out.2.2.1 hp4 H6.out.2.2.2.1 H6.out.2.2.2.2.1 hw6 ec k6 H6.out.2.2.2.2.2.1 ?_);intro u18 u19 u20 u21 u23 u24 u25 aru art ars arq arp aro arn arl XQ XP XO XN XM XL XK XJ XH XG XF XE XD JJ JI JH JG JF JE JD JC JB JA Jz Jy Jx Jw Jv Ju Jt Js Jr Jq Jp Jo Jn Jm Jl Jk Jj Ji Jh Jg Jf Je Jd Jc Jb Ja I9 I7 I5 I4 I3 I2 I1 XC ark arj ari arh arf are ard w7 h7;have aoR:Zm.acu w (J1 (rs,ai,ab,v)) (.returned (.slice (some ⟨G,0,none⟩) n n)) w7:=by
  refine Zm.fin hA (aDO Ks) H6.out.2.2.2.2.2.2 ?_;rw[HG.out,HS.out.2.2]at h7;exact h7
 clear h7 H6 k6;go_wp2;go_ret;exact aoR
end Go.AL
