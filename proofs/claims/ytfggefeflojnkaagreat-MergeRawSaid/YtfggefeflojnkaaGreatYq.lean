/- By an AI agent. -/
import Derived.Test.YtfggefeflojnkaaGreatZ0
import Derived.Test.YtfggefeflojnkaaGreatY7
import Derived.MapFrom
set_option linter.unusedVariables false
namespace Go.AL
open Go.RowKit
abbrev yM(x:al):List Value:=[.int .i64 x.1,.int .i64 x.2.1,.int .i64 x.2.2]
theorem Qc{w:World}{A:Nat→Prop}{x:al}{ps:List Value}:YG w A aH x ps=(ps=[]):=by kernel_rfl
theorem Xo{x:al}:YH aH x []=yM x:=by kernel_rfl
theorem rK{w:World}{A:Nat→Prop}{x:al}{us:List Value}(h:Rw w A aH x us):us=yM x:=by
 obtain⟨ps,hp,hh⟩:=h.to;rw[Qc]at hp;subst hp;have hh:=hh.trans Xo;exact hh
theorem j5{w:World}{A:Nat→Prop}{x:al}:Rw w A aH x (yM x):=by
 refine(aCL (Rw w A aH x) Xo).mp (Rw.of ?_);rw[Qc]
abbrev sE(x:ax)(p3:Value):List Value:=[.int .i64 x.1,.int .i64 x.2.1,.int .i64 x.2.2.1,p3,.int .i64 x.2.2.2.2.1,.int .i64 x.2.2.2.2.2.1,.int .i64 x.2.2.2.2.2.2.1,.int .i64 x.2.2.2.2.2.2.2.1,.int .i64 x.2.2.2.2.2.2.2.2.1,.int .i64 x.2.2.2.2.2.2.2.2.2.1,.bool x.2.2.2.2.2.2.2.2.2.2.1,.int .i64 x.2.2.2.2.2.2.2.2.2.2.2.1,.int .i64 x.2.2.2.2.2.2.2.2.2.2.2.2.1,.int .i64 x.2.2.2.2.2.2.2.2.2.2.2.2.2.1,.int .i64 x.2.2.2.2.2.2.2.2.2.2.2.2.2.2]
theorem P8{w:World}{A:Nat→Prop}{x:ax}{ps:List Value}:YG w A aW x ps=(∃(p3:Value) (r3:List Value),ps=p3::r3∧Cl w A (.sl [.int .i64,.int .i64,.int .i64]) x.2.2.2.1 p3∧r3=[]):=by kernel_rfl
theorem Xm{x:ax}{p3:Value}:YH aW x [p3]=sE x p3:=by kernel_rfl
theorem P7{w:World}{A:Nat→Prop}{x:ax}{us:List Value}(h:Rw w A aW x us):∃p3,us=sE x p3∧Cl w A (.sl [.int .i64,.int .i64,.int .i64]) x.2.2.2.1 p3:=by
 obtain⟨ps,hp,hh⟩:=h.to;rw[P8]at hp;obtain⟨p3,r3,rfl,h3,rfl⟩:=hp;have hh:=hh.trans Xm;exact⟨p3,hh,h3⟩
theorem EL{w:World}{A:Nat→Prop}{x:ax}{p3:Value}(h3:Cl w A (.sl [.int .i64,.int .i64,.int .i64]) x.2.2.2.1 p3):Rw w A aW x (sE x p3):=by
 refine(aCL (Rw w A aW x) Xm).mp (Rw.of ?_);rw[P8];exact⟨_,_,rfl,h3,rfl⟩
abbrev Mx(x:ay)(p5:Value):List Value:=[.int .i64 x.1,.int .i64 x.2.1,.int .i64 x.2.2.1,.int .i64 x.2.2.2.1,.int .i64 x.2.2.2.2.1,p5,.int .i64 x.2.2.2.2.2.2.1,.int .i64 x.2.2.2.2.2.2.2.1,.int .i64 x.2.2.2.2.2.2.2.2.1,.int .i64 x.2.2.2.2.2.2.2.2.2.1,.int .i64 x.2.2.2.2.2.2.2.2.2.2.1,.int .i64 x.2.2.2.2.2.2.2.2.2.2.2.1,.bool x.2.2.2.2.2.2.2.2.2.2.2.2]
theorem Qd{w:World}{A:Nat→Prop}{x:ay}{ps:List Value}:YG w A aJ x ps=(∃(p5:Value) (r5:List Value),ps=p5::r5∧Cl w A (.sl [.int .i64,.int .i64,.int .i64]) x.2.2.2.2.2.1 p5∧r5=[]):=by kernel_rfl
theorem Xp{x:ay}{p5:Value}:YH aJ x [p5]=Mx x p5:=by kernel_rfl
theorem agD{w:World}{A:Nat→Prop}{x:ay}{us:List Value}(h:Rw w A aJ x us):∃p5,us=Mx x p5∧Cl w A (.sl [.int .i64,.int .i64,.int .i64]) x.2.2.2.2.2.1 p5:=by
 obtain⟨ps,hp,hh⟩:=h.to;rw[Qd]at hp;obtain⟨p5,r5,rfl,h5,rfl⟩:=hp;have hh:=hh.trans Xp;exact⟨p5,hh,h5⟩
theorem agE{w:World}{A:Nat→Prop}{x:ay}{p5:Value}(h5:Cl w A (.sl [.int .i64,.int .i64,.int .i64]) x.2.2.2.2.2.1 p5):Rw w A aJ x (Mx x p5):=by
 refine(aCL (Rw w A aJ x) Xp).mp (Rw.of ?_);rw[Qd];exact⟨_,_,rfl,h5,rfl⟩
abbrev CK(x:bn)(Ng:Value):List Value:=[.int .i64 x.1,.int .i64 x.2.1,.int .i64 x.2.2.1,.int .i64 x.2.2.2.1,.int .i64 x.2.2.2.2.1,.int .i64 x.2.2.2.2.2.1,.int .i64 x.2.2.2.2.2.2.1,.int .i64 x.2.2.2.2.2.2.2.1,.int .i64 x.2.2.2.2.2.2.2.2.1,.int .i64 x.2.2.2.2.2.2.2.2.2.1,.int .i64 x.2.2.2.2.2.2.2.2.2.2.1,.int .i64 x.2.2.2.2.2.2.2.2.2.2.2.1,.int .i64 x.2.2.2.2.2.2.2.2.2.2.2.2.1,.int .i64 x.2.2.2.2.2.2.2.2.2.2.2.2.2.1,.int .i64 x.2.2.2.2.2.2.2.2.2.2.2.2.2.2.1,.int .i64 x.2.2.2.2.2.2.2.2.2.2.2.2.2.2.2.1,.int .i64 x.2.2.2.2.2.2.2.2.2.2.2.2.2.2.2.2.1,.int .i64 x.2.2.2.2.2.2.2.2.2.2.2.2.2.2.2.2.2.1,.int .i64 x.2.2.2.2.2.2.2.2.2.2.2.2.2.2.2.2.2.2.1,.int .i64 x.2.2.2.2.2.2.2.2.2.2.2.2.2.2.2.2.2.2.2.1,Ng,.int .i64 x.2.2.2.2.2.2.2.2.2.2.2.2.2.2.2.2.2.2.2.2.2.1,.int .i64 x.2.2.2.2.2.2.2.2.2.2.2.2.2.2.2.2.2.2.2.2.2.2.1,.int .i64 x.2.2.2.2.2.2.2.2.2.2.2.2.2.2.2.2.2.2.2.2.2.2.2.1,.int .i64 x.2.2.2.2.2.2.2.2.2.2.2.2.2.2.2.2.2.2.2.2.2.2.2.2.1,.int .i64 x.2.2.2.2.2.2.2.2.2.2.2.2.2.2.2.2.2.2.2.2.2.2.2.2.2.1,.int .i64 x.2.2.2.2.2.2.2.2.2.2.2.2.2.2.2.2.2.2.2.2.2.2.2.2.2.2.1,.bool x.2.2.2.2.2.2.2.2.2.2.2.2.2.2.2.2.2.2.2.2.2.2.2.2.2.2.2]
theorem Qa{w:World}{A:Nat→Prop}{x:bn}{ps:List Value}:YG w A cc x ps=(∃(Ng:Value) (r20:List Value),ps=Ng::r20∧Cl w A (.sl [.int .i64,.int .i64,.int .i64]) x.2.2.2.2.2.2.2.2.2.2.2.2.2.2.2.2.2.2.2.2.1 Ng∧r20=[]):=by kernel_rfl
theorem Xn{x:bn}{Ng:Value}:YH cc x [Ng]=CK x Ng:=by kernel_rfl
theorem agz{w:World}{A:Nat→Prop}{x:bn}{us:List Value}(h:Rw w A cc x us):∃Ng,us=CK x Ng∧Cl w A (.sl [.int .i64,.int .i64,.int .i64]) x.2.2.2.2.2.2.2.2.2.2.2.2.2.2.2.2.2.2.2.2.1 Ng:=by
 obtain⟨ps,hp,hh⟩:=h.to;rw[Qa]at hp;obtain⟨Ng,r20,rfl,h20,rfl⟩:=hp;have hh:=hh.trans Xn;exact⟨Ng,hh,h20⟩
theorem P9{w:World}{A:Nat→Prop}{x:bn}{Ng:Value}(h20:Cl w A (.sl [.int .i64,.int .i64,.int .i64]) x.2.2.2.2.2.2.2.2.2.2.2.2.2.2.2.2.2.2.2.2.1 Ng):Rw w A cc x (CK x Ng):=by
 refine(aCL (Rw w A cc x) Xn).mp (Rw.of ?_);rw[Qa];exact⟨_,_,rfl,h20,rfl⟩
abbrev IS(x:ao)(p0:Value)(p1:Value)(p2:Value)(p3:Value)(p4:Value)(p5:Value):List Value:=[p0,p1,p2,p3,p4,p5]
theorem IQ{w:World}{A:Nat→Prop}{x:ao}{ps:List Value}:YG w A ba x ps=(∃(p0:Value) (r0:List Value),ps=p0::r0∧Cl w A (.sl [.int .i64,.int .i64,.int .i64,.sl [.int .i64,.int .i64,.int .i64],.int .i64,.int .i64,.int .i64,.int .i64,.int .i64,.int .i64,.bool,.int .i64,.int .i64,.int .i64,.int .i64]) x.1 p0∧∃(p1:Value) (r1:List Value),r0=p1::r1∧Cl w A (.sl [.int .i64,.int .i64,.int .i64,.int .i64,.int .i64,.int .i64,.int .i64,.int .i64,.int .i64,.int .i64,.int .i64,.int .i64,.int .i64,.int .i64,.int .i64,.int .i64,.int .i64,.int .i64,.int .i64,.int .i64,.sl [.int .i64,.int .i64,.int .i64],.int .i64,.int .i64,.int .i64,.int .i64,.int .i64,.int .i64,.bool]) x.2.1 p1∧∃(p2:Value) (r2:List Value),r1=p2::r2∧Cl w A (.sl [.int .i64,.int .i64,.int .i64,.int .i64]) x.2.2.1 p2∧∃(p3:Value) (r3:List Value),r2=p3::r3∧Cl w A (.sl [.int .i64,.int .i64]) x.2.2.2.1 p3∧∃(p4:Value) (r4:List Value),r3=p4::r4∧Cl w A (.sl [.int .i64,.int .i64,.int .i64,.int .i64,.int .i64,.sl [.int .i64,.int .i64,.int .i64],.int .i64,.int .i64,.int .i64,.int .i64,.int .i64,.int .i64,.bool]) x.2.2.2.2.1 p4∧∃(p5:Value) (r5:List Value),r4=p5::r5∧Cl w A (.sl [.int .i64,.int .i64,.int .i64]) x.2.2.2.2.2 p5∧r5=[]):=by kernel_rfl
theorem P6{x:ao}{p0:Value}{p1:Value}{p2:Value}{p3:Value}{p4:Value}{p5:Value}:YH ba x [p0,p1,p2,p3,p4,p5]=IS x p0 p1 p2 p3 p4 p5:=by kernel_rfl
theorem jg{w:World}{A:Nat→Prop}{x:ao}{us:List Value}(h:Rw w A ba x us):∃p0,∃p1,∃p2,∃p3,∃p4,∃p5,us=IS x p0 p1 p2 p3 p4 p5∧Cl w A (.sl [.int .i64,.int .i64,.int .i64,.sl [.int .i64,.int .i64,.int .i64],.int .i64,.int .i64,.int .i64,.int .i64,.int .i64,.int .i64,.bool,.int .i64,.int .i64,.int .i64,.int .i64]) x.1 p0∧Cl w A (.sl [.int .i64,.int .i64,.int .i64,.int .i64,.int .i64,.int .i64,.int .i64,.int .i64,.int .i64,.int .i64,.int .i64,.int .i64,.int .i64,.int .i64,.int .i64,.int .i64,.int .i64,.int .i64,.int .i64,.int .i64,.sl [.int .i64,.int .i64,.int .i64],.int .i64,.int .i64,.int .i64,.int .i64,.int .i64,.int .i64,.bool]) x.2.1 p1∧Cl w A (.sl [.int .i64,.int .i64,.int .i64,.int .i64]) x.2.2.1 p2∧Cl w A (.sl [.int .i64,.int .i64]) x.2.2.2.1 p3∧Cl w A (.sl [.int .i64,.int .i64,.int .i64,.int .i64,.int .i64,.sl [.int .i64,.int .i64,.int .i64],.int .i64,.int .i64,.int .i64,.int .i64,.int .i64,.int .i64,.bool]) x.2.2.2.2.1 p4∧Cl w A (.sl [.int .i64,.int .i64,.int .i64]) x.2.2.2.2.2 p5:=by
 obtain⟨ps,hp,hh⟩:=h.to;rw[IQ]at hp;obtain⟨p0,r0,rfl,h0,p1,r1,rfl,h1,p2,r2,rfl,h2,p3,r3,rfl,h3,p4,r4,rfl,h4,p5,r5,rfl,h5,rfl⟩:=hp;have hh:=hh.trans P6;exact⟨p0,p1,p2,p3,p4,p5,hh,h0,h1,h2,h3,h4,h5⟩
theorem oG{w:World}{A:Nat→Prop}{x:ao}{p0:Value}{p1:Value}{p2:Value}{p3:Value}{p4:Value}{p5:Value}(h0:Cl w A (.sl [.int .i64,.int .i64,.int .i64,.sl [.int .i64,.int .i64,.int .i64],.int .i64,.int .i64,.int .i64,.int .i64,.int .i64,.int .i64,.bool,.int .i64,.int .i64,.int .i64,.int .i64]) x.1 p0)(h1:Cl w A (.sl [.int .i64,.int .i64,.int .i64,.int .i64,.int .i64,.int .i64,.int .i64,.int .i64,.int .i64,.int .i64,.int .i64,.int .i64,.int .i64,.int .i64,.int .i64,.int .i64,.int .i64,.int .i64,.int .i64,.int .i64,.sl [.int .i64,.int .i64,.int .i64],.int .i64,.int .i64,.int .i64,.int .i64,.int .i64,.int .i64,.bool]) x.2.1 p1)(h2:Cl w A (.sl [.int .i64,.int .i64,.int .i64,.int .i64]) x.2.2.1 p2)(h3:Cl w A (.sl [.int .i64,.int .i64]) x.2.2.2.1 p3)(h4:Cl w A (.sl [.int .i64,.int .i64,.int .i64,.int .i64,.int .i64,.sl [.int .i64,.int .i64,.int .i64],.int .i64,.int .i64,.int .i64,.int .i64,.int .i64,.int .i64,.bool]) x.2.2.2.2.1 p4)(h5:Cl w A (.sl [.int .i64,.int .i64,.int .i64]) x.2.2.2.2.2 p5):Rw w A ba x (IS x p0 p1 p2 p3 p4 p5):=by
 refine(aCL (Rw w A ba x) P6).mp (Rw.of ?_);rw[IQ];exact⟨_,_,rfl,h0,_,_,rfl,h1,_,_,rfl,h2,_,_,rfl,h3,_,_,rfl,h4,_,_,rfl,h5,rfl⟩
abbrev aqW(x:bU)(p1:Value)(p2:Value):List Value:=[.int .i64 x.1,p1,p2]
theorem agy{w:World}{A:Nat→Prop}{x:bU}{ps:List Value}:YG w A eN x ps=(∃(p1:Value) (r1:List Value),ps=p1::r1∧Cl w A (.sl [.int .i64]) x.2.1 p1∧∃(p2:Value) (r2:List Value),r1=p2::r2∧Cl w A (.sl [.int .i64]) x.2.2 p2∧r2=[]):=by kernel_rfl
theorem amk{x:bU}{p1:Value}{p2:Value}:YH eN x [p1,p2]=aqW x p1 p2:=by kernel_rfl
theorem agx{w:World}{A:Nat→Prop}{x:bU}{us:List Value}(h:Rw w A eN x us):∃p1,∃p2,us=aqW x p1 p2∧Cl w A (.sl [.int .i64]) x.2.1 p1∧Cl w A (.sl [.int .i64]) x.2.2 p2:=by
 obtain⟨ps,hp,hh⟩:=h.to;rw[agy]at hp;obtain⟨p1,r1,rfl,h1,p2,r2,rfl,h2,rfl⟩:=hp;have hh:=hh.trans amk;exact⟨p1,p2,hh,h1,h2⟩
abbrev agH(x:bR):List Value:=[.int .i64 x.1,.int .i64 x.2]
theorem agG{w:World}{A:Nat→Prop}{x:bR}{ps:List Value}:YG w A cF x ps=(ps=[]):=by kernel_rfl
theorem amn{x:bR}:YH cF x []=agH x:=by kernel_rfl
theorem agF{w:World}{A:Nat→Prop}{x:bR}:Rw w A cF x (agH x):=by
 refine(aCL (Rw w A cF x) amn).mp (Rw.of ?_);rw[agG]
abbrev aqY(x:kO):List Value:=[.int .i64 x.1,.int .i64 x.2.1,.int .i64 x.2.2.1,.int .i64 x.2.2.2]
theorem agC{w:World}{A:Nat→Prop}{x:kO}{ps:List Value}:YG w A yP x ps=(ps=[]):=by kernel_rfl
theorem amm{x:kO}:YH yP x []=aqY x:=by kernel_rfl
theorem agB{w:World}{A:Nat→Prop}{x:kO}{us:List Value}(h:Rw w A yP x us):us=aqY x:=by
 obtain⟨ps,hp,hh⟩:=h.to;rw[agC]at hp;subst hp;have hh:=hh.trans amm;exact hh
abbrev aqX(x:bz)(p2:Value)(p3:Value)(p4:Value)(p5:Value)(p6:Value)(p7:Value)(p8:Value)(p9:Value)(QS:Value)(QR:Value)(QQ:Value)(QP:Value)(QO:Value)(QN:Value)(QM:Value)(QL:Value):List Value:=[.int .i64 x.1,.int .i64 x.2.1,p2,p3,p4,p5,p6,p7,p8,p9,.bool x.2.2.2.2.2.2.2.2.2.2.1,.int .i64 x.2.2.2.2.2.2.2.2.2.2.2.1,QS,QR,QQ,QP,QO,QN,QM,QL]
theorem agA{w:World}{A:Nat→Prop}{x:bz}{ps:List Value}:YG w A cV x ps=(∃(p2:Value) (r2:List Value),ps=p2::r2∧Cl w A (.sl [.int .i64]) x.2.2.1 p2∧∃(p3:Value) (r3:List Value),r2=p3::r3∧Cl w A (.sl [.int .i64]) x.2.2.2.1 p3∧∃(p4:Value) (r4:List Value),r3=p4::r4∧Cl w A (.sl [.int .i64,.int .i64,.int .i64,.sl [.int .i64,.int .i64,.int .i64],.int .i64,.int .i64,.int .i64,.int .i64,.int .i64,.int .i64,.bool,.int .i64,.int .i64,.int .i64,.int .i64]) x.2.2.2.2.1 p4∧∃(p5:Value) (r5:List Value),r4=p5::r5∧Cl w A (.sl [.int .i64,.int .i64,.int .i64,.int .i64,.int .i64,.int .i64,.int .i64,.int .i64,.int .i64,.int .i64,.int .i64,.int .i64,.int .i64,.int .i64,.int .i64,.int .i64,.int .i64,.int .i64,.int .i64,.int .i64,.sl [.int .i64,.int .i64,.int .i64],.int .i64,.int .i64,.int .i64,.int .i64,.int .i64,.int .i64,.bool]) x.2.2.2.2.2.1 p5∧∃(p6:Value) (r6:List Value),r5=p6::r6∧Cl w A (.sl [.int .i64,.int .i64,.int .i64,.int .i64]) x.2.2.2.2.2.2.1 p6∧∃(p7:Value) (r7:List Value),r6=p7::r7∧Cl w A (.sl [.int .i64,.int .i64]) x.2.2.2.2.2.2.2.1 p7∧∃(p8:Value) (r8:List Value),r7=p8::r8∧Cl w A (.sl [.int .i64,.int .i64,.int .i64,.int .i64,.int .i64,.sl [.int .i64,.int .i64,.int .i64],.int .i64,.int .i64,.int .i64,.int .i64,.int .i64,.int .i64,.bool]) x.2.2.2.2.2.2.2.2.1 p8∧∃(p9:Value) (r9:List Value),r8=p9::r9∧Cl w A (.sl [.int .i64,.int .i64,.int .i64]) x.2.2.2.2.2.2.2.2.2.1 p9∧∃(QS:Value) (r12:List Value),r9=QS::r12∧Cl w A (.sl [.int .i64]) x.2.2.2.2.2.2.2.2.2.2.2.2.1 QS∧∃(QR:Value) (r13:List Value),r12=QR::r13∧Cl w A (.sl [.int .i64]) x.2.2.2.2.2.2.2.2.2.2.2.2.2.1 QR∧∃(QQ:Value) (r14:List Value),r13=QQ::r14∧Cl w A (.sl [.int .i64,.int .i64,.int .i64,.sl [.int .i64,.int .i64,.int .i64],.int .i64,.int .i64,.int .i64,.int .i64,.int .i64,.int .i64,.bool,.int .i64,.int .i64,.int .i64,.int .i64]) x.2.2.2.2.2.2.2.2.2.2.2.2.2.2.1 QQ∧∃(QP:Value) (r15:List Value),r14=QP::r15∧Cl w A (.sl [.int .i64,.int .i64,.int .i64,.int .i64,.int .i64,.int .i64,.int .i64,.int .i64,.int .i64,.int .i64,.int .i64,.int .i64,.int .i64,.int .i64,.int .i64,.int .i64,.int .i64,.int .i64,.int .i64,.int .i64,.sl [.int .i64,.int .i64,.int .i64],.int .i64,.int .i64,.int .i64,.int .i64,.int .i64,.int .i64,.bool]) x.2.2.2.2.2.2.2.2.2.2.2.2.2.2.2.1 QP∧∃(QO:Value) (r16:List Value),r15=QO::r16∧Cl w A (.sl [.int .i64,.int .i64,.int .i64,.int .i64]) x.2.2.2.2.2.2.2.2.2.2.2.2.2.2.2.2.1 QO∧∃(QN:Value) (r17:List Value),r16=QN::r17∧Cl w A (.sl [.int .i64,.int .i64]) x.2.2.2.2.2.2.2.2.2.2.2.2.2.2.2.2.2.1 QN∧∃(QM:Value) (r18:List Value),r17=QM::r18∧Cl w A (.sl [.int .i64,.int .i64,.int .i64,.int .i64,.int .i64,.sl [.int .i64,.int .i64,.int .i64],.int .i64,.int .i64,.int .i64,.int .i64,.int .i64,.int .i64,.bool]) x.2.2.2.2.2.2.2.2.2.2.2.2.2.2.2.2.2.2.1 QM∧∃(QL:Value) (r19:List Value),r18=QL::r19∧Cl w A (.sl [.int .i64,.int .i64,.int .i64]) x.2.2.2.2.2.2.2.2.2.2.2.2.2.2.2.2.2.2.2 QL∧r19=[]):=by kernel_rfl
theorem aml{x:bz}{p2:Value}{p3:Value}{p4:Value}{p5:Value}{p6:Value}{p7:Value}{p8:Value}{p9:Value}{QS:Value}{QR:Value}{QQ:Value}{QP:Value}{QO:Value}{QN:Value}{QM:Value}{QL:Value}:YH cV x [p2,p3,p4,p5,p6,p7,p8,p9,QS,QR,QQ,QP,QO,QN,QM,QL]=aqX x p2 p3 p4 p5 p6 p7 p8 p9 QS QR QQ QP QO QN QM QL:=by kernel_rfl
theorem Qb{w:World}{A:Nat→Prop}{x:bz}{us:List Value}(h:Rw w A cV x us):∃p2,∃p3,∃p4,∃p5,∃p6,∃p7,∃p8,∃p9,∃QS,∃QR,∃QQ,∃QP,∃QO,∃QN,∃QM,∃QL,us=aqX x p2 p3 p4 p5 p6 p7 p8 p9 QS QR QQ QP QO QN QM QL∧Cl w A (.sl [.int .i64]) x.2.2.1 p2∧Cl w A (.sl [.int .i64]) x.2.2.2.1 p3∧Cl w A (.sl [.int .i64,.int .i64,.int .i64,.sl [.int .i64,.int .i64,.int .i64],.int .i64,.int .i64,.int .i64,.int .i64,.int .i64,.int .i64,.bool,.int .i64,.int .i64,.int .i64,.int .i64]) x.2.2.2.2.1 p4∧Cl w A (.sl [.int .i64,.int .i64,.int .i64,.int .i64,.int .i64,.int .i64,.int .i64,.int .i64,.int .i64,.int .i64,.int .i64,.int .i64,.int .i64,.int .i64,.int .i64,.int .i64,.int .i64,.int .i64,.int .i64,.int .i64,.sl [.int .i64,.int .i64,.int .i64],.int .i64,.int .i64,.int .i64,.int .i64,.int .i64,.int .i64,.bool]) x.2.2.2.2.2.1 p5∧Cl w A (.sl [.int .i64,.int .i64,.int .i64,.int .i64]) x.2.2.2.2.2.2.1 p6∧Cl w A (.sl [.int .i64,.int .i64]) x.2.2.2.2.2.2.2.1 p7∧Cl w A (.sl [.int .i64,.int .i64,.int .i64,.int .i64,.int .i64,.sl [.int .i64,.int .i64,.int .i64],.int .i64,.int .i64,.int .i64,.int .i64,.int .i64,.int .i64,.bool]) x.2.2.2.2.2.2.2.2.1 p8∧Cl w A (.sl [.int .i64,.int .i64,.int .i64]) x.2.2.2.2.2.2.2.2.2.1 p9∧Cl w A (.sl [.int .i64]) x.2.2.2.2.2.2.2.2.2.2.2.2.1 QS∧Cl w A (.sl [.int .i64]) x.2.2.2.2.2.2.2.2.2.2.2.2.2.1 QR∧Cl w A (.sl [.int .i64,.int .i64,.int .i64,.sl [.int .i64,.int .i64,.int .i64],.int .i64,.int .i64,.int .i64,.int .i64,.int .i64,.int .i64,.bool,.int .i64,.int .i64,.int .i64,.int .i64]) x.2.2.2.2.2.2.2.2.2.2.2.2.2.2.1 QQ∧Cl w A (.sl [.int .i64,.int .i64,.int .i64,.int .i64,.int .i64,.int .i64,.int .i64,.int .i64,.int .i64,.int .i64,.int .i64,.int .i64,.int .i64,.int .i64,.int .i64,.int .i64,.int .i64,.int .i64,.int .i64,.int .i64,.sl [.int .i64,.int .i64,.int .i64],.int .i64,.int .i64,.int .i64,.int .i64,.int .i64,.int .i64,.bool]) x.2.2.2.2.2.2.2.2.2.2.2.2.2.2.2.1 QP∧Cl w A (.sl [.int .i64,.int .i64,.int .i64,.int .i64]) x.2.2.2.2.2.2.2.2.2.2.2.2.2.2.2.2.1 QO∧Cl w A (.sl [.int .i64,.int .i64]) x.2.2.2.2.2.2.2.2.2.2.2.2.2.2.2.2.2.1 QN∧Cl w A (.sl [.int .i64,.int .i64,.int .i64,.int .i64,.int .i64,.sl [.int .i64,.int .i64,.int .i64],.int .i64,.int .i64,.int .i64,.int .i64,.int .i64,.int .i64,.bool]) x.2.2.2.2.2.2.2.2.2.2.2.2.2.2.2.2.2.2.1 QM∧Cl w A (.sl [.int .i64,.int .i64,.int .i64]) x.2.2.2.2.2.2.2.2.2.2.2.2.2.2.2.2.2.2.2 QL:=by
 obtain⟨ps,hp,hh⟩:=h.to;rw[agA]at hp;obtain⟨p2,r2,rfl,h2,p3,r3,rfl,h3,p4,r4,rfl,h4,p5,r5,rfl,h5,p6,r6,rfl,h6,p7,r7,rfl,h7,p8,r8,rfl,h8,p9,r9,rfl,h9,QS,r12,rfl,h12,QR,r13,rfl,h13,QQ,r14,rfl,h14,QP,r15,rfl,h15,QO,r16,rfl,h16,QN,r17,rfl,h17,QM,r18,rfl,h18,QL,r19,rfl,h19,rfl⟩:=hp;have hh:=hh.trans aml;exact⟨p2,p3,p4,p5,p6,p7,p8,p9,QS,QR,QQ,QP,QO,QN,QM,QL,hh,h2,h3,h4,h5,h6,h7,h8,h9,h12,h13,h14,h15,h16,h17,h18,h19⟩
open Go.Proofs
def vo:al→List al→List al
 | _,[]=>[]
 | x,y::r=>bif decide (y=x)then vo x r else y::vo y r
def om:List al→List al
 | []=>[]
 | x::r=>x::vo x r
def yW(a b:al):Bool:=cf (a,b)
theorem ase:qE yW:=⟨fun a b h=>A5 h,fun a b c h1 h2=>by
 unfold yW at *;cases h:cf (c,a)with
 | false=>rfl
 | true=>
  by_cases hab:a=b
  ·subst hab;rw[h]at h2;cases h2
  ·have:=tk h1 (fun e=>hab e.symm)
   rw[mQ h this]at h2;cases h2⟩
def Asc(l:List al):Prop:=l.Pairwise fun a b=>cf (a,b)=true
theorem Asc.eq:∀{a b:List al},Asc a→Asc b→(∀x,x∈a↔x∈b)→a=b
 | [],[],_,_,_=>rfl
 | [],y::b,_,_,h=>absurd ((h y).2 aCK) (by simp)
 | x::a,[],_,_,h=>absurd ((h x).1 aCK) (by simp)
 | x::a,y::b,ha,hb,h=>by
  have ha':=aDk.1 ha;have jb:=aDk.1 hb;have uQ:x=y:=by
   rcases aCJ.1 ((h x).1 aCK)with e | e
   ·exact e
   ·rcases aCJ.1 ((h y).2 aCK)with e2 | e2
    ·exact e2.symm
    ·have h1:=ha'.1 y e2
     have h2:=jb.1 x e;rw[A5 h1]at h2;cases h2
  subst uQ;rw[Asc.eq ha'.2 jb.2 fun z=>?_];have:=h z;simp only[aCJ]at this;constructor
  ·intro hz
   rcases this.1 (.inr hz)with e | e
   ·subst e;have:=ha'.1 z hz;rw[oW]at this;cases this
   ·exact e
  ·intro hz
   rcases this.2 (.inr hz)with e | e
   ·subst e;have:=jb.1 z hz;rw[oW]at this;cases this
   ·exact e
theorem AW(id:al):∀(l:List al) (x:al),x∈gM l id↔x=id∨x∈l
 | [],x=>by simp[gM]
 | u::r,x=>by
  have ih:=AW id r x;simp only[gM];cases cf (u,id)with
  | true=>simp only[aCn,aCJ,ih];constructor<;>(intro h;rcases h with h | h | h<;>simp[h])
  | false=>
   by_cases hu:u=id
   ·rw[aCm hu];simp only[aCn,aCq,aCJ,hu];constructor
    ·exact .inr
    ·rintro(h | h)
     ·exact .inl h
     ·exact h
   ·rw[aCz hu];simp only[aCq,aCJ]
theorem Ll(id:al):∀l:List al,Asc l→Asc (gM l id)
 | [],_=>List.pairwise_singleton _ _
 | u::r,h=>by
  have h':=aDk.1 h;simp only[gM];cases hl:cf (u,id)with
  | true=>
   refine aDk.2 ⟨fun x hx=>?_,Ll id r h'.2⟩;rcases(AW id r x).1 hx with rfl | hx
   ·exact hl
   ·exact h'.1 x hx
  | false=>
   by_cases hu:u=id
   ·rw[aCm hu];exact h
   ·rw[aCz hu]
    have h1:=tk hl hu;refine aDk.2 ⟨fun x hx=>?_,h⟩;rcases aCJ.1 hx with rfl | hx
    ·exact h1
    ·exact mQ h1 (h'.1 x hx)
theorem Lk:∀(l o:List al),Asc o→Asc (l.foldl gM o)
 | [],o,h=>h
 | x::l,o,h=>Lk l _ (Ll x o h)
theorem Kd:∀(l o:List al) (x:al),x∈l.foldl gM o↔x∈o∨x∈l
 | [],o,x=>by simp
 | y::l,o,x=>by
  rw[aDH,Kd l,AW,aCJ];constructor
  ·rintro((h | h) | h)<;>simp[h]
  ·rintro(h | h | h)<;>simp[h]
theorem AV:∀(l:List al) (x z:al),(z=x∨z∈vo x l)↔(z=x∨z∈l)
 | [],x,z=>by simp[vo]
 | y::r,x,z=>by
  simp only[vo];by_cases h:y=x
  ·rw[aCm h]
   subst h;rw[aCn,AV r y z,aCJ];constructor
   ·rintro(h | h)<;>simp[h]
   ·rintro(h | h | h)<;>simp[h]
  ·rw[aCz h,aCq,aCJ,aCJ]
   have:=AV r y z;constructor
   ·rintro(h | h)
    ·exact .inl h
    ·exact .inr (this.1 h)
   ·rintro(h | h)
    ·exact .inl h
    ·exact .inr (this.2 h)
theorem BI:∀(l:List al) (x:al),cO yW (x::l)→Asc (x::vo x l)
 | [],x,_=>List.pairwise_singleton _ _
 | y::r,x,h=>by
  have h1:=aDk.1 h;have h2:=aDk.1 h1.2;simp only[vo];by_cases hy:y=x
  ·rw[aCm hy]
   subst hy;exact BI r y h1.2
  ·rw[aCz hy,aCq]
   have h3:=BI r y h1.2;have uQ:cf (x,y)=true:=tk (h1.1 y aCK) hy;refine aDk.2 ⟨fun z hz=>?_,h3⟩;rcases aCJ.1 hz with rfl | hz
   ·exact uQ
   ·exact mQ uQ ((aDk.1 h3).1 z hz)
theorem abZ(l:List al):om (cb yW l)=l.foldl gM []:=by
 have hs:=jk ase l;have hp:=lz (lt:=yW) l;refine Asc.eq ?_ (Lk l [] .nil) fun x=>?_
 ·cases hq:cb yW l with
  | nil=>exact .nil
  | cons x r=>rw[hq]at hs;exact BI r x hs
 ·rw[Kd]
  cases hq:cb yW l with
  | nil=>
   rw[hq]at hp;have:l=[]:=hp.symm.eq_nil;subst this;simp[om]
  | cons y r=>
   rw[hq]at hp;rw[← hp.mem_iff];simp only[om,aCJ,List.not_mem_nil,false_or];exact AV r y x
def allM(l:List bz):List al:=l.flatMap fun r=>(nZ r).map (·.2)
theorem abH(l:List bz):bc l=(allM l).foldl gM []:=by
 unfold bc allM;generalize ([]:List al)=o;induction l generalizing o with
 | nil=>rfl
 | cons r l ih=>
  rw[aDH,aEC,aEG,ih]
  congr 1
  rw[List.foldl_map]
theorem FQ(l:List bz):om (cb yW (allM l))=bc l:=by rw[abZ,abH]
open Go.Proofs Go.MapKept
def Zc.prun{α:Type}(P:Program):Sem α→Option α
 | .pure a=>some a
 | .program k=>Zc.prun P (k P)
 | _=>none
theorem Zc.uA{α:Type}{P:Program}{m:Sem α}{a:α}(h:Zc.prun P m=some a)(w:World):m.run P w=.ok a w:=by
 induction m with
 | pure b=>simp only[Zc.prun,aCA]at h;subst h;rfl
 | program k ih=>exact ih P h
 | _=>simp[Zc.prun]at h
def Yh.v(x:al):Value:=.agg #[.int .i64 x.1,.int .i64 x.2.1,.int .i64 x.2.2]
theorem Yh.bit{a b c d e f:Int}:((a == d)&&((b == e)&&((c == f)&&true)))=decide ((a,b,c)=(d,e,f)):=by
 by_cases h1:a=d
 ·by_cases h2:b=e
  ·by_cases h3:c=f
   ·simp[h1,h2,h3]
   ·simp[h1,h2,h3]
  ·simp[h1,h2]
 ·simp[h1]
theorem Yh.asb(w:World)(x:al):oD w (fun _=>False) [.int .i64 x.1,.int .i64 x.2.1,.int .i64 x.2.2] [.int .i64 x.1,.int .i64 x.2.1,.int .i64 x.2.2]:=by
 refine⟨rfl,fun j y hy=>?_⟩
 match j,hy with
 | 0,hy=>simp at hy;subst hy;exact⟨_,rfl,.int _ _⟩
 | 1,hy=>simp at hy;subst hy;exact⟨_,rfl,.int _ _⟩
 | 2,hy=>simp at hy;subst hy;exact⟨_,rfl,.int _ _⟩
 | j+3,hy=>simp at hy
theorem Yh.row(x:al):valOf Tryz.prog 48 [.int .i64 x.1,.int .i64 x.2.1,.int .i64 x.2.2]=Yh.v x:=by kernel_rfl
theorem Yh.eq(x y:al)(w:World):(Op.equal 48 (Yh.v x) (Yh.v y)).run Tryz.prog w=.ok (decide (x=y)) w:=by
 obtain⟨a,b,c⟩:=x;obtain⟨d,e,f⟩:=y;have h:=te (P:=Tryz.prog) (fun _=>False) w 2 48 [true,true,true] (by kernel_rfl) Op.maxDepth (by decide) _ _ _ _ (decide ((a,b,c)=(d,e,f))) (Yh.asb w (a,b,c)) (Yh.asb w (d,e,f)) rfl
  (by show some _=some _;exact aCL some Yh.bit) w
 rw[Yh.row (a,b,c),Yh.row (d,e,f)]at h;unfold Op.equal;exact h
theorem Yh.ck0(x:al)(e:Bool):Zc.prun Tryz.prog (Instr.checkKey e 10000 48 (Yh.v x))=some ():=by kernel_rfl
theorem Yh.ck(x:al)(e:Bool)(w:World):(Instr.checkKey e 10000 48 (Yh.v x)).run Tryz.prog w=.ok () w:=Zc.uA (Yh.ck0 x e) w
def Yh.E(ids:List al)(l:List MapEntry):Prop:=l.map (fun e=>(e.key,e.val))=ids.map fun x=>(Yh.v x,.bool true)
theorem Yh.ask(x:al)(w:World):∀(ids:List al) (l:List MapEntry) (i:Nat),Yh.E ids l→
  ∃r,(Instr.findAsking 48 (Yh.v x) l i).run Tryz.prog w=.ok r w∧((x∉ids∧r=none)∨(x∈ids∧∃j e,r=some (i+j,.bool true)∧l[j]? = some e∧e.key=Yh.v x∧e.val=.bool true))
 | [],[],i,_=>⟨none,rfl,.inl ⟨by simp,rfl⟩⟩
 | [],_::_,i,h=>by simp[Yh.E]at h
 | _::_,[],i,h=>by simp[Yh.E]at h
 | y::ids,e::l,i,h=>by
  simp only[Yh.E,aDh,aEa,aCH]at h;obtain⟨⟨h1,h2⟩,h3⟩:=h;by_cases uQ:x=y
  ·subst uQ
   refine⟨some (i,.bool true),?_,.inr ⟨by simp,0,e,rfl,rfl,h1,h2⟩⟩;simp only[Instr.findAsking,Sem.run_bind,h1,Yh.eq,Result.andThen_ok,aEE,aC5,h2];rfl
  ·obtain⟨r,g1,g2⟩:=Yh.ask x w ids l (i+1) h3
   refine⟨r,?_,?_⟩
   ·simp only[Instr.findAsking,Sem.run_bind,h1,Yh.eq,Result.andThen_ok,uQ,decide_false,aDt,aC4]
    exact g1
   ·rcases g2 with⟨g2,g3⟩ | ⟨g2,j,e',g3,g4,g5⟩
    ·exact .inl ⟨by simp[uQ,g2],g3⟩
    ·exact .inr ⟨by simp[g2],j+1,e',by rw[g3];congr 2;omega,g4,g5⟩
theorem Yh.find(x:al)(w:World)(ids:List al)(l:List MapEntry)(h:Yh.E ids l):
  ∃r,(Instr.findKey 48 (Yh.v x) l).run Tryz.prog w=.ok r w∧((x∉ids∧r=none)∨(x∈ids∧∃j e,r=some (j,.bool true)∧l[j]? = some e∧e.key=Yh.v x∧e.val=.bool true)):=by
 have hu:=Tryz.underlying48;cases ids with
 | nil=>
  cases l with
  | cons=>simp[Yh.E]at h
  | nil=>
   refine⟨none,?_,.inl ⟨by simp,rfl⟩⟩;simp only[Instr.findKey,Sem.run_bind,run_underlying hu,Result.andThen_ok,Instr.findNow];rfl
 | cons y ids=>
  cases l with
  | nil=>simp[Yh.E]at h
  | cons e l=>
   obtain⟨r,g1,g2⟩:=Yh.ask x w (y::ids) (e::l) 0 h;refine⟨r,?_,?_⟩
   ·have h1:e.key=Yh.v y:=by
     simp only[Yh.E,aDh,aEa,aCH]at h;exact h.1.1
    simp only[Instr.findKey,Sem.run_bind,run_underlying hu,Result.andThen_ok,Instr.findNow,h1,Yh.v,Instr.sameNow];exact g1
   ·rcases g2 with g2 | ⟨g2,j,e',g3,g4⟩
    ·exact .inl g2
    ·exact .inr ⟨g2,j,e',by rw[g3,aC0],g4⟩
def Yh.M(w:World)(r:Nat)(ids:List al):Prop:=∃es c,w.heap[r]? = some (.map es c)∧Yh.E ids es.toList
def Yh.add(ids:List al)(x:al):List al:=if x∈ids then ids else ids++[x]
theorem Yh.ahU{ids:List al}{x y:al}:y∈Yh.add ids x↔y=x∨y∈ids:=by
 unfold Yh.add
 split
 ·rename_i h
  constructor
  ·exact .inr
  ·rintro(rfl | h1)
   ·exact h
   ·exact h1
 ·simp[or_comm]
theorem Yh.look{w:World}{r:Nat}{ids:List al}(h:Yh.M w r ids)(x:al):(Instr.lookup 111 (.map (some r)) (Yh.v x) false).run Tryz.prog w=.ok (.bool (decide (x∈ids))) w:=by
 obtain⟨es,c,h1,h2⟩:=h;have hu:=Tryz.underlying111;obtain⟨f,g1,g2⟩:=Yh.find x w ids es.toList h2;rcases g2 with⟨g2,rfl⟩ | ⟨g2,j,e,rfl,g4⟩
 ·have hz:(zeroValue 4).run Tryz.prog w=.ok (.bool false) w:=Zc.uA (by kernel_rfl) w
  simp only[Instr.lookup,Sem.run_bind,run_underlying hu,Result.andThen_ok,Sem.run_pure,MapKept.run_getObj_map h1,Yh.ck,g1,hz];simp[g2]
 ·simp only[Instr.lookup,Sem.run_bind,run_underlying hu,Result.andThen_ok,Sem.run_pure,MapKept.run_getObj_map h1,Yh.ck,g1]
  simp[g2]
theorem Yh.sb(x:al):Instr.sameBits 10000 (Yh.v x) (Yh.v x)=true:=by
 simp[Yh.v,Instr.sameBits]
theorem Yh.H7{w:World}{r:Nat}{ids:List al}(h:Yh.M w r ids)(x:al):∃w',(Instr.mapUpdate 111 (.map (some r)) (Yh.v x) (.bool true)).run Tryz.prog w=.ok () w'∧Yh.M w' r (Yh.add ids x)∧∃o,w'={w with heap:=w.heap.setIfInBounds r o }:=by
 obtain⟨es,c,h1,h2⟩:=h;have hu:=Tryz.underlying111;obtain⟨f,g1,g2⟩:=Yh.find x w ids es.toList h2;rcases g2 with⟨g2,rfl⟩ | ⟨g2,j,e,rfl,g4,g5,g6⟩
 ·refine⟨{w with heap:=w.heap.setIfInBounds r (.map (es.push ⟨Yh.v x,.bool true,c⟩) (c+1)) },?_,⟨_,_,(heap_set h1).1,?_⟩,_,rfl⟩
  ·simp only[Instr.mapUpdate,Sem.run_bind,run_underlying hu,Result.andThen_ok,MapKept.run_getObj_map h1,Yh.ck,g1,MapKept.run_setObj_map _ h1]
  ·unfold Yh.add
   rw[aCo g2];simp only[Yh.E,Array.toList_push,aEB,aDh,aDR];rw[h2]
 ·have hj:es[j]? = some e:=by simpa using g4
  refine⟨{w with heap:=w.heap.setIfInBounds r (.map (es.modify j fun e=>{e with key:=Yh.v x,val:=.bool true }) c) },?_,⟨_,_,(heap_set h1).1,?_⟩,_,rfl⟩
  ·simp only[Instr.mapUpdate,Sem.run_bind,run_underlying hu,Result.andThen_ok,MapKept.run_getObj_map h1,Yh.ck,g1,hj,aCU,aDK,g5,Instr.keyThatStays,Yh.sb,aC5,Sem.run_pure,MapKept.run_setObj_map _ h1]
  ·unfold Yh.add
   rw[aCr g2];unfold Yh.E at h2 ⊢;rw[← h2];apply List.ext_getElem?;intro n;simp only[aDm,aDy,aE4];by_cases hn:j=n
   ·subst hn
    rw[aCr rfl,hj];simp[g5,g6]
   ·rw[aCo hn]
theorem Yh.mk(w:World):(Instr.makeMap 111 none).run Tryz.prog w=.ok (.map (some w.heap.size)) (w.alloc (.map #[] 0))∧Yh.M (w.alloc (.map #[] 0)) w.heap.size []:=
 ⟨by simp[Instr.makeMap,Result.andThen],_,_,(heap_alloc w _).1,rfl⟩
theorem Yh.M.frame{w w':World}{r:Nat}{ids:List al}(h:Yh.M w r ids)(he:w'.heap[r]? = w.heap[r]?):Yh.M w' r ids:=by
 obtain⟨es,c,h1,h2⟩:=h;exact⟨es,c,by rw[he];exact h1,h2⟩
open Go.Proofs
def uV(o:List al)(l:List ax):List al:=l.foldl (fun o s=>bif bJ s then o else Yh.add o (jl s)) o
def jx(all:List ao):List al:=all.foldl (fun o s=>uV o s.1) []
theorem Kc(x:al):∀(l:List ax) (o:List al),x∈uV o l↔x∈o∨l.any (dJ x)=true
 | [],o=>by simp[uV]
 | s::l,o=>by
  have ih:=Kc x l (bif bJ s then o else Yh.add o (jl s));show x∈uV (bif bJ s then o else Yh.add o (jl s)) l↔_;rw[ih,List.any_cons,aD0];have e:x∈(bif bJ s then o else Yh.add o (jl s))↔x∈o∨dJ x s=true:=by
   unfold dJ;cases bJ s with
   | true=>simp
   | false=>
    simp only[aCq,aEi,aCu,aCy];rw[Yh.ahU];constructor
    ·rintro(h | h)
     ·exact .inr h.symm
     ·exact .inl h
    ·rintro(h | h)
     ·exact .inr h
     ·exact .inl h.symm
  rw[e,or_assoc]
theorem QY(x:al)(all:List ao):x∈jx all↔bu all x=true:=by
 have key:∀(l:List ao) (o:List al),x∈l.foldl (fun o s=>uV o s.1) o↔x∈o∨l.any (fun s=>s.1.any (dJ x))=true:=by
  intro l;induction l with
  | nil=>intro o;simp
  | cons s l ih=>
   intro o;rw[aDH,ih,Kc,List.any_cons,aD0,or_assoc]
 unfold jx bu;rw[key];simp
theorem aik(all:List ao):(fun x=>decide (x∈jx all))=bu all:=by
 funext x
 cases h:bu all x with
 | true=>exact aCm ((QY x all).2 h)
 | false=>exact aCz fun h2=>by rw[(QY x all).1 h2]at h;cases h
def sO(h:al→Bool)(d:List al)(m:List Int)(l0:List ax):List bn→List ax→List bn→List bR→List ax×List bn×List bR
 | [],l,left,an=>(l,left,an)
 | r::q,l,left,an=>bif(dI h l0 r d m).2 then sO h d m l0 q (gH (l,(j9 r).2.1)) left (an++[((j9 r).2.1,(dI h l0 r d m).1)])else sO h d m l0 q l (left++[r]) an
def vA(h:al→Bool)(d:List al)(m:List Int)(s:ao):ao:=((sO h d m s.1 s.2.1 s.1 [] s.2.2.2.1).1,(sO h d m s.1 s.2.1 s.1 [] s.2.2.2.1).2.1,s.2.2.1,cb iP (sO h d m s.1 s.2.1 s.1 [] s.2.2.2.1).2.2,s.2.2.2.2)
def SmT(l l0:List ax):Prop:=l.map (fun s=>(bJ s,jl s))=l0.map fun s=>(bJ s,jl s)
theorem SmT.thr{l l0:List ax}(h:SmT l l0)(r:bn):Ak l r=Ak l0 r:=by
 have hl:l.length=l0.length:=by have:=aCL List.length h;simpa using this
 have hg:∀k:Nat,bJ (l.getD k kF)=bJ (l0.getD k kF)∧jl (l.getD k kF)=jl (l0.getD k kF):=fun k=>by
  have:=aCL (fun z=>z[k]?) h;simp only[aDm]at this;rw[aDB,aDB];cases h1:l[k]?<;>cases h2:l0[k]?<;>simp[h1,h2]at this ⊢
  exact this
 obtain⟨g1,g2⟩:=hg (gA r).2.1.toNat;unfold Ak;rw[hl,g1,g2]
theorem SmT.out{l l0:List ax}(h:SmT l l0)(b:al→Bool)(r:bn)(d:List al)(m:List Int):dI b l r d m=dI b l0 r d m:=by
 unfold dI;rw[h.thr r]
theorem SmT.rel{l l0:List ax}(h:SmT l l0)(op:Int):SmT (gH (l,op)) l0:=by
 unfold SmT at *;rw[← h];unfold gH;rw[List.map_map];apply aDu;intro s hs;show(bJ (iM op s),jl (iM op s))=(bJ s,jl s);unfold iM;cases decide (sS s=op)<;>rfl
theorem Gx(h:al→Bool)(d:List al)(m:List Int)(l0:List ax):∀(q:List bn) (l:List ax) (left:List bn) (an:List bR),SmT l l0→sO h d m l0 q l left an=kJ h d m q l left an
 | [],l,left,an,hs=>rfl
 | r::q,l,left,an,hs=>by
  simp only[sO,kJ,hs.out];rw[Gx h d m l0 q _ _ _ (hs.rel _),Gx h d m l0 q _ _ _ hs]
theorem aco(h:al→Bool)(d:List al)(m:List Int)(s:ao)(hs:s.2.2.2.1=[]):vA h d m s=eY h d m s:=by
 unfold vA eY;rw[hs,Gx h d m s.1 s.2.1 s.1 [] [] rfl]
theorem QT(rs:List bA)(ow:List Int)(c:Int):∀(ss:List (ao×Int)) (out:List ay),CW rs ow c ss out=(ss.flatMap fun p=>(gg (p.1.1,p.2)).filter (fa rs ow c)).foldl (fun s x=>bH bO x s) out
 | [],out=>rfl
 | (s,m)::r,out=>by
  rw[CW,QT rs ow c r,aEC,aEG]
def Nb(rs:List bA)(ow:List Int)(c:Int)(ss:List (ao×Int)):List ay:=cb bO (ss.flatMap fun p=>(gg (p.1.1,p.2)).filter (fa rs ow c))
theorem Na(rs:List bA)(ow:List Int)(c:Int)(ss:List (ao×Int)):Nb rs ow c ss=CW rs ow c ss []:=(QT rs ow c ss []).symm
def iy(ai:Int)(ab:List bz)(d:List al)(c:Int):ao:=((iJ (eJ (c,ai,ab)).1 d).map gG,(eJ (c,ai,ab)).2.1,[],[],[],d)
theorem X5(x:al):iK x kF=kF:=by
 unfold iK;cases h:kV x kF with
 | false=>rfl
 | true=>rfl
theorem X2(d:List al)(n:Nat):iJ (List.replicate n kF) d=List.replicate n kF:=by
 unfold iJ;induction d with
 | nil=>rfl
 | cons x d ih=>
  rw[aDH];have:(kI (List.replicate n kF,x)).1=List.replicate n kF:=by
   show(List.replicate n kF).map (iK x)=_;rw[List.map_replicate,X5]
  rw[this];exact ih
theorem Fk(ai:Int)(ab:List bz)(d:List al)(c:Int):iy ai ab d c=e9 ai ab d c:=by
 unfold iy e9 eJ
 dsimp only
 cases decide (aL (fun q:bz=>decide (q.1=c)) ab 0<0)with
 | true=>simp only[aCn,X2,List.map_replicate];rfl
 | false=>rfl
def ly(rs:List bA)(v:bU)(all:List ao):List ao→List Int→List ao
 | s::r,c::m=>(s.1,s.2.1,s.2.2.1,s.2.2.2.1,Nb rs v.2.2 c (all.zip v.2.1),s.2.2.2.2.2)::ly rs v all r m
 | _,_=>[]
theorem QF(rs:List bA)(v:bU)(all:List ao):∀(r:List ao) (m:List Int) (k:Nat),r.length=m.length→v.2.1.drop k=m→ly rs v all r m=iS rs v all r k
 | [],[],k,_,_=>rfl
 | s::r,c::m,k,h,hd=>by
  have e:v.2.1.getD k 0=c:=by
   rw[aDB,← List.head?_drop,hd];rfl
  simp only[ly,iS];rw[QF rs v all r m (k+1) (by simpa using h) (by rw[← List.tail_drop,hd];rfl),Na,← e];rfl
 | [],_::_,k,h,_=>by simp at h
 | _::_,[],k,h,_=>by simp at h
def J1(a:List bA×Int×List bz×bU):List ao:=
 (fun d=>(fun o=>(fun o2=>ly a.1 a.2.2.2 o2 o2 a.2.2.2.2.1) (o.map (vA (fun x=>decide (x∈jx o)) d a.2.2.2.2.1))) (a.2.2.2.2.1.map (iy a.2.1 a.2.2.1 d))) (om (cb yW (allM a.2.2.1)))
theorem ahH(a:List bA×Int×List bz×bU):J1 a=eC a:=by
 obtain⟨rs,ai,ab,v⟩:=a;unfold J1 eC
 dsimp only
 rw[FQ,show iy ai ab (bc ab)=e9 ai ab (bc ab)from funext fun c=>Fk _ _ _ c,aik];have e:(v.2.1.map (e9 ai ab (bc ab))).map (vA (bu (v.2.1.map (e9 ai ab (bc ab)))) (bc ab) v.2.1)=(v.2.1.map (e9 ai ab (bc ab))).map (eY (bu (v.2.1.map (e9 ai ab (bc ab)))) (bc ab) v.2.1):=by
  apply aDu;intro s hs;obtain⟨c,_,rfl⟩:=aCN.1 hs;refine aco _ _ _ _ ?_;unfold e9;cases decide (aL (fun q:bz=>decide (q.1=c)) ab 0<0)<;>rfl
 rw[e];exact QF rs v _ _ v.2.1 0 (by simp) rfl
