/- AI. -/
import Derived.Test.YtfggefeflojnkaaGreatZ0
import Derived.Test.YtfggefeflojnkaaGreatYw
set_option linter.unusedVariables false
namespace Go.AL
open Go.RowKit
abbrev kz(x:aj):List Value:=[.int .i64 x.1,.int .i64 x.2.1,.int .i64 x.2.2]
theorem Pc{w:World}{A:Nat→Prop}{x:aj}{ps:List Value}:Xe w A aE x ps=(ps=[]):=by kernel_rfl
theorem Wa{x:aj}:Xf aE x []=kz x:=by kernel_rfl
theorem l6{w:World}{A:Nat→Prop}{x:aj}{us:List Value}(h:Rw w A aE x us):us=kz x:=by
 obtain⟨ps,hp,hh⟩:=h.to;grind[Pc,Wa]
theorem iQ{w:World}{A:Nat→Prop}{x:aj}:Rw w A aE x (kz x):=by
 refine(azT (Rw w A aE x) Wa).mp (Rw.of ?_);rw[Pc]
abbrev rP(x:aL)(p3:Value):List Value:=[.int .i64 x.1,.int .i64 x.2.1,.int .i64 x.2.2.1,p3,.int .i64 x.2.2.2.2.1,.int .i64 x.2.2.2.2.2.1,.int .i64 x.2.2.2.2.2.2.1,.int .i64 x.2.2.2.2.2.2.2.1,.int .i64 x.2.2.2.2.2.2.2.2.1,.int .i64 x.2.2.2.2.2.2.2.2.2.1,.bool x.2.2.2.2.2.2.2.2.2.2.1,.int .i64 x.2.2.2.2.2.2.2.2.2.2.2.1,.int .i64 x.2.2.2.2.2.2.2.2.2.2.2.2.1,.int .i64 x.2.2.2.2.2.2.2.2.2.2.2.2.2.1,.int .i64 x.2.2.2.2.2.2.2.2.2.2.2.2.2.2]
theorem O6{w:World}{A:Nat→Prop}{x:aL}{ps:List Value}:Xe w A bg x ps=(∃(p3:Value) (r3:List Value),ps=p3::r3∧Cl w A (.sl aE) x.2.2.2.1 p3∧r3=[]):=by kernel_rfl
theorem V6{x:aL}{p3:Value}:Xf bg x [p3]=rP x p3:=by kernel_rfl
theorem O5{w:World}{A:Nat→Prop}{x:aL}{us:List Value}(h:Rw w A bg x us):∃p3,us=rP x p3∧Cl w A (.sl aE) x.2.2.2.1 p3:=by
 obtain⟨ps,hp,hh⟩:=h.to;grind[O6,V6]
theorem Ff{w:World}{A:Nat→Prop}{x:aL}{p3:Value}(h3:Cl w A (.sl aE) x.2.2.2.1 p3):Rw w A bg x (rP x p3):=by
 refine(azT (Rw w A bg x) V6).mp (Rw.of ?_);grind[O6]
abbrev L7(x:ag)(p5:Value):List Value:=[.int .i64 x.1,.int .i64 x.2.1,.int .i64 x.2.2.1,.int .i64 x.2.2.2.1,.int .i64 x.2.2.2.2.1,p5,.int .i64 x.2.2.2.2.2.2.1,.int .i64 x.2.2.2.2.2.2.2.1,.int .i64 x.2.2.2.2.2.2.2.2.1,.int .i64 x.2.2.2.2.2.2.2.2.2.1,.int .i64 x.2.2.2.2.2.2.2.2.2.2.1,.int .i64 x.2.2.2.2.2.2.2.2.2.2.2.1,.bool x.2.2.2.2.2.2.2.2.2.2.2.2]
theorem Pe{w:World}{A:Nat→Prop}{x:ag}{ps:List Value}:Xe w A aF x ps=(∃(p5:Value) (r5:List Value),ps=p5::r5∧Cl w A (.sl aE) x.2.2.2.2.2.1 p5∧r5=[]):=by kernel_rfl
theorem Wb{x:ag}{p5:Value}:Xf aF x [p5]=L7 x p5:=by kernel_rfl
theorem aeL{w:World}{A:Nat→Prop}{x:ag}{us:List Value}(h:Rw w A aF x us):∃p5,us=L7 x p5∧Cl w A (.sl aE) x.2.2.2.2.2.1 p5:=by
 obtain⟨ps,hp,hh⟩:=h.to;grind[Pe,Wb]
theorem aeM{w:World}{A:Nat→Prop}{x:ag}{p5:Value}(h5:Cl w A (.sl aE) x.2.2.2.2.2.1 p5):Rw w A aF x (L7 x p5):=by
 refine(azT (Rw w A aF x) Wb).mp (Rw.of ?_);grind[Pe]
abbrev Dh(x:bR)(MP:Value):List Value:=[.int .i64 x.1,.int .i64 x.2.1,.int .i64 x.2.2.1,.int .i64 x.2.2.2.1,.int .i64 x.2.2.2.2.1,.int .i64 x.2.2.2.2.2.1,.int .i64 x.2.2.2.2.2.2.1,.int .i64 x.2.2.2.2.2.2.2.1,.int .i64 x.2.2.2.2.2.2.2.2.1,.int .i64 x.2.2.2.2.2.2.2.2.2.1,.int .i64 x.2.2.2.2.2.2.2.2.2.2.1,.int .i64 x.2.2.2.2.2.2.2.2.2.2.2.1,.int .i64 x.2.2.2.2.2.2.2.2.2.2.2.2.1,.int .i64 x.2.2.2.2.2.2.2.2.2.2.2.2.2.1,.int .i64 x.2.2.2.2.2.2.2.2.2.2.2.2.2.2.1,.int .i64 x.2.2.2.2.2.2.2.2.2.2.2.2.2.2.2.1,.int .i64 x.2.2.2.2.2.2.2.2.2.2.2.2.2.2.2.2.1,.int .i64 x.2.2.2.2.2.2.2.2.2.2.2.2.2.2.2.2.2.1,.int .i64 x.2.2.2.2.2.2.2.2.2.2.2.2.2.2.2.2.2.2.1,.int .i64 x.2.2.2.2.2.2.2.2.2.2.2.2.2.2.2.2.2.2.2.1,MP,.int .i64 x.2.2.2.2.2.2.2.2.2.2.2.2.2.2.2.2.2.2.2.2.2.1,.int .i64 x.2.2.2.2.2.2.2.2.2.2.2.2.2.2.2.2.2.2.2.2.2.2.1,.int .i64 x.2.2.2.2.2.2.2.2.2.2.2.2.2.2.2.2.2.2.2.2.2.2.2.1,.int .i64 x.2.2.2.2.2.2.2.2.2.2.2.2.2.2.2.2.2.2.2.2.2.2.2.2.1,.int .i64 x.2.2.2.2.2.2.2.2.2.2.2.2.2.2.2.2.2.2.2.2.2.2.2.2.2.1,.int .i64 x.2.2.2.2.2.2.2.2.2.2.2.2.2.2.2.2.2.2.2.2.2.2.2.2.2.2.1,.bool x.2.2.2.2.2.2.2.2.2.2.2.2.2.2.2.2.2.2.2.2.2.2.2.2.2.2.2]
theorem O8{w:World}{A:Nat→Prop}{x:bR}{ps:List Value}:Xe w A bV x ps=(∃(MP:Value) (r20:List Value),ps=MP::r20∧Cl w A (.sl aE) x.2.2.2.2.2.2.2.2.2.2.2.2.2.2.2.2.2.2.2.2.1 MP∧r20=[]):=by kernel_rfl
theorem V7{x:bR}{MP:Value}:Xf bV x [MP]=Dh x MP:=by kernel_rfl
theorem O7{w:World}{A:Nat→Prop}{x:bR}{us:List Value}(h:Rw w A bV x us):∃MP,us=Dh x MP∧Cl w A (.sl aE) x.2.2.2.2.2.2.2.2.2.2.2.2.2.2.2.2.2.2.2.2.1 MP:=by
 obtain⟨ps,hp,hh⟩:=h.to;rw[O8]at hp;obtain⟨MP,r20,rfl,h20,rfl⟩:=hp;have hh:=hh.trans V7;exact⟨MP,hh,h20⟩
theorem Fg{w:World}{A:Nat→Prop}{x:bR}{MP:Value}(h20:Cl w A (.sl aE) x.2.2.2.2.2.2.2.2.2.2.2.2.2.2.2.2.2.2.2.2.1 MP):Rw w A bV x (Dh x MP):=by
 refine(azT (Rw w A bV x) V7).mp (Rw.of ?_);grind[O8]
abbrev Ir(x:ay)(p0 p1 p2 p3 p4 p5:Value):List Value:=[p0,p1,p2,p3,p4,p5]
theorem Iq{w:World}{A:Nat→Prop}{x:ay}{ps:List Value}:Xe w A bl x ps=(∃(p0:Value) (r0:List Value),ps=p0::r0∧Cl w A (.sl bg) x.1 p0∧∃(p1:Value) (r1:List Value),r0=p1::r1∧Cl w A (.sl bV) x.2.1 p1∧∃(p2:Value) (r2:List Value),r1=p2::r2∧Cl w A (.sl gJ) x.2.2.1 p2∧∃(p3:Value) (r3:List Value),r2=p3::r3∧Cl w A (.sl dH) x.2.2.2.1 p3∧∃(p4:Value) (r4:List Value),r3=p4::r4∧Cl w A (.sl aF) x.2.2.2.2.1 p4∧∃(p5:Value) (r5:List Value),r4=p5::r5∧Cl w A (.sl aE) x.2.2.2.2.2 p5∧r5=[]):=by kernel_rfl
theorem O4{x:ay}{p0:Value}{p1:Value}{p2:Value}{p3:Value}{p4:Value}{p5:Value}:Xf bl x [p0,p1,p2,p3,p4,p5]=Ir x p0 p1 p2 p3 p4 p5:=by kernel_rfl
theorem jt{w:World}{A:Nat→Prop}{x:ay}{us:List Value}(h:Rw w A bl x us):∃p0,∃p1,∃p2,∃p3,∃p4,∃p5,us=Ir x p0 p1 p2 p3 p4 p5∧Cl w A (.sl bg) x.1 p0∧Cl w A (.sl bV) x.2.1 p1∧Cl w A (.sl gJ) x.2.2.1 p2∧Cl w A (.sl dH) x.2.2.2.1 p3∧Cl w A (.sl aF) x.2.2.2.2.1 p4∧Cl w A (.sl aE) x.2.2.2.2.2 p5:=by
 obtain⟨ps,hp,hh⟩:=h.to;grind[Iq,p2,O4]
theorem kJ{w:World}{A:Nat→Prop}{x:ay}{p0:Value}{p1:Value}{p2:Value}{p3:Value}{p4:Value}{p5:Value}(h0:Cl w A (.sl bg) x.1 p0)(h1:Cl w A (.sl bV) x.2.1 p1)(h2:Cl w A (.sl gJ) x.2.2.1 p2)(h3:Cl w A (.sl dH) x.2.2.2.1 p3)(h4:Cl w A (.sl aF) x.2.2.2.2.1 p4)(h5:Cl w A (.sl aE) x.2.2.2.2.2 p5):Rw w A bl x (Ir x p0 p1 p2 p3 p4 p5):=by
 refine(azT (Rw w A bl x) O4).mp (Rw.of ?_);grind[Iq]
abbrev an3(x:jf)(p1 p2:Value):List Value:=[.int .i64 x.1,p1,p2]
theorem aeH{w:World}{A:Nat→Prop}{x:jf}{ps:List Value}:Xe w A Jp x ps=(∃(p1:Value) (r1:List Value),ps=p1::r1∧Cl w A (.sl [zI]) x.2.1 p1∧∃(p2:Value) (r2:List Value),r1=p2::r2∧Cl w A (.sl [zI]) x.2.2 p2∧r2=[]):=by kernel_rfl
theorem ajZ{x:jf}{p1:Value}{p2:Value}:Xf Jp x [p1,p2]=an3 x p1 p2:=by kernel_rfl
theorem aeG{w:World}{A:Nat→Prop}{x:jf}{us:List Value}(h:Rw w A Jp x us):∃p1,∃p2,us=an3 x p1 p2∧Cl w A (.sl [zI]) x.2.1 p1∧Cl w A (.sl [zI]) x.2.2 p2:=by
 obtain⟨ps,hp,hh⟩:=h.to;grind[aeH,p2,ajZ]
abbrev aeP(x:dv):List Value:=[.int .i64 x.1,.int .i64 x.2]
theorem aeO{w:World}{A:Nat→Prop}{x:dv}{ps:List Value}:Xe w A dH x ps=(ps=[]):=by kernel_rfl
theorem aj1{x:dv}:Xf dH x []=aeP x:=by kernel_rfl
theorem aeN{w:World}{A:Nat→Prop}{x:dv}:Rw w A dH x (aeP x):=by
 refine(azT (Rw w A dH x) aj1).mp (Rw.of ?_);rw[aeO]
abbrev aj0(x:tm):List Value:=[.int .i64 x.1,.int .i64 x.2.1,.int .i64 x.2.2.1,.int .i64 x.2.2.2]
theorem Pb{w:World}{A:Nat→Prop}{x:tm}{ps:List Value}:Xe w A gJ x ps=(ps=[]):=by kernel_rfl
theorem V9{x:tm}:Xf gJ x []=aj0 x:=by kernel_rfl
theorem Fh{w:World}{A:Nat→Prop}{x:tm}{us:List Value}(h:Rw w A gJ x us):us=aj0 x:=by
 obtain⟨ps,hp,hh⟩:=h.to;grind[Pb,V9]
theorem aeK{w:World}{A:Nat→Prop}{x:tm}:Rw w A gJ x (aj0 x):=by
 refine(azT (Rw w A gJ x) V9).mp (Rw.of ?_);rw[Pb]
abbrev aeJ(x:cC)(p2 p3 p4 p5 p6 p7 p8 p9 H8 JQ JP JO JN JM JL JK:Value):List Value:=[.int .i64 x.1,.int .i64 x.2.1,p2,p3,p4,p5,p6,p7,p8,p9,.bool x.2.2.2.2.2.2.2.2.2.2.1,.int .i64 x.2.2.2.2.2.2.2.2.2.2.2.1,H8,JQ,JP,JO,JN,JM,JL,JK]
theorem Pa{w:World}{A:Nat→Prop}{x:cC}{ps:List Value}:Xe w A eG x ps=(∃(p2:Value) (r2:List Value),ps=p2::r2∧Cl w A (.sl [zI]) x.2.2.1 p2∧∃(p3:Value) (r3:List Value),r2=p3::r3∧Cl w A (.sl [zI]) x.2.2.2.1 p3∧∃(p4:Value) (r4:List Value),r3=p4::r4∧Cl w A (.sl bg) x.2.2.2.2.1 p4∧∃(p5:Value) (r5:List Value),r4=p5::r5∧Cl w A (.sl bV) x.2.2.2.2.2.1 p5∧∃(p6:Value) (r6:List Value),r5=p6::r6∧Cl w A (.sl gJ) x.2.2.2.2.2.2.1 p6∧∃(p7:Value) (r7:List Value),r6=p7::r7∧Cl w A (.sl dH) x.2.2.2.2.2.2.2.1 p7∧∃(p8:Value) (r8:List Value),r7=p8::r8∧Cl w A (.sl aF) x.2.2.2.2.2.2.2.2.1 p8∧∃(p9:Value) (r9:List Value),r8=p9::r9∧Cl w A (.sl aE) x.2.2.2.2.2.2.2.2.2.1 p9∧∃(H8:Value) (r12:List Value),r9=H8::r12∧Cl w A (.sl [zI]) x.2.2.2.2.2.2.2.2.2.2.2.2.1 H8∧∃(JQ:Value) (r13:List Value),r12=JQ::r13∧Cl w A (.sl [zI]) x.2.2.2.2.2.2.2.2.2.2.2.2.2.1 JQ∧∃(JP:Value) (r14:List Value),r13=JP::r14∧Cl w A (.sl bg) x.2.2.2.2.2.2.2.2.2.2.2.2.2.2.1 JP∧∃(JO:Value) (r15:List Value),r14=JO::r15∧Cl w A (.sl bV) x.2.2.2.2.2.2.2.2.2.2.2.2.2.2.2.1 JO∧∃(JN:Value) (r16:List Value),r15=JN::r16∧Cl w A (.sl gJ) x.2.2.2.2.2.2.2.2.2.2.2.2.2.2.2.2.1 JN∧∃(JM:Value) (r17:List Value),r16=JM::r17∧Cl w A (.sl dH) x.2.2.2.2.2.2.2.2.2.2.2.2.2.2.2.2.2.1 JM∧∃(JL:Value) (r18:List Value),r17=JL::r18∧Cl w A (.sl aF) x.2.2.2.2.2.2.2.2.2.2.2.2.2.2.2.2.2.2.1 JL∧∃(JK:Value) (r19:List Value),r18=JK::r19∧Cl w A (.sl aE) x.2.2.2.2.2.2.2.2.2.2.2.2.2.2.2.2.2.2.2 JK∧r19=[]):=by kernel_rfl
theorem V8{x:cC}{p2:Value}{p3:Value}{p4:Value}{p5:Value}{p6:Value}{p7:Value}{p8:Value}{p9:Value}{H8:Value}{JQ:Value}{JP:Value}{JO:Value}{JN:Value}{JM:Value}{JL:Value}{JK:Value}:Xf eG x [p2,p3,p4,p5,p6,p7,p8,p9,H8,JQ,JP,JO,JN,JM,JL,JK]=aeJ x p2 p3 p4 p5 p6 p7 p8 p9 H8 JQ JP JO JN JM JL JK:=by kernel_rfl
theorem O9{w:World}{A:Nat→Prop}{x:cC}{us:List Value}(h:Rw w A eG x us):∃p2,∃p3,∃p4,∃p5,∃p6,∃p7,∃p8,∃p9,∃H8,∃JQ,∃JP,∃JO,∃JN,∃JM,∃JL,∃JK,us=aeJ x p2 p3 p4 p5 p6 p7 p8 p9 H8 JQ JP JO JN JM JL JK∧Cl w A (.sl [zI]) x.2.2.1 p2∧Cl w A (.sl [zI]) x.2.2.2.1 p3∧Cl w A (.sl bg) x.2.2.2.2.1 p4∧Cl w A (.sl bV) x.2.2.2.2.2.1 p5∧Cl w A (.sl gJ) x.2.2.2.2.2.2.1 p6∧Cl w A (.sl dH) x.2.2.2.2.2.2.2.1 p7∧Cl w A (.sl aF) x.2.2.2.2.2.2.2.2.1 p8∧Cl w A (.sl aE) x.2.2.2.2.2.2.2.2.2.1 p9∧Cl w A (.sl [zI]) x.2.2.2.2.2.2.2.2.2.2.2.2.1 H8∧Cl w A (.sl [zI]) x.2.2.2.2.2.2.2.2.2.2.2.2.2.1 JQ∧Cl w A (.sl bg) x.2.2.2.2.2.2.2.2.2.2.2.2.2.2.1 JP∧Cl w A (.sl bV) x.2.2.2.2.2.2.2.2.2.2.2.2.2.2.2.1 JO∧Cl w A (.sl gJ) x.2.2.2.2.2.2.2.2.2.2.2.2.2.2.2.2.1 JN∧Cl w A (.sl dH) x.2.2.2.2.2.2.2.2.2.2.2.2.2.2.2.2.2.1 JM∧Cl w A (.sl aF) x.2.2.2.2.2.2.2.2.2.2.2.2.2.2.2.2.2.2.1 JL∧Cl w A (.sl aE) x.2.2.2.2.2.2.2.2.2.2.2.2.2.2.2.2.2.2.2 JK:=by
 obtain⟨ps,hp,hh⟩:=h.to;rw[Pa]at hp;obtain⟨p2,r2,rfl,h2,p3,r3,rfl,h3,p4,r4,rfl,h4,p5,r5,rfl,h5,p6,r6,rfl,h6,p7,r7,rfl,h7,p8,r8,rfl,h8,p9,r9,rfl,h9,H8,r12,rfl,h12,JQ,r13,rfl,h13,JP,r14,rfl,h14,JO,r15,rfl,h15,JN,r16,rfl,h16,JM,r17,rfl,h17,JL,r18,rfl,h18,JK,r19,rfl,h19,rfl⟩:=hp;have hh:=hh.trans V8;grind[p2]
theorem aeI{w:World}{A:Nat→Prop}{x:cC}{p2:Value}{p3:Value}{p4:Value}{p5:Value}{p6:Value}{p7:Value}{p8:Value}{p9:Value}{H8:Value}{JQ:Value}{JP:Value}{JO:Value}{JN:Value}{JM:Value}{JL:Value}{JK:Value}(h2:Cl w A (.sl [zI]) x.2.2.1 p2)(h3:Cl w A (.sl [zI]) x.2.2.2.1 p3)(h4:Cl w A (.sl bg) x.2.2.2.2.1 p4)(h5:Cl w A (.sl bV) x.2.2.2.2.2.1 p5)(h6:Cl w A (.sl gJ) x.2.2.2.2.2.2.1 p6)(h7:Cl w A (.sl dH) x.2.2.2.2.2.2.2.1 p7)(h8:Cl w A (.sl aF) x.2.2.2.2.2.2.2.2.1 p8)(h9:Cl w A (.sl aE) x.2.2.2.2.2.2.2.2.2.1 p9)(h12:Cl w A (.sl [zI]) x.2.2.2.2.2.2.2.2.2.2.2.2.1 H8)(h13:Cl w A (.sl [zI]) x.2.2.2.2.2.2.2.2.2.2.2.2.2.1 JQ)(h14:Cl w A (.sl bg) x.2.2.2.2.2.2.2.2.2.2.2.2.2.2.1 JP)(h15:Cl w A (.sl bV) x.2.2.2.2.2.2.2.2.2.2.2.2.2.2.2.1 JO)(h16:Cl w A (.sl gJ) x.2.2.2.2.2.2.2.2.2.2.2.2.2.2.2.2.1 JN)(h17:Cl w A (.sl dH) x.2.2.2.2.2.2.2.2.2.2.2.2.2.2.2.2.2.1 JM)(h18:Cl w A (.sl aF) x.2.2.2.2.2.2.2.2.2.2.2.2.2.2.2.2.2.2.1 JL)(h19:Cl w A (.sl aE) x.2.2.2.2.2.2.2.2.2.2.2.2.2.2.2.2.2.2.2 JK):Rw w A eG x (aeJ x p2 p3 p4 p5 p6 p7 p8 p9 H8 JQ JP JO JN JM JL JK):=by
 refine(azT (Rw w A eG x) V8).mp (Rw.of ?_);rw[Pa];exact⟨_,_,rfl,h2,_,_,rfl,h3,_,_,rfl,h4,_,_,rfl,h5,_,_,rfl,h6,_,_,rfl,h7,_,_,rfl,h8,_,_,rfl,h9,_,_,rfl,h12,_,_,rfl,h13,_,_,rfl,h14,_,_,rfl,h15,_,_,rfl,h16,_,_,rfl,h17,_,_,rfl,h18,_,_,rfl,h19,rfl⟩
open Go.Proofs Go.RowKit
attribute [local go_sem] Oper.semAt_some
theorem Hw.bf{p:Prop}(h:p):Hid p:=h
theorem Cl.form{w:World}{A:Nat→Prop}{τ:List Ty}{xs:List (aA τ)}{u:Value}(h:Cl w A (.sl τ) xs u):∃a n c,u=.slice a n c:=by
 obtain⟨a,c,e⟩:=(cH.1 h).form;exact⟨a,_,c,e⟩
theorem Cl.low{w w':World}{A:Nat→Prop}{t:Ty}{x:t.T}{u:Value}(h:Cl w A t x u)(hb:Below w.heap.size w w'):Cl w' A t x u:=h.fr (fun b gW _=>hb.block b gW) hb.size (fun _ _ h=>h)
theorem Hw.ahT{w:World}{A:Nat→Prop}{n0:Nat}{b:Bool}{us:List Value}(h:Rss w A n0 [.v .bool] b us):jE us=.bool b:=by
 obtain⟨u,rfl,hu⟩:=(show ∃u,us=[u]∧Cl w A .bool b u from h);exact Gm hu
theorem Zh.emp{w:World}{A:Nat→Prop}{s:aL}{p:Value}(h:Cl w A (.sl aE) s.2.2.2.1 p):Calls Tryz.prog 89 #[.agg (rP s p).toArray] w fun en w'=>en=.returned (.bool (cB s))∧Below w.heap.size w w':=by
 have h0:Cl w (fun _=>False) (.sl aE) s.2.2.2.1 p:=h.fr (cz.refl _ _) (azJ _) (fun _ _ h=>h.elim);refine(Hw.call wh (s:aL) rfl (A:=fun _=>False) (fun b h=>h.elim) (us:=#[.agg (rP s p).toArray]) (yE.one (Ag.g (Ff h0)))).mono fun en w' hh=>?_
 obtain⟨us,A',rfl,hr,_,_,hB⟩:=hh;exact⟨azT Ending.returned (Hw.ahT hr),hB⟩
theorem Zh.an9{P:Program}{w:World}{ops:Array Oper}{rest:List Oper}{o:Oper}{a:Act}{Q:Exit→Act→World→Prop}(Km:o.guard=none)(m k x:Operand)(t:TypeId)
  (ho:o.op=.mapUpdate t m k x) {u y z:Value} (hm:a.eval m=u) (hk:a.eval k=y) (hx:a.eval x=z) {R:World→Prop} (hr:∃w',(Instr.mapUpdate t u y z).run P w=.ok () w'∧R w') (h:∀w',R w'→wpList P ops Q rest (a.put o.dst (.tuple #[])) w'):wpList P ops Q (o::rest) a w:=by
 refine wpList_plain Km fun _ hK=>?_
 obtain⟨w',h1,h2⟩:=hr;unfold Oper.wp execOp;simp only[ho,hm,hk,hx,Sem.run_bind,h1,Result.andThen_ok];exact hK _ _ (h w' h2)
theorem Zh.ast{P:Program}{w:World}{ops:Array Oper}{rest:List Oper}{o:Oper}{a:Act}{Q:Exit→Act→World→Prop}(Km:o.guard=none)(t:TypeId)
  (ho:o.op=.makeMap t none) {u:Value} {w':World} (hr:(Instr.makeMap t none).run P w=.ok u w') (h:wpList P ops Q rest (a.put o.dst u) w'):wpList P ops Q (o::rest) a w:=by
 refine wpList_plain Km fun _ hK=>?_
 unfold Oper.wp execOp;simp only[ho,Sem.run_bind,aBg,hr,Result.andThen_ok];exact hK _ _ h
structure Zh.ye (w wr:World) (o:List aj):Prop where
 NT:Below w.heap.size w wr
 m:Yh.M wr w.heap.size o
 lt:w.heap.size<wr.heap.size
set_option maxRecDepth 100000 in
set_option maxHeartbeats 4000000 in
theorem Zh.calls(w:World){A:Nat→Prop}(bM:List ay)(u:Value)(hu:Sl w A (fun _=>False) bl bM u)(hl:bM.length≤1000000)(hs:∀s∈bM,s.1.length≤1000000):
  Calls Tryz.prog 56 #[u] w fun en w'=>en=.returned (.map (some w.heap.size))∧Yh.M w' w.heap.size (jK bM)∧Below w.heap.size w w':=by
 have agk:=Tryz.underlying61;have alJ:=Tryz.underlying31;have apB:=Tryz.underlying38;have apA:=Tryz.underlying64;have apz:=Tryz.underlying111;obtain⟨ua,uc,rfl⟩:=(show ∃a c,u=.slice a (bM.length:Nat) c from hu.form);go_enter Tryz.func56,Tryz.ntmps56
 go_wp2_with (refine Zh.ast rfl 111 rfl (Yh.mk _).1 ?_)
 go_loopw [11] (fun i wr=>∃k:Nat,k≤bM.length∧i=.int .i64 (k:Int)∧Zh.ye w wr (jK (bM.take k))) (fun i _=>bM.length-(intOf i).toNat)
 case atStart=>exact⟨0,aAu _,rfl,⟨(Below.refl _ _).alloc (azJ _) _,(Yh.mk w).2,by simp⟩⟩
 case round=>
  obtain⟨k,hk,rfl,hM⟩:=hrel;by_cases bO:k<bM.length
  ·have h1:(k:Int)<(bM.length:Int):=by omega
   have Ko:decide (k<bM.length)=true:=azC bO;have Kl:(0:Int)≤(k:Int):=by omega
   obtain⟨s,hsk⟩:∃s,bM[k]? = some s:=⟨_,azS bO⟩;have HT:=Hw.bf (show bM.take (k+1)=bM.take k++[s]by rw[aAz,hsk];rfl);have Nh:=hs s (azO hsk);obtain⟨b,off,c,us,he,hb,_,hr,_,su⟩:=hu.get hsk;have hc:∀(j:Nat) (v:Value),us[j]? = some v→wr.cell? ⟨b,off+k*6+j,none⟩=some v:=fun j v hv=>(hM.NT.cell (p:=⟨b,off+k*6+j,none⟩) hb).trans (su j v hv)
   clear su;obtain⟨rfl,-,rfl⟩:=Value.slice.inj he;obtain⟨p0,p1,p2,p3,p4,p5,rfl,q0,q1,q2,q3,q4,q5⟩:=jt hr;have q0:=cH.1 q0;obtain⟨sa,sc,rfl⟩:=(show ∃a c,p0=.slice a (s.1.length:Nat) c from q0.form);obtain⟨a1,n1,c1,rfl⟩:=q1.form;obtain⟨a2,n2,c2,rfl⟩:=q2.form;obtain⟨a3,n3,c3,rfl⟩:=q3.form;obtain⟨a4,n4,c4,rfl⟩:=q4.form;obtain⟨a5,n5,c5,rfl⟩:=q5.form;clear q1 q2 q3 q4 q5;have r0:wr.cell? ⟨b,off+k*6,none⟩=some _:=hc 0 _ rfl;have r1:wr.cell? ⟨b,off+k*6+1,none⟩=some _:=hc 1 _ rfl;have r2:wr.cell? ⟨b,off+k*6+2,none⟩=some _:=hc 2 _ rfl;have r3:wr.cell? ⟨b,off+k*6+3,none⟩=some _:=hc 3 _ rfl;have r4:wr.cell? ⟨b,off+k*6+4,none⟩=some _:=hc 4 _ rfl;have r5:wr.cell? ⟨b,off+k*6+5,none⟩=some _:=hc 5 _ rfl;clear hc hs he hsk;go_wp2;have hM1:Zh.ye w (wr.alloc (.cells #[Value.slice sa s.1.length sc,.slice a1 n1 c1,.slice a2 n2 c2,.slice a3 n3 c3,.slice a4 n4 c4,.slice a5 n5 c5] 38)) (jK (bM.take k)):=
    ⟨hM.NT.alloc (by have:=hM.NT.size;exact this) _,hM.m.frame (Below.heap_alloc _ _ _ hM.lt),by simp;have:=hM.lt;omega⟩
   clear hM r0 r1 r2 r3 r4 r5 hr
   go_loopw [18] (fun i wr=>∃j:Nat,j≤s.1.length∧i=.int .i64 (j:Int)∧Zh.ye w wr (uN (jK (bM.take k)) (s.1.take j))) (fun i _=>s.1.length-(intOf i).toNat)
   case atStart=>exact⟨0,aAu _,rfl,hM1⟩
   case round=>
    obtain⟨j,hj,rfl,hN⟩:=hrel;clear hM1;by_cases hlj:j<s.1.length
    ·have h2:(j:Int)<(s.1.length:Int):=by omega
     have Zv:decide (j<s.1.length)=true:=azC hlj;have hj0:(0:Int)≤(j:Int):=by omega
     obtain⟨e,hej⟩:∃e,s.1[j]? = some e:=⟨_,azS hlj⟩;have HE:=Hw.bf (show s.1.take (j+1)=s.1.take j++[e]by rw[aAz,hej];rfl);obtain⟨b2,lj,cc2,Dm,he2,nC,_,F5,_,su⟩:=q0.get hej;have hc:∀(i:Nat) (v:Value),Dm[i]? = some v→wr.cell? ⟨b2,lj+j*15+i,none⟩=some v:=fun i v hv=>(hN.NT.cell (p:=⟨b2,lj+j*15+i,none⟩) nC).trans (su i v hv)
     clear su;obtain⟨rfl,-,rfl⟩:=Value.slice.inj he2;obtain⟨p,rfl,qp⟩:=O5 F5;obtain⟨pa,pn,pc,rfl⟩:=qp.form;have r0:wr.cell? ⟨b2,lj+j*15,none⟩=some _:=hc 0 _ rfl;have r1:wr.cell? ⟨b2,lj+j*15+1,none⟩=some _:=hc 1 _ rfl;have r2:wr.cell? ⟨b2,lj+j*15+2,none⟩=some _:=hc 2 _ rfl;have r3:wr.cell? ⟨b2,lj+j*15+3,none⟩=some _:=hc 3 _ rfl;have r4:wr.cell? ⟨b2,lj+j*15+4,none⟩=some _:=hc 4 _ rfl;have r5:wr.cell? ⟨b2,lj+j*15+5,none⟩=some _:=hc 5 _ rfl;have r6:wr.cell? ⟨b2,lj+j*15+6,none⟩=some _:=hc 6 _ rfl;have r7:wr.cell? ⟨b2,lj+j*15+7,none⟩=some _:=hc 7 _ rfl;have r8:wr.cell? ⟨b2,lj+j*15+8,none⟩=some _:=hc 8 _ rfl;have r9:wr.cell? ⟨b2,lj+j*15+9,none⟩=some _:=hc 9 _ rfl;have r10:wr.cell? ⟨b2,lj+j*15+10,none⟩=some _:=hc 10 _ rfl;have r11:wr.cell? ⟨b2,lj+j*15+11,none⟩=some _:=hc 11 _ rfl;have r12:wr.cell? ⟨b2,lj+j*15+12,none⟩=some _:=hc 12 _ rfl;have r13:wr.cell? ⟨b2,lj+j*15+13,none⟩=some _:=hc 13 _ rfl;have r14:wr.cell? ⟨b2,lj+j*15+14,none⟩=some _:=hc 14 _ rfl;clear hc he2 hej F5;have Nt:=HB.new wr 64 (rP e (.slice pa pn pc)).toArray;have lA:Below wr.heap.size wr (wr.alloc (.cells (rP e (.slice pa pn pc)).toArray 64)):=(Below.refl _ wr).alloc (azJ _) _;cases Nr:cB e with
     | true=>
      have HL:=Hw.bf (show uN (jK (bM.take k)) (s.1.take j++[e])=uN (jK (bM.take k)) (s.1.take j)by
       unfold uN;rw[aBU];simp[Nr])
      have HM:=Hw.bf (show ∀w3,Below (wr.alloc (.cells (rP e (.slice pa pn pc)).toArray 64)).heap.size (wr.alloc (.cells (rP e (.slice pa pn pc)).toArray 64)) w3→Zh.ye w w3 (uN (jK (bM.take k)) (s.1.take (j+1)))from fun w3 rh=>by
       rw[HE.out,HL.out];exact⟨(hN.NT.trans (lA.mono hN.NT.size)).trans (rh.mono (by have:=hN.NT.size;simp;omega)),(hN.m.frame (Below.heap_alloc _ _ _ hN.lt)).frame (rh.block _ (by have:=hN.lt;simp;omega)),by have:=rh.size;have:=hN.lt;simp at *;omega⟩)
      have qq:=qp.low (hN.NT.trans (lA.mono hN.NT.size));clear hN HL HE Nt lA q0 hu
      go_wp2_with (go_at_call 89;refine(Zh.emp (s:=e) qq).mono ?_;rintro en w3 ⟨rfl,rh⟩;rw[Nr])
      go_roundw
      case rel=>exact⟨j+1,by omega,by go_num,HM.out _ rh⟩
      case measure=>simp[intOf];omega
     | false=>
      have HL:=Hw.bf (show uN (jK (bM.take k)) (s.1.take j++[e])=Yh.add (uN (jK (bM.take k)) (s.1.take j)) (xH e)by
       unfold uN;rw[aBU];simp[Nr])
      have HM:=Hw.bf (show ∀w3,Below (wr.alloc (.cells (rP e (.slice pa pn pc)).toArray 64)).heap.size (wr.alloc (.cells (rP e (.slice pa pn pc)).toArray 64)) w3→
        ∃w4,(Instr.mapUpdate 111 (.map (some w.heap.size)) (.agg #[.int .i64 e.1,.int .i64 e.2.1,.int .i64 e.2.2.1]) (.bool true)).run Tryz.prog w3=.ok () w4∧Zh.ye w w4 (uN (jK (bM.take k)) (s.1.take (j+1)))from fun w3 rh=>by
       rw[HE.out,HL.out];have hm3:=(hN.m.frame (Below.heap_alloc _ _ _ hN.lt)).frame (rh.block _ (by have:=hN.lt;simp;omega));obtain⟨w4,g1,g2,o,rfl⟩:=Yh.H3 hm3 (xH e);have dO:w.heap.size<w3.heap.size:=by have:=rh.size;have:=hN.lt;simp at *;omega
       refine⟨_,g1,⟨((hN.NT.trans (lA.mono hN.NT.size)).trans (rh.mono (by have:=hN.NT.size;simp;omega))).trans ⟨rfl,rfl,rfl,by simp,fun q hq=>?_⟩,g2,by simpa using dO⟩⟩;show(w3.heap.setIfInBounds w.heap.size o)[q]? = _;rw[aAj,azD (by omega)])
      have qq:=qp.low (hN.NT.trans (lA.mono hN.NT.size));clear hN HL HE lA q0 hu
      go_wp2_with (first
       | (go_at_call 89;refine(Zh.emp (s:=e) qq).mono ?_;rintro en w3 ⟨rfl,rh⟩;rw[Nr];have hU:=HM.out _ rh;have hb3:=Nt.below rh Nt.lt;have c0:=hb3.cell 0;have c1:=hb3.cell 1;have c2:=hb3.cell 2;clear hb3)
       | (refine Zh.an9 rfl (.tmp 25) (.tmp 28) (.const (.bool true)) 111 rfl rfl rfl rfl hU ?_;rintro w4 hM4))
      go_roundw
      case rel=>exact⟨j+1,by omega,by go_num,hM4⟩
      case measure=>simp[intOf];omega
    ·obtain rfl:j=s.1.length:=by omega
     have h2:¬ (s.1.length:Int)<(s.1.length:Int):=by omega
     have HM:=Hw.bf (show Zh.ye w wr (jK (bM.take (k+1)))by
      rw[HT.out];have:=hN;rw[aBi]at this;unfold jK at *;rw[aBU];exact this)
     clear hN HT;go_wp2
     go_roundw
     case rel=>exact⟨k+1,by omega,by go_num,HM.out⟩
     case measure=>simp[intOf];omega
  ·obtain rfl:k=bM.length:=by omega
   have h1:¬ (bM.length:Int)<(bM.length:Int):=by omega
   have HM:=Hw.bf (show Zh.ye w wr (jK bM)by have:=hM;rwa [aBi]at this);clear hM;go_wp2;go_ret;exact⟨rfl,HM.out.m,HM.out.NT⟩
end Go.AL
namespace Go.AL
open Go.RowKit
def By{α:Type}:List (Nat×α)→Nat→Option α
 | [],_=>none
 | (i,x)::r,j=>bif Nat.beq j i then some x else By r j
def xsA(l:List (Nat×X)):br:=⟨fun i=>match By l i with
 | some x=>x
 | none=>.dead,fun _=>none,0⟩
def stA(l:List (Nat×V)):St:=⟨fun i=>match By l i with
 | some x=>x
 | none=>.dead,fB⟩
theorem J7{α:Type}:∀{l:List (Nat×α)} {i:Nat} {x:α},By l i=some x→(i,x)∈l
 | (j,y)::r,i,x,h=>by
  simp only[By]at h;cases hb:Nat.beq i j with
  | true=>
   simp_all
  | false=>
   rw[hb]at h;exact az6 _ (J7 h)
def XA(x:X)(v:V):Prop:=XV ⟨0,fun _=>none,fB⟩ x v
theorem asE:∀{lx:List (Nat×X)} {lv:List (Nat×V)},aJ (fun p q=>p.1=q.1∧XA p.2 q.2) lx lv→RS (xsA lx) (stA lv):=by
 intro lx lv h;refine⟨fun i=>?_,fun o bn ho=>by cases ho⟩;show XA (match By lx i with | some x=>x | none=>.dead) (match By lv i with | some x=>x | none=>.dead);induction lx generalizing lv with
 | nil=>
  grind[By,XA,XV]
 | cons p lx ih=>
  match lv,h with
  | q::lv,h=>
   obtain⟨j,x⟩:=p;obtain⟨j',v⟩:=q;obtain⟨⟨h1,h2⟩,h3⟩:=h;have h1:j=j':=h1;subst h1;simp only[By];cases Nat.beq i j with
   | true=>exact h2
   | false=>exact ih h3
theorem asF{w:World}{A:Nat→Prop}{n:Nat}{a:Act}(hd:a.defers=[])(hn:a.tmps.size=n)(hA:∀b,A b→b<w.heap.size){lv:List (Nat×V)}(h:∀p∈lv,Rel ⟨w,A,fB,iE⟩ p.2 ((a.tmps[p.1]?).getD undef)):RR w zl A n (stA lv) a w:=by
 refine⟨iE,A,hd,hn,fun i=>?_,⟨fun o ob ho=>by simp[stA,fB]at ho,fun o o' ob ob' b ho=>by simp[stA,fB]at ho,hA⟩,fun b _ h=>h,⟨rfl,rfl,rfl,azJ _,fun _ _ _=>rfl⟩,fun o ob b ho=>by simp[stA,fB]at ho,fun o hq=>hq.elim,fun o ob hq=>hq.elim⟩;rw[show zl.sv=fun _=>undef from rfl,kS];show Rel ⟨w,A,fB,iE⟩ (match By lv i with | some x=>x | none=>.dead) _;cases hl:By lv i with
 | none=>trivial
 | some v=>
  have:=h (i,v) (J7 hl);rw[aAw];exact this
theorem agO{β:Type}{C:cX}{r:β}{Kr:br→Option β}(hm:C.P.follows .mixedOrders=true)(bI:∀e∈C.es,e.Ok C.P)(sq:C.el=[])(hfz:C.fz=[])(iH:C.inl=[]){k:List XI}{lx:List (Nat×X)}{lv:List (Nat×V)}
  (R:aJ (fun p q=>p.1=q.1∧XA p.2 q.2) lx lv) (aO:jF C.pm k) (so:C8 k) {f:Nat} (hx:exec C Kr (fun _ _=>none) f k (xsA lx)=some r) {w0:World} {A:Nat→Prop} {a:Act} (hR:RR w0 zl A C.n (stA lv) a w0) {Rt:Act→World→Prop}
  (Dy:∀xs s,RS xs s→Kr xs=some r→∀a w,RR w0 zl A C.n s a w→Rt a w):KW C.P Rt k .normal a w0:=
 (xr so).1 (dw (.inl fun _ h=>h) (.inl iH) hm bI (by grind) (by grind) Dy (fun k xs s _ _ _ h=>by cases h) f k (xsA lx) (stA lv) (asE R) aO (by cases k<;>first | trivial | (rename_i i k;cases i<;>first | exact so | exact so.elim)) hx) a w0 hR
theorem alw{P:Program}{Rt:Act→World→Prop}{e:Exit}{a:Act}{w:World}(h:KW P Rt [] e a w):(e=.normal∨e=.ret)∧Rt a w:=by
 grind[gx,KW]
theorem ZL{P:Program}{Rt:Act→World→Prop}{c1 c2:Code}{a:Act}{w:World}(h:KW P Rt [.code c1,.code c2] .normal a w){K:Act→World→Prop}{Q Q':Exit→Act→World→Prop}(hK:∀a w,(c2.seq .ret).wp P Q a w→K a w)
  (hQ:∀a w,Rt a w→Q .ret a w) (hQ':∀a w,Rt a w→Q' .ret a w):c1.wp P (Exit.then K Q') a w:=by
 have h:c1.wp P (KW P Rt [.code c2]) a w:=h;refine wp_mono h fun e a' w' h2=>?_
 rcases gx h2 with rfl | rfl | ⟨id,rfl⟩
 ·refine hK _ _ (wp_seq ?_)
  have h2:c2.wp P (KW P Rt []) a' w':=h2;refine wp_mono h2 fun e a2 w2 h3=>?_
  obtain⟨h4,h5⟩:=alw h3;rcases h4 with rfl | rfl
  ·exact wp_ret (hQ _ _ h5)
  ·exact hQ _ _ h5
 ·exact hQ' _ _ h2
 grind[KW]
theorem auO{w:World}{A:Nat→Prop}{B:Nat}{t:TypeId}{us:Array Value}(h:HB w B t us){τ:List Ty}{x:aA τ}(hr:Rw w A τ x us.toList):∃row,bW τ x row∧Rel ⟨w,A,fB,iE⟩ (.cp row 0) (.pointer (some ⟨B,0,none⟩))∧XA (.cp (iF τ x) 0) (.cp row 0):=by
 obtain⟨row,h1,h2⟩:=DQ hr;refine⟨row,h1,?_,?_⟩
 ·refine⟨B,0,fun k=>(us[k]?).getD undef,rfl,h.lt,(fun hm=>by obtain⟨o,ob,h3,_⟩:=hm;cases h3),fun k x hx=>?_,fun k x hx=>?_⟩
  ·obtain⟨u,e1,_⟩:=h2.get k x hx
   rw[aAG]at e1;show w.cell? ⟨B,0+k,none⟩=some ((us[k]?).getD undef);rw[h.cell,az8,e1];rfl
  ·obtain⟨u,e1,e2⟩:=h2.get k x hx
   grind
 grind[XA,XV,eo]
theorem aoZ{w:World}{A:Nat→Prop}{τ:List Ty}{xs:List (aA τ)}{u:Value}(h:Sl w A (fun _=>False) τ xs u):∃rows,Rel ⟨w,A,fB,iE⟩ (.rd rows) u∧XA (.rd τ xs) (.rd rows):=by
 obtain⟨v,⟨rows,rfl,h1⟩,h2⟩:=Ag.rd h;grind[XA,XV]
theorem aia{w:World}{A:Nat→Prop}{k:IntKind}{n:Int}:Rel ⟨w,A,fB,iE⟩ (.int k n) (.int k n)∧XA (.int k n) (.int k n):=⟨.int _ _,by simp only[XA,XV]⟩
theorem W9{w0 w:World}{A:Nat→Prop}{n:Nat}{xs:br}{s:St}{a:Act}(R:RS xs s)(hR:RR w0 zl A n s a w){i:Nat}{k:IntKind}{x:Int}(h:xs.t i=.int k x):(a.tmps[i]?).getD undef=.int k x:=by
 obtain⟨β,A',hB⟩:=hR;have h1:=R.t i;rw[h]at h1;simp only[XV]at h1;have h2:=hB.au i;rw[h1,show zl.sv=fun _=>undef from rfl,kS,aAw]at h2;generalize (a.tmps[i]?).getD undef=q at *;cases h2;rfl
theorem SP{w0 w:World}{A:Nat→Prop}{n:Nat}{xs:br}{s:St}{a:Act}(R:RS xs s)(hR:RR w0 zl A n s a w){i:Nat}{x:Bool}(h:xs.t i=.bool x):(a.tmps[i]?).getD undef=.bool x:=by
 obtain⟨β,A',hB⟩:=hR;have h1:=R.t i;rw[h]at h1;simp only[XV]at h1;have h2:=hB.au i;rw[h1,show zl.sv=fun _=>undef from rfl,kS,aAw]at h2;generalize (a.tmps[i]?).getD undef=q at *;cases h2;rfl
theorem alq{w0 w:World}{A:Nat→Prop}{n:Nat}{s:St}{a:Act}(hR:RR w0 zl A n s a w):Below w0.heap.size w0 w∧a.defers=[]∧a.tmps.size=n:=by
 obtain⟨β,A',hB⟩:=hR;exact⟨Ev.low hB.ev (fun _ h=>h),hB.defers,hB.size⟩
open Go.Proofs Go.RowKit
attribute [local go_sem] Oper.semAt_some
def gl:Nat→Prop:=fun _=>False
theorem Cl.none{w:World}{A:Nat→Prop}{t:Ty}{x:t.T}{u:Value}(h:Cl w A t x u):Cl w gl t x u:=h.fr (cz.refl _ _) (azJ _) (fun _ _ h=>h.elim)
theorem Zh.asD{w:World}{l:List aj}{u:Value}(h:Sl w gl gl aE l u)(hl:l.length≤1000000)(x:aj):Calls Tryz.prog 126 #[u,.agg (kz x).toArray] w fun en w'=>en=.returned (.bool (cJ x l))∧Below w.heap.size w w':=by
 refine(Hw.call Vw ((l,x):List aj×aj) (azC (show l.length≤1099511627776 by omega)) (A:=gl) (fun b h=>h.elim) (us:=#[u,.agg (kz x).toArray]) (yE.two (Ag.rd h) (Ag.g iQ))).mono fun en w' hh=>?_
 obtain⟨us,A',rfl,hr,_,_,hB⟩:=hh;exact⟨azT Ending.returned (Hw.ahT hr),hB⟩
theorem Zh.aob{P:Program}{w:World}{ops:Array Oper}{rest:List Oper}{o:Oper}{a:Act}{Q:Exit→Act→World→Prop}(Km:o.guard=none)(m k:Operand)(t:TypeId)
  (ho:o.op=.lookup t m k false) {u y z:Value} (hm:a.eval m=u) (hk:a.eval k=y) (hr:(Instr.lookup t u y false).run P w=.ok z w) (h:wpList P ops Q rest (a.put o.dst z) w):wpList P ops Q (o::rest) a w:=by
 refine wpList_plain Km fun _ hK=>?_
 unfold Oper.wp execOp;simp only[ho,hm,hk,Sem.run_bind,hr,Result.andThen_ok];exact hK _ _ h
noncomputable def arv:cX:=zC [E6,OQ] (dE [(8,([(0,[]),(1,[]),(2,[]),(3,[]),(4,[]),(5,[]),(6,[]),(7,[]),(8,[]),(9,[]),(10,[]),(11,[]),(12,[]),(13,[]),(14,[]),(15,[]),(16,[]),(17,[]),(18,[]),(19,[]),(20,[]),(21,[]),(22,[]),(23,[]),(24,[]),(25,[]),(26,[]),(27,[]),(28,[])],[(13,13),(37,64)]))]) 74
theorem amC:jh Tryz.prog [E6,OQ] [] []:=ah wh (ah VI (aC))
def YO(s:br):Option (Int×Bool):=match s.t 10,s.t 11 with
 | .int .i64 n,.bool b=>some (n,b)
 | _,_=>none
def Zh.Rt(w0:World)(x:Int×Bool)(a:Act)(w:World):Prop:=(a.tmps[10]?).getD undef=.int .i64 x.1∧(a.tmps[11]?).getD undef=.bool x.2∧Below w0.heap.size w0 w∧a.defers=[]∧a.tmps.size=74
theorem qT{o:Option Value}{v:Value}(h:o.getD undef=v)(hv:v ≠ undef):o=some v:=by
 cases o with
 | none=>grind
 | some u=>exact azT some h
theorem Zh.res{W:World}{n:Int}{b:Bool}{tmps:Array Value}(h1:tmps[10]? = some (.int .i64 n))(h2:tmps[11]? = some (.bool b)):(results Tryz.f90 tmps).run Tryz.prog W=.ok (.tuple #[.int .i64 n,.bool b]) W:=by
 simp[results,Tryz.f90,go_sem,h1,h2]
theorem Zh.tree(l:List aL)(r:bR)(m:List Int)(hm:af m=true):(bif decide (r.2.2.2.2.1≥0)then bif decide (r.2.2.2.2.1<((l.length:Nat):Int))then bif decide (0≤r.2.2.2.2.1)&&decide (r.2.2.2.2.1<((l.length:Nat):Int))then bif !cB (l.getD r.2.2.2.2.1.toNat iR)then bif decide (0≤r.2.2.2.2.1)&&decide (r.2.2.2.2.1<((l.length:Nat):Int))then
  bif(l.getD r.2.2.2.2.1.toNat iR).1 == (Xk r).1&&((l.getD r.2.2.2.2.1.toNat iR).2.1 == (Xk r).2.1&&((l.getD r.2.2.2.2.1.toNat iR).2.2.1 == (Xk r).2.2.1&&true))then bif af m then some (10,!cJ r.2.2.2.2.2.2.1 m)else none else some (10,false)else none else some (10,false)else none else some (10,false)else some (10,false)) =
  some ((10,Fq l r&&!cJ (sQ r).2.2.2.1 m):Int×Bool):=by
 have e:∀u:aL,(u.1 == (Xk r).1&&(u.2.1 == (Xk r).2.1&&(u.2.2.1 == (Xk r).2.2.1&&true)))=decide (xH u=jm (Xk r)):=fun u=>id_eq (xH u) (jm (Xk r))
 simp only[e,Fq,ge_iff_le,hm];show(bif decide (0≤(sQ r).2.1)then bif decide ((sQ r).2.1<((l.length:Nat):Int))then bif decide (0≤(sQ r).2.1)&&decide ((sQ r).2.1<((l.length:Nat):Int))then bif !cB (l.getD (sQ r).2.1.toNat iR)then bif decide (0≤(sQ r).2.1)&&decide ((sQ r).2.1<((l.length:Nat):Int))then
  bif decide (xH (l.getD (sQ r).2.1.toNat iR)=jm (Xk r))then bif true then some (10,!cJ (sQ r).2.2.2.1 m)else none else some (10,false)else none else some (10,false)else none else some (10,false)else some (10,false))=_
 grind
def Zh.Out(w:World)(x:Int×Bool)(en:Ending)(w':World):Prop:=en=.returned (.tuple #[.int .i64 x.1,.bool x.2])∧Below w.heap.size w w'
theorem Zh.fin{w w1:World}{x:Int×Bool}(h1:Below w.heap.size w w1){a:Act}{w2:World}(h:Zh.Rt w1 x a w2):bodyPost Tryz.prog Tryz.f90 (Zh.Out w x) .ret a w2:=by
 obtain⟨h2,h3,h4,h5,h6⟩:=h;exact⟨h5,_,Zh.res (qT h2 (by intro h;cases h)) (qT h3 (by intro h;cases h)),rfl,h1.trans (h4.mono h1.size)⟩
set_option maxRecDepth 100000 in
set_option maxHeartbeats 4000000 in
theorem Zh.out(w:World)(r:bR)(p:Value)(hp:Cl w gl (.sl aE) r.2.2.2.2.2.2.2.2.2.2.2.2.2.2.2.2.2.2.2.2.1 p)(l:List aL)(ul:Value)(hl:Sl w gl gl bg l ul)(d:List aj)(ud:Value)(hd:Sl w gl gl aE d ud)(hdl:d.length≤1000000)
  (m:List Int) (um:Value) (hm:Sl w gl gl [zI] m um) (Qi:m.length≤1000000) (rm:Nat) (ids:List aj) (hM:Yh.M w rm ids) :
  Calls Tryz.prog 90 #[.agg (Dh r p).toArray,ul,ud,.map (some rm),um] w (Zh.Out w (ij (fun x=>decide (x∈ids)) l r d m)):=by
 have Y1:=Tryz.underlying56;have agk:=Tryz.underlying64;have alJ:=Tryz.underlying31;obtain⟨pa,pn,pc,rfl⟩:=hp.form;obtain⟨la,lc,rfl⟩:=(show ∃a c,ul=.slice a (l.length:Nat) c from hl.form);obtain⟨da,dc,rfl⟩:=(show ∃a c,ud=.slice a (d.length:Nat) c from hd.form);obtain⟨ma,mc,rfl⟩:=(show ∃a c,um=.slice a (m.length:Nat) c from hm.form);have Nt:=HB.new w 56 (Dh r (.slice pa pn pc)).toArray;have lA:Below w.heap.size w (w.alloc (.cells (Dh r (.slice pa pn pc)).toArray 56)):=(Below.refl _ w).alloc (azJ _) _;have Ko:=hd.low lA;have TS:=hm.low lA;have wU:=hl.low lA;have hM1:=hM.frame (w':=w.alloc (.cells (Dh r (.slice pa pn pc)).toArray 56)) (lA.block rm (by obtain⟨es,c,h,_⟩:=hM;exact(aAP.1 h).1));by_cases k6:r.2.2.2.1=6
 ·have k6b:(r.2.2.2.1 == 6)=true:=by simp[k6]
  have HR:=Hw.bf (show ij (fun x=>decide (x∈ids)) l r d m=(0,cJ (tZ r) d)by
   have:(sQ r).1=6:=k6;simp[ij,this])
  clear k6 hl hd hm hM TS wU hM1;rw[HR.out];have hdc:=Zh.asD Ko hdl (tZ r);go_enter Tryz.func90,Tryz.ntmps90
  go_wp2_with (go_at_call 126;refine hdc.mono ?_;rintro en w3 ⟨rfl,rh⟩)
  go_ret2
  exact⟨rfl,lA.trans (rh.mono (by simp))⟩
 ·have k6b:(r.2.2.2.1 == 6)=false:=by simp[k6]
  by_cases k4:r.2.2.2.1=4
  ·have k4b:(r.2.2.2.1 == 4)=true:=by simp[k4]
   have hlk:=Yh.look hM1 (r.1,r.2.1,0);cases iH:decide ((r.1,r.2.1,0)∈ids)with
   | true=>
    have HR:=Hw.bf (show ij (fun x=>decide (x∈ids)) l r d m=(0,true)by
     have h4:(sQ r).1=4:=k4;have h2:decide (((tZ r).1,(tZ r).2.1,0)∈ids)=true:=iH;simp only[ij,h4,h2];rfl)
    rw[iH]at hlk;clear k6 k4 hl hd hm hM TS wU hM1 Ko iH;rw[HR.out];go_enter Tryz.func90,Tryz.ntmps90
    go_wp2_with (refine Zh.aob rfl (.tmp 25) (.tmp 32) 111 rfl rfl rfl hlk ?_)
    go_ret2
    exact⟨rfl,lA⟩
   | false=>
    rw[iH]at hlk;have HR:=Hw.bf (show ij (fun x=>decide (x∈ids)) l r d m=(10,Fq l r&&!cJ (sQ r).2.2.2.1 m)by
     have h4:(sQ r).1=4:=k4;have h2:decide (((tZ r).1,(tZ r).2.1,0)∈ids)=false:=iH;simp only[ij,h4,h2];rfl)
    clear k6 k4 hl hd hm hM hM1 Ko iH;rw[HR.out];obtain⟨DW,l1,l2⟩:=aoZ wU;obtain⟨rows2,m1,m2⟩:=aoZ TS;obtain⟨row,_,p1,p2⟩:=auO Nt (Fg (hp.low lA));have HF:=Hw.bf (And.intro (And.intro l1 l2) (And.intro (And.intro m1 m2) (And.intro p1 p2)));clear l1 l2 m1 m2 p1 p2 wU TS hp;go_enter Tryz.func90,Tryz.ntmps90
    go_wp2_with (refine Zh.aob rfl (.tmp 25) (.tmp 32) 111 rfl rfl rfl hlk ?_)
    obtain⟨⟨l1,l2⟩,⟨m1,m2⟩,p1,p2⟩:=HF.out;rename_i hK;refine ZL (Rt:=Zh.Rt (w.alloc (.cells (Dh r (.slice pa pn pc)).toArray 56)) (10,Fq l r&&!cJ (sQ r).2.2.2.1 m)) ?_ hK ?_ ?_
    ·refine agO (C:=arv) (Kr:=YO) (lx:=[(1,.rd bg l),(4,.rd [zI] m),(5,.cp (iF bV r) 0),(12,.int .i64 r.2.2.2.2.1)]) (lv:=[(1,.rd DW),(4,.rd rows2),(5,.cp row 0),(12,.int .i64 r.2.2.2.2.1)]) mixed amC.1 rfl rfl rfl ?_ ?_ ?_ (f:=100000) (r:=(10,Fq l r&&!cJ (sQ r).2.2.2.1 m)) ?_ (asF (A:=gl) (by rfl) (by rfl) (fun b h=>h.elim) fun q hq=>?_) ?_
     ·exact⟨⟨rfl,l2⟩,⟨rfl,m2⟩,⟨rfl,p2⟩,⟨rfl,(aia (w:=w) (A:=gl)).2⟩,trivial⟩
     ·exact⟨by kernel_rfl,by kernel_rfl,trivial⟩
     ·trivial
     ·exact Eq.trans (by kernel_rfl) (Zh.tree l r m (azC (show m.length≤1099511627776 by omega)))
     ·simp only[azW,aB4,or_false]at hq
      rcases hq with rfl | rfl | rfl | rfl
      ·exact l1
      ·exact m1
      ·exact p1
      ·exact aia.1
     ·intro xs s R hx a2 w2 hR
      unfold YO at hx
      split at hx<;>try (cases hx;done)
      rename_i n b h1 h2;cases hx;obtain⟨g1,g2,g3⟩:=alq hR;exact⟨W9 R hR h1,SP R hR h2,g1,g2,g3⟩
    all_goals exact fun a2 w2 h=>Zh.fin lA h
  ·have k4b:(r.2.2.2.1 == 4)=false:=by simp[k4]
   have HR:=Hw.bf (show ij (fun x=>decide (x∈ids)) l r d m=(0,false)by
    have h6:¬ (sQ r).1=6:=k6;have h4:¬ (sQ r).1=4:=k4;simp[ij,h4,h6])
   clear k6 k4 hl hd hm hM TS wU hM1 Ko;rw[HR.out];go_enter Tryz.func90,Tryz.ntmps90;go_wp2
   go_ret2
   exact⟨rfl,lA⟩
end Go.AL
