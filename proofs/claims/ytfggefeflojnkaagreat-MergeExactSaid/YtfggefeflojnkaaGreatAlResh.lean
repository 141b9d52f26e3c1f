/- AI. -/
import Derived.Test.YtfggefeflojnkaaGreatAxSnd
namespace Go.AL
section
variable (s:St) (ρ:Nat→Option Nat) (F:Nat→Prop)
def jR(x x':V):Prop:=iN s F x x'∨(∃o p n,x=.ref p n∧ρ o=some p∧x'=.ref o n)∨(∃o p n i j,x=.ptr p n i j∧ρ o=some p∧x'=.ptr o n i j)∨(∃o,x=.nil∧ρ o=none∧x'=.ref o 0)∨x'=.dead
def Jx(x x':V):Prop:=jR s ρ F x x'∨(x'=x∧((∃rows,x=.rd rows)∨(∃row j,x=.cp row j)∨(∃cs,x=.agg cs)∨∃f cs,x=.fn f cs∧∀c∈cs,∃row j,c=.cp row j))∨
 (∃cs eL,x=.eA cs∧x'=.agg eL∧aJ (iN s F) cs eL)∨(∃cs eL,x=.eA cs∧x'=.eA eL∧aJ (jR s ρ F) cs eL)∨(∃f cs eL,x=.fn f cs∧x'=.fn f eL∧aJ (jR s ρ F) cs eL)
def obR(ob ob':Ob):Prop:=ob'.ty=ob.ty∧ob'.es=ob.es∧aJ (aJ fun x x'=>jR s ρ F x x'∧(ob'.imp=false→iN s F x x')) ob.rows ob'.rows
structure ank (s':St):Prop where
 t:∀i,s'.t i=.dead∨Jx s ρ F (s.t i) (s'.t i)
 h:∀o ob',s'.h o=some ob'→(∃p ob,ρ o=some p∧¬ F p∧s.h p=some ob∧obR s ρ F ob ob')∨(ρ o=none∧ob'.rows=[])
 inj:∀o o' p,ρ o=some p→ρ o'=some p→o=o'
end
section
variable {I:rM} {s s':St} {ρ:Nat→Option Nat} {F:Nat→Prop} {n:Nat} {w0:World} {A0:Nat→Prop} {a:Act} {w:World} {β:Nat→Option Nat} {A:Nat→Prop}
def MY(A:Nat→Prop)(F:Nat→Prop)(s:St)(β:Nat→Option Nat)(b:Nat):Prop:=A b∧¬ ∃p ob,F p∧s.h p=some ob∧β p=some b
def ux(ρ:Nat→Option Nat)(β:Nat→Option Nat)(o:Nat):Option Nat:=(ρ o).bind β
theorem wH(R:RB w0 I A0 n s a w β A){x x':V}{u:Value}(h:iN s F x x')(hu:bw ⟨w,A,s.h,β⟩ x u):aY w (MY A F s β) x' u:=by
 rcases h with⟨rfl,hp,F9⟩ | ⟨p,m,ob,rfl,hF,hp,himp,hm,rfl⟩
 ·have h1:aY w A x' u:=by cases x'<;>first | exact hu | (simp[V.pure]at hp;done) | exact absurd rfl (F9 _)
  exact h1.frame (fun _ _ _=>rfl) (azJ _) (fun b _ h=>h.1)
 ·have h2:=(hu ob hp).2 hm
  have aO:=R.bZ.ok p ob hp;simp only at h2 aO;cases hb:β p with
  | none=>
   rw[hb]at h2 aO;have h0:ob.rows=[]:=aO;rw[h0,h2];exact .slnil _
  | some b=>
   rw[hb]at h2 aO;obtain⟨cap,cur,rfl,h3,h4,h5,h6⟩:=h2;obtain⟨hA0,cur',hh,rW,hlen,j6⟩:=aO;simp only at hh h5 j6;have:cur'=cur:=by grind
   subst this;rw[hm];refine .sl ob.rows b 0 cap ob.es (fun i j=>(cur'[i*ob.es+j]?).getD undef) (by rw[← hm];exact h3) (fun _=>⟨R.bZ.lt b hA0,fun h=>h.2 ⟨p,ob,hF,hp,hb⟩⟩) rW (fun i row hi j x hx=>?_) (fun i row hi j x hx=>?_)
   ·obtain⟨v,c1,_⟩:=j6 i row hi j x hx
    rw[az8,cell_of_row w b _ cur' ob.ty (0,0) hh,c1];simp[]
   ·obtain⟨v,c1,_,_,c4⟩:=j6 i row hi j x hx
    simp only[c1,aAK];exact(c4 himp).frame (fun _ _ _=>rfl) (azJ _) (fun b _ h=>h.1)
theorem qY{ob ob':Ob}(h:obR s ρ F ob ob'):ob'.rows.length=ob.rows.length:=h.2.2.len.symm
theorem rz(R:RB w0 I A0 n s a w β A)(T:ank s ρ F s'){x x':V}{u:Value}(h:jR s ρ F x x')(hu:bw ⟨w,A,s.h,β⟩ x u):bw ⟨w,MY A F s β,s'.h,ux ρ β⟩ x' u:=by
 rcases h with h | ⟨o,p,m,rfl,hρ,rfl⟩ | ⟨o,p,m,i,j,rfl,hρ,rfl⟩ | ⟨o,rfl,hρ,rfl⟩ | rfl
 ·grind[bw.aN,wH]
 ·intro ob' dT
  rcases T.h o ob' dT with⟨p',ob,h1,h2,h3,h4⟩ | ⟨h1,_⟩
  ·rw[hρ]at h1
   cases h1
   have hl:=qY h4;obtain⟨g1,g2⟩:=hu ob h3;refine⟨by omega,fun hm=>?_⟩;have g3:=g2 (by omega);simp only at g3;simp only[ux,hρ,aAC];cases hb:β p with
   | none=>grind
   | some b=>
    rw[hb]at g3;obtain⟨cap,cur,q1,q2,q3,q4,q5⟩:=g3;exact⟨cap,cur,q1,q2,q3,by rw[h4.1];exact q4,by rw[h4.2.1];exact q5⟩
  grind
 ·intro ob' dT
  rcases T.h o ob' dT with⟨p',ob,h1,h2,h3,h4⟩ | ⟨h1,_⟩
  ·rw[hρ]at h1
   cases h1
   have hl:=qY h4;obtain⟨g1,g2⟩:=hu ob h3;refine⟨by omega,fun hm=>?_⟩;obtain⟨b,g3,g4⟩:=g2 (by omega);exact⟨b,by simp only[ux,hρ,aAC];exact g3,by rw[h4.2.1];exact g4⟩
  grind
 ·intro ob' dT
  have:u=.slice none 0 0:=by cases hu;rfl
  refine⟨aAu _,fun _=>?_⟩;grind[ux]
 ·trivial
theorem SR(R:RB w0 I A0 n s a w β A)(T:ank s ρ F s'){x x':V}{u:Value}(h:Jx s ρ F x x')(hu:Rel ⟨w,A,s.h,β⟩ x u):Rel ⟨w,MY A F s β,s'.h,ux ρ β⟩ x' u:=by
 have hM:∀b,(⟨w,MY A F s β,s'.h,ux ρ β⟩:Env).M b→(⟨w,A,s.h,β⟩:Env).M b:=by
  rintro b ⟨o,ob',ho,hb⟩;simp only[ux]at hb;cases hρ:ρ o with
  | none=>simp[hρ]at hb
  | some p=>
   simp[hρ]at hb;rcases T.h o ob' ho with⟨p',ob,h1,_,h3,_⟩ | ⟨h1,_⟩
   ·rw[hρ]at h1;cases h1;exact⟨p,ob,h3,hb⟩
   grind
 have hA:∀b,MY A F s β b→A b:=fun b h=>h.1
 have many:∀{cs eL:List V} {vs:Array Value},vs.size=cs.length→(∀(i:Nat) (x:V),cs[i]? = some x→∃u,vs[i]? = some u∧u.oneCell'=true∧bw ⟨w,A,s.h,β⟩ x u)→aJ (jR s ρ F) cs eL→
   vs.size=eL.length∧∀(i:Nat) (x:V),eL[i]? = some x→∃u,vs[i]? = some u∧u.oneCell'=true∧bw ⟨w,MY A F s β,s'.h,ux ρ β⟩ x u:=by
  intro cs eL vs h1 h2 h3;refine⟨by rw[h1,h3.len],fun i y hy=>?_⟩;obtain⟨x,hx,uH⟩:=h3.uS i y hy;obtain⟨u,u1,u2,u3⟩:=h2 i x hx;exact⟨u,u1,u2,rz R T uH u3⟩
 rcases h with h | ⟨rfl,h⟩ | ⟨cs,eL,rfl,rfl,h⟩ | ⟨cs,eL,rfl,rfl,h⟩ | ⟨f,cs,eL,rfl,rfl,h⟩
 ·by_cases hd:x'=.dead
  ·subst hd;trivial
  ·have h1:bw ⟨w,A,s.h,β⟩ x u:=by
    rcases h with(⟨rfl,hp,F9⟩ | ⟨p,m,ob,rfl,_⟩) | ⟨o,p,m,rfl,_⟩ | ⟨o,p,m,i,j,rfl,_⟩ | ⟨o,rfl,_⟩ | h
    ·cases x'<;>first | exact hu | (simp[V.pure]at hp;done) | exact absurd rfl (F9 _)
    ·exact hu
    ·exact hu
    ·exact hu
    ·exact hu
    ·exact absurd h hd
   grind[Rel.FN,rz]
 ·rcases h with⟨rows,rfl⟩ | ⟨row,j,rfl⟩ | ⟨cs,rfl⟩ | ⟨f,cs,rfl,hcp⟩
  ·exact gF.frame (fun _ _ _=>rfl) (fun _ _ _=>rfl) (azJ _) (fun b _ h=>hA b h) (fun b _ h=>hM b h) hu
  ·obtain⟨b,off,f,h1,h2,h3,h4,h5⟩:=hu
   exact⟨b,off,f,h1,h2,fun h=>h3 (hM b h),h4,fun k x hx=>(h5 k x hx).frame (fun _ _ _=>rfl) (azJ _) (fun b _ h=>hA b h)⟩
  ·obtain⟨vs,h1,h2,h3⟩:=hu
   exact⟨vs,h1,h2,fun i x hx=>let ⟨u,u1,u2⟩:=h3 i x hx;⟨u,u1,u2.frame (fun _ _ _=>rfl) (azJ _) (fun b _ h=>hA b h)⟩⟩
  ·obtain⟨vs,h1,h2,h3⟩:=hu
   refine⟨vs,h1,h2,fun i x hx=>?_⟩;obtain⟨u,u1,u2⟩:=h3 i x hx;obtain⟨row,j,rfl⟩:=hcp x (azO hx);obtain⟨b,off,g,g1,g2,g3,g4,g5⟩:=u2;exact⟨u,u1,b,off,g,g1,g2,fun h=>g3 (hM b h),g4,fun k x hx=>(g5 k x hx).frame (fun _ _ _=>rfl) (azJ _) (fun b _ h=>hA b h)⟩
 ·obtain⟨vs,h1,h2,h3⟩:=hu
  refine⟨vs,h1,by rw[h2,h.len],fun i y hy=>?_⟩;obtain⟨x,hx,uH⟩:=h.uS i y hy;grind[wH]
 ·obtain⟨vs,h1,h2,h3⟩:=hu
  obtain⟨e1,e2⟩:=many h2 h3 h;exact⟨vs,h1,e1,e2⟩
 ·obtain⟨vs,h1,h2,h3⟩:=hu
  refine⟨vs,h1,by rw[h2,h.len],fun i y hy=>?_⟩;obtain⟨x,hx,uH⟩:=h.uS i y hy;grind[rz]
theorem RB.reshape(R:RB w0 I A0 n s a w β A)(T:ank s ρ F s')(hF:∀p ob b,F p→s.h p=some ob→β p=some b→¬ I.P b)(hq:∀o ob',I.q o→s'.h o=some ob'→ρ o=some o):RB w0 I A0 n s' a w (ux ρ β) (MY A F s β):=by
 have s4:∀o ob' b,s'.h o=some ob'→ux ρ β o=some b→∃p ob,ρ o=some p∧¬ F p∧s.h p=some ob∧obR s ρ F ob ob'∧β p=some b:=by
  intro o ob' b ho hb;simp only[ux]at hb;cases hρ:ρ o with
  | none=>simp[hρ]at hb
  | some p=>
   simp[hρ]at hb;rcases T.h o ob' ho with⟨p',ob,h1,h2,h3,h4⟩ | ⟨h1,_⟩
   all_goals grind
 refine⟨R.defers,R.size,fun i=>?_,⟨fun o ob' ho=>?_,fun o o' ob ob' b h1 h2 h3 h4=>?_,fun b hb=>R.bZ.lt b hb.1⟩,fun b hb h0=>⟨R.a0 b hb h0,?_⟩,R.ev,fun o ob' b ho hb=>?_,R.qn,fun o ob' hqo ho=>?_⟩
 ·rcases T.t i with h | h
  ·rw[h];trivial
  ·exact SR R T h (R.au i)
 ·simp only
  cases hb:ux ρ β o with
  | none=>
   rcases T.h o ob' ho with⟨p,ob,h1,h2,h3,h4⟩ | ⟨h1,h2⟩
   ·simp[ux,h1]at hb
    have aO:=R.bZ.ok p ob h3;simp only at aO;rw[hb]at aO;have h0:ob.rows=[]:=aO;have:=qY h4;rw[h0]at this;exact aAf this
   ·exact h2
  | some b=>
   obtain⟨p,ob,h1,h2,h3,h4,h5⟩:=s4 o ob' b ho hb;have aO:=R.bZ.ok p ob h3;simp only at aO;rw[h5]at aO;obtain⟨k1,cur,k2,k3,k4,k5⟩:=aO;have hl:=qY h4;refine⟨⟨k1,fun⟨q,bE,hq1,hq2,hq3⟩=>?_⟩,cur,by rw[h4.1];exact k2,fun row aK=>?_,by rw[hl,h4.2.1];exact k4,fun i row hi j x hx=>?_⟩
   ·have:=R.bZ.inj p q ob bE b h3 hq2 h5 hq3
    grind
   ·obtain⟨i,hi⟩:=aAr aK
    obtain⟨r,hr,hrr⟩:=h4.2.2.uS i row hi;rw[← hrr.len,h4.2.1];exact k3 r (azO hr)
   ·obtain⟨r,hr,hrr⟩:=h4.2.2.uS i row hi
    obtain⟨y,hy,uH,hxp⟩:=hrr.uS j x hx;obtain⟨v,c1,c2,c3,_⟩:=k5 i r hr j y hy;refine⟨v,by rw[h4.2.1];exact c1,c2,rz R T uH c3,fun himp=>wH R (hxp himp) c3⟩
 ·obtain⟨p,tK,e1,_,e3,_,e5⟩:=s4 o ob b h1 h3
  obtain⟨q,bE,f1,_,f3,_,f5⟩:=s4 o' ob' b h2 h4;have:=R.bZ.inj p q tK bE b e3 f3 e5 f5;subst this;exact T.inj o o' p e1 f1
 ·rintro⟨p,ob,hFp,hp,yM⟩
  have:=(R.own p ob b hp yM).resolve_right (hF p ob b hFp hp yM);omega
 ·obtain⟨p,tK,e1,_,e3,_,e5⟩:=s4 o ob' b ho hb
  exact R.own p tK b e3 e5
 ·have hρ:=hq o ob' hqo ho
  rcases T.h o ob' ho with⟨p,ob,h1,h2,h3,h4⟩ | ⟨h1,_⟩
  ·rw[hρ]at h1
   cases h1
   have hl:=qY h4;obtain⟨g1,g2⟩:=R.pin o ob hqo h3;refine⟨by omega,fun hn=>?_⟩;obtain⟨g3,g4⟩:=g2 (by omega);refine⟨by simp only[ux,hρ,aAC];exact g3,fun b cb hb hc=>?_⟩;rw[h4.1]at hc ⊢;exact g4 b cb hb hc
  grind
end
end Go.AL
