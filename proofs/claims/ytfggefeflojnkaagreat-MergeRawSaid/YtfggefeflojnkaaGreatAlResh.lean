/- By an AI agent. -/
import Derived.Test.YtfggefeflojnkaaGreatAxSnd
set_option linter.unusedSimpArgs false
namespace Go.AL
section
variable (s:St) (ρ:Nat→Option Nat) (F:Nat→Prop)
def vt(x x':V):Prop:=iE s F x x'∨(∃o p n,x=.ref p n∧ρ o=some p∧x'=.ref o n)∨(∃o p n i j,x=.ptr p n i j∧ρ o=some p∧x'=.ptr o n i j)∨(∃o,x=.nil∧ρ o=none∧x'=.ref o 0)∨x'=.dead
def JR(x x':V):Prop:=vt s ρ F x x'∨(x'=x∧((∃rows,x=.rd rows)∨(∃row j,x=.cp row j)∨(∃cs,x=.agg cs)∨∃f cs,x=.fn f cs∧∀c∈cs,∃row j,c=.cp row j))∨
 (∃cs fj,x=.dP cs∧x'=.agg fj∧aP (iE s F) cs fj)∨(∃cs fj,x=.dP cs∧x'=.dP fj∧aP (vt s ρ F) cs fj)∨(∃f cs fj,x=.fn f cs∧x'=.fn f fj∧aP (vt s ρ F) cs fj)
def obR(ob ob':Ob):Prop:=ob'.ty=ob.ty∧ob'.es=ob.es∧aP (aP fun x x'=>vt s ρ F x x'∧(ob'.imp=false→iE s F x x')) ob.rows ob'.rows
structure aqi (s':St):Prop where
 t:∀i,s'.t i=.dead∨JR s ρ F (s.t i) (s'.t i)
 h:∀o ob',s'.h o=some ob'→(∃p ob,ρ o=some p∧¬ F p∧s.h p=some ob∧obR s ρ F ob ob')∨(ρ o=none∧ob'.rows=[])
 inj:∀o o' p,ρ o=some p→ρ o'=some p→o=o'
end
section
variable {I:sy} {s s':St} {ρ:Nat→Option Nat} {F:Nat→Prop} {n:Nat} {w0:World} {A0:Nat→Prop} {a:Act} {w:World} {β:Nat→Option Nat} {A:Nat→Prop}
def Nt(A:Nat→Prop)(F:Nat→Prop)(s:St)(β:Nat→Option Nat)(b:Nat):Prop:=A b∧¬ ∃p ob,F p∧s.h p=some ob∧β p=some b
def uG(ρ:Nat→Option Nat)(β:Nat→Option Nat)(o:Nat):Option Nat:=(ρ o).bind β
theorem wU(R:RB w0 I A0 n s a w β A){x x':V}{u:Value}(h:iE s F x x')(hu:bB ⟨w,A,s.h,β⟩ x u):bh w (Nt A F s β) x' u:=by
 rcases h with⟨rfl,hp,Ib⟩ | ⟨p,m,ob,rfl,hF,hp,himp,hm,rfl⟩
 ·have h1:bh w A x' u:=by cases x'<;>first | exact hu | (simp[V.pure]at hp;done) | exact absurd rfl (Ib _)
  exact h1.frame (fun _ _ _=>rfl) (aCt _) (fun b _ h=>h.1)
 ·have h2:=(hu ob hp).2 hm
  have aX:=R.cq.ok p ob hp;simp only at h2 aX;cases hb:β p with
  | none=>
   rw[hb]at h2 aX;have h0:ob.rows=[]:=aX;rw[h0,h2];exact .slnil _
  | some b=>
   rw[hb]at h2 aX;obtain⟨cap,cur,rfl,h3,h4,h5,h6⟩:=h2;obtain⟨hA0,cur',hh,sJ,hlen,iu⟩:=aX;simp only at hh h5 iu;have:cur'=cur:=by rw[h5]at hh;simp at hh;exact hh.symm
   subst this;rw[hm];refine .sl ob.rows b 0 cap ob.es (fun i j=>(cur'[i*ob.es+j]?).getD undef) (by rw[← hm];exact h3) (fun _=>⟨R.cq.lt b hA0,fun h=>h.2 ⟨p,ob,hF,hp,hb⟩⟩) sJ (fun i row hi j x hx=>?_) (fun i row hi j x hx=>?_)
   ·obtain⟨v,c1,_⟩:=iu i row hi j x hx
    rw[aC0,cell_of_row w b _ cur' ob.ty (0,0) hh,c1];simp[c1]
   ·obtain⟨v,c1,_,_,c4⟩:=iu i row hi j x hx
    simp only[c1,aDK];exact(c4 himp).frame (fun _ _ _=>rfl) (aCt _) (fun b _ h=>h.1)
theorem rQ{ob ob':Ob}(h:obR s ρ F ob ob'):ob'.rows.length=ob.rows.length:=h.2.2.len.symm
theorem rZ(R:RB w0 I A0 n s a w β A)(T:aqi s ρ F s'){x x':V}{u:Value}(h:vt s ρ F x x')(hu:bB ⟨w,A,s.h,β⟩ x u):bB ⟨w,Nt A F s β,s'.h,uG ρ β⟩ x' u:=by
 rcases h with h | ⟨o,p,m,rfl,hρ,rfl⟩ | ⟨o,p,m,i,j,rfl,hρ,rfl⟩ | ⟨o,rfl,hρ,rfl⟩ | rfl
 ·exact bB.aU (wU R h hu)
 ·intro ob' dW
  rcases T.h o ob' dW with⟨p',ob,h1,h2,h3,h4⟩ | ⟨h1,_⟩
  ·rw[hρ]at h1
   cases h1
   have hl:=rQ h4;obtain⟨g1,g2⟩:=hu ob h3;refine⟨by omega,fun hm=>?_⟩;have g3:=g2 (by omega);simp only at g3;simp only[uG,hρ,aDd];cases hb:β p with
   | none=>rw[hb]at g3;exact g3
   | some b=>
    rw[hb]at g3;obtain⟨cap,cur,q1,q2,q3,q4,q5⟩:=g3;exact⟨cap,cur,q1,q2,q3,by rw[h4.1];exact q4,by rw[h4.2.1];exact q5⟩
  ·rw[hρ]at h1;cases h1
 ·intro ob' dW
  rcases T.h o ob' dW with⟨p',ob,h1,h2,h3,h4⟩ | ⟨h1,_⟩
  ·rw[hρ]at h1
   cases h1
   have hl:=rQ h4;obtain⟨g1,g2⟩:=hu ob h3;refine⟨by omega,fun hm=>?_⟩;obtain⟨b,g3,g4⟩:=g2 (by omega);exact⟨b,by simp only[uG,hρ,aDd];exact g3,by rw[h4.2.1];exact g4⟩
  ·rw[hρ]at h1;cases h1
 ·intro ob' dW
  have:u=.slice none 0 0:=by cases hu;rfl
  refine⟨aDj _,fun _=>?_⟩;simp only[uG,hρ,aEl];exact this
 ·trivial
theorem TF(R:RB w0 I A0 n s a w β A)(T:aqi s ρ F s'){x x':V}{u:Value}(h:JR s ρ F x x')(hu:Rel ⟨w,A,s.h,β⟩ x u):Rel ⟨w,Nt A F s β,s'.h,uG ρ β⟩ x' u:=by
 have hM:∀b,(⟨w,Nt A F s β,s'.h,uG ρ β⟩:Env).M b→(⟨w,A,s.h,β⟩:Env).M b:=by
  rintro b ⟨o,ob',ho,hb⟩;simp only[uG]at hb;cases hρ:ρ o with
  | none=>simp[hρ]at hb
  | some p=>
   simp[hρ]at hb;rcases T.h o ob' ho with⟨p',ob,h1,_,h3,_⟩ | ⟨h1,_⟩
   ·rw[hρ]at h1;cases h1;exact⟨p,ob,h3,hb⟩
   ·rw[hρ]at h1;cases h1
 have hA:∀b,Nt A F s β b→A b:=fun b h=>h.1
 have many:∀{cs fj:List V} {vs:Array Value},vs.size=cs.length→(∀(i:Nat) (x:V),cs[i]? = some x→∃u,vs[i]? = some u∧u.oneCell'=true∧bB ⟨w,A,s.h,β⟩ x u)→aP (vt s ρ F) cs fj→
   vs.size=fj.length∧∀(i:Nat) (x:V),fj[i]? = some x→∃u,vs[i]? = some u∧u.oneCell'=true∧bB ⟨w,Nt A F s β,s'.h,uG ρ β⟩ x u:=by
  intro cs fj vs h1 h2 h3;refine⟨by rw[h1,h3.len],fun i y hy=>?_⟩;obtain⟨x,hx,uQ⟩:=h3.uZ i y hy;obtain⟨u,u1,u2,u3⟩:=h2 i x hx;exact⟨u,u1,u2,rZ R T uQ u3⟩
 rcases h with h | ⟨rfl,h⟩ | ⟨cs,fj,rfl,rfl,h⟩ | ⟨cs,fj,rfl,rfl,h⟩ | ⟨f,cs,fj,rfl,rfl,h⟩
 ·by_cases hd:x'=.dead
  ·subst hd;trivial
  ·have h1:bB ⟨w,A,s.h,β⟩ x u:=by
    rcases h with(⟨rfl,hp,Ib⟩ | ⟨p,m,ob,rfl,_⟩) | ⟨o,p,m,rfl,_⟩ | ⟨o,p,m,i,j,rfl,_⟩ | ⟨o,rfl,_⟩ | h
    ·cases x'<;>first | exact hu | (simp[V.pure]at hp;done) | exact absurd rfl (Ib _)
    ·exact hu
    ·exact hu
    ·exact hu
    ·exact hu
    ·exact absurd h hd
   exact Rel.Fl (rZ R T h h1)
 ·rcases h with⟨rows,rfl⟩ | ⟨row,j,rfl⟩ | ⟨cs,rfl⟩ | ⟨f,cs,rfl,hcp⟩
  ·exact gC.frame (fun _ _ _=>rfl) (fun _ _ _=>rfl) (aCt _) (fun b _ h=>hA b h) (fun b _ h=>hM b h) hu
  ·obtain⟨b,off,f,h1,h2,h3,h4,h5⟩:=hu
   exact⟨b,off,f,h1,h2,fun h=>h3 (hM b h),h4,fun k x hx=>(h5 k x hx).frame (fun _ _ _=>rfl) (aCt _) (fun b _ h=>hA b h)⟩
  ·obtain⟨vs,h1,h2,h3⟩:=hu
   exact⟨vs,h1,h2,fun i x hx=>let ⟨u,u1,u2⟩:=h3 i x hx;⟨u,u1,u2.frame (fun _ _ _=>rfl) (aCt _) (fun b _ h=>hA b h)⟩⟩
  ·obtain⟨vs,h1,h2,h3⟩:=hu
   refine⟨vs,h1,h2,fun i x hx=>?_⟩;obtain⟨u,u1,u2⟩:=h3 i x hx;obtain⟨row,j,rfl⟩:=hcp x (aCC hx);obtain⟨b,off,g,g1,g2,g3,g4,g5⟩:=u2;exact⟨u,u1,b,off,g,g1,g2,fun h=>g3 (hM b h),g4,fun k x hx=>(g5 k x hx).frame (fun _ _ _=>rfl) (aCt _) (fun b _ h=>hA b h)⟩
 ·obtain⟨vs,h1,h2,h3⟩:=hu
  refine⟨vs,h1,by rw[h2,h.len],fun i y hy=>?_⟩;obtain⟨x,hx,uQ⟩:=h.uZ i y hy;obtain⟨u,u1,u2,u3⟩:=h3 i x hx;exact⟨u,u1,wU R uQ u3⟩
 ·obtain⟨vs,h1,h2,h3⟩:=hu
  obtain⟨e1,e2⟩:=many h2 h3 h;exact⟨vs,h1,e1,e2⟩
 ·obtain⟨vs,h1,h2,h3⟩:=hu
  refine⟨vs,h1,by rw[h2,h.len],fun i y hy=>?_⟩;obtain⟨x,hx,uQ⟩:=h.uZ i y hy;obtain⟨u,u1,u2⟩:=h3 i x hx;exact⟨u,u1,rZ R T uQ u2⟩
theorem RB.reshape(R:RB w0 I A0 n s a w β A)(T:aqi s ρ F s')(hF:∀p ob b,F p→s.h p=some ob→β p=some b→¬ I.P b)(hq:∀o ob',I.q o→s'.h o=some ob'→ρ o=some o):RB w0 I A0 n s' a w (uG ρ β) (Nt A F s β):=by
 have tq:∀o ob' b,s'.h o=some ob'→uG ρ β o=some b→∃p ob,ρ o=some p∧¬ F p∧s.h p=some ob∧obR s ρ F ob ob'∧β p=some b:=by
  intro o ob' b ho hb;simp only[uG]at hb;cases hρ:ρ o with
  | none=>simp[hρ]at hb
  | some p=>
   simp[hρ]at hb;rcases T.h o ob' ho with⟨p',ob,h1,h2,h3,h4⟩ | ⟨h1,_⟩
   ·rw[hρ]at h1;cases h1;exact⟨p,ob,rfl,h2,h3,h4,hb⟩
   ·rw[hρ]at h1;cases h1
 refine⟨R.defers,R.size,fun i=>?_,⟨fun o ob' ho=>?_,fun o o' ob ob' b h1 h2 h3 h4=>?_,fun b hb=>R.cq.lt b hb.1⟩,fun b hb h0=>⟨R.a0 b hb h0,?_⟩,R.ev,fun o ob' b ho hb=>?_,R.qn,fun o ob' hqo ho=>?_⟩
 ·rcases T.t i with h | h
  ·rw[h];trivial
  ·exact TF R T h (R.ai i)
 ·simp only
  cases hb:uG ρ β o with
  | none=>
   rcases T.h o ob' ho with⟨p,ob,h1,h2,h3,h4⟩ | ⟨h1,h2⟩
   ·simp[uG,h1]at hb
    have aX:=R.cq.ok p ob h3;simp only at aX;rw[hb]at aX;have h0:ob.rows=[]:=aX;have:=rQ h4;rw[h0]at this;exact aCX this
   ·exact h2
  | some b=>
   obtain⟨p,ob,h1,h2,h3,h4,h5⟩:=tq o ob' b ho hb;have aX:=R.cq.ok p ob h3;simp only at aX;rw[h5]at aX;obtain⟨k1,cur,k2,k3,k4,k5⟩:=aX;have hl:=rQ h4;refine⟨⟨k1,fun⟨q,bM,hq1,hq2,hq3⟩=>?_⟩,cur,by rw[h4.1];exact k2,fun row aO=>?_,by rw[hl,h4.2.1];exact k4,fun i row hi j x hx=>?_⟩
   ·have:=R.cq.inj p q ob bM b h3 hq2 h5 hq3
    subst this;exact h2 hq1
   ·obtain⟨i,hi⟩:=aDf aO
    obtain⟨r,hr,hrr⟩:=h4.2.2.uZ i row hi;rw[← hrr.len,h4.2.1];exact k3 r (aCC hr)
   ·obtain⟨r,hr,hrr⟩:=h4.2.2.uZ i row hi
    obtain⟨y,hy,uQ,hxp⟩:=hrr.uZ j x hx;obtain⟨v,c1,c2,c3,_⟩:=k5 i r hr j y hy;refine⟨v,by rw[h4.2.1];exact c1,c2,rZ R T uQ c3,fun himp=>wU R (hxp himp) c3⟩
 ·obtain⟨p,tZ,e1,_,e3,_,e5⟩:=tq o ob b h1 h3
  obtain⟨q,bM,f1,_,f3,_,f5⟩:=tq o' ob' b h2 h4;have:=R.cq.inj p q tZ bM b e3 f3 e5 f5;subst this;exact T.inj o o' p e1 f1
 ·rintro⟨p,ob,hFp,hp,yX⟩
  have:=(R.own p ob b hp yX).resolve_right (hF p ob b hFp hp yX);omega
 ·obtain⟨p,tZ,e1,_,e3,_,e5⟩:=tq o ob' b ho hb
  exact R.own p tZ b e3 e5
 ·have hρ:=hq o ob' hqo ho
  rcases T.h o ob' ho with⟨p,ob,h1,h2,h3,h4⟩ | ⟨h1,_⟩
  ·rw[hρ]at h1
   cases h1
   have hl:=rQ h4;obtain⟨g1,g2⟩:=R.pin o ob hqo h3;refine⟨by omega,fun hn=>?_⟩;obtain⟨g3,g4⟩:=g2 (by omega);refine⟨by simp only[uG,hρ,aDd];exact g3,fun b ct hb hc=>?_⟩;rw[h4.1]at hc ⊢;exact g4 b ct hb hc
  ·rw[hρ]at h1;cases h1
end
end Go.AL
