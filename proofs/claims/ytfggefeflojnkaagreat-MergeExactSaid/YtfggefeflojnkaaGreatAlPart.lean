/- AI. -/
import Derived.Test.YtfggefeflojnkaaGreatAxRen
set_option linter.unusedVariables false
namespace Go.AL
def cV(ls:List Ob)(p:Nat):Option Ob:=if 500≤p then ls[p-500]? else none
def nq(β:Nat→Option Nat)(qs:List Nat)(p:Nat):Option Nat:=if 500≤p then(qs[p-500]?).bind β else none
def ik(ls:List Ob)(outs:List (Option (List (List V))))(i:Nat):Option Ob:=
 match ls[i]?,outs[i]? with
 | some ob,some (some rows)=>some {ob with rows:=rows }
 | _,_=>none
def eH(ls:List Ob)(rds:List RD)(outs:List (Option (List (List V))))(p:Nat):Option Ob:=
 if 500≤p then ik ls outs (p-500)else gC rds p
structure CG (w:World) (A:Nat→Prop) (ls:List Ob) (β0:Nat→Option Nat) (rds:List RD) (outs:List (Option (List (List V)))) (w':World) (us:List Value) (β':Nat→Option Nat) (A':Nat→Prop):Prop where
 len:us.length=rds.length
 small:rds.length≤500
 bZ:bU ⟨w',A',eH ls rds outs,β'⟩
 rel:∀(k:Nat) (rd:RD),rds[k]? = some rd→∃u,us[k]? = some u∧cD ⟨w',A',eH ls rds outs,β'⟩ (rd.val k) u
 a0:∀b,b<w.heap.size→A b→A' b
 ev:Ev w w' (fun b=>∃i ob,ls[i]? = some ob∧β0 (500+i)=some b)
 own:∀k ob b,gC rds k=some ob→β' k=some b→w.heap.size≤b∨∃i ob,ls[i]? = some ob∧ik ls outs i=none∧β0 (500+i)=some b
 TH:∀i ob ob',ls[i]? = some ob→ik ls outs i=some ob'→ob'.rows.length=ob.rows.length∧β' (500+i)=β0 (500+i)∧
  ∀b cur,β0 (500+i)=some b→w.heap[b]? = some (.cells cur ob.ty (0,0))→∃cur',w'.heap[b]? = some (.cells cur' ob.ty (0,0))∧cur'.size=cur.size
def FnL(P:Program)(f:FuncId)(args:List V)(ls:List Ob)(Pd:List RD→List (Option (List (List V)))→Prop):Prop:=
 (∀rds outs,Pd rds outs→∀rd∈rds,rd.ok=true)∧
 ∀(w:World) (A:Nat→Prop) (β0:Nat→Option Nat) (vs:Array Value),bU ⟨w,A,cV ls,β0⟩→vs.size=args.length→
  (∀(i:Nat) (x:V),args[i]? = some x→∃u,vs[i]? = some u∧Rel ⟨w,A,cV ls,β0⟩ x u)→
  Calls P f vs w fun e w'=>∃rds outs us β' A',Pd rds outs∧e=.returned (jE us)∧CG w A ls β0 rds outs w' us β' A'
section
variable {w:World} {A:Nat→Prop} {h h1 h':Nat→Option Ob} {β β':Nat→Option Nat}
theorem PE(H:bU ⟨w,A,h,β⟩)(hs:∀o ob,h1 o=some ob→h o=some ob)(hN:∀o ob b,h1 o=some ob→β o=some b→¬ (⟨w,A,h',β'⟩:Env).M b){o n i j j':Nat}{row:List V}{u:Value}(hr:bw ⟨w,A,h,β⟩ (.ptr o n i j) u)
  (ha:∃ob,h1 o=some ob∧n=ob.rows.length∧Z6 ob i row∧j'=j):bw ⟨w,A,h',β'⟩ (.cp row j') u:=by
 obtain⟨ob,ho1,hn,hcp,rfl⟩:=ha;have ho:=hs o ob ho1;obtain⟨b,hb,rfl⟩:=(hr ob ho).2 hn;have aO:=H.ok o ob ho;simp only at hb aO;rw[hb]at aO;have bO:=H.lt b aO.1;obtain⟨f,hc⟩:=B1 aO hcp;exact⟨b,i*ob.es,f,rfl,bO,hN o ob b ho1 hb,fun k x hk=>(hc k x hk).1,fun k x hk=>(hc k x hk).2⟩
theorem ED(H:bU ⟨w,A,h,β⟩)(hs:∀o ob,h1 o=some ob→h o=some ob)(hM:∀b,(⟨w,A,h',β'⟩:Env).M b→(⟨w,A,h,β⟩:Env).M b)(hN:∀o ob b,h1 o=some ob→β o=some b→¬ (⟨w,A,h',β'⟩:Env).M b):∀{xs ys:List V},mB h1 xs ys→
  xs.length=ys.length∧∀(i:Nat) (y:V),ys[i]? = some y→∃x,xs[i]? = some x∧∀u,bw ⟨w,A,h,β⟩ x u→bw ⟨w,A,h',β'⟩ y u
 | [],[],_=>⟨rfl,fun i y h=>by simp at h⟩
 | x::xs,y::ys,ha=>by
  obtain⟨e1,e2⟩:=ED H hs hM hN ha.2;refine⟨by simp[e1],fun i z hz=>?_⟩;cases i with
  | zero=>
   simp at hz;subst hz;refine⟨x,rfl,fun u hu=>?_⟩;have h1:=ha.1;unfold xj at h1
   split at h1
   ·exact PE H hs hN hu h1
   ·obtain⟨rfl,rfl⟩:=h1
    obtain⟨b,off,f,g1,g2,g3,g4,g5⟩:=hu;exact⟨b,off,f,g1,g2,fun h=>g3 (hM b h),g4,g5⟩
   ·obtain⟨rfl,hp,F9⟩:=h1
    refine bw.aN (E:=⟨w,A,h',β'⟩) (?_:aY w A y u);cases y<;>first | exact hu | (simp[V.pure]at hp;done) | exact absurd rfl (F9 _)
  | succ i=>
   grind
 | [],_::_,ha=>ha.elim
 | _::_,[],ha=>ha.elim
theorem aaA(H:bU ⟨w,A,h,β⟩)(hs:∀o ob,h1 o=some ob→h o=some ob)(hM:∀b,(⟨w,A,h',β'⟩:Env).M b→(⟨w,A,h,β⟩:Env).M b)(hN:∀o ob b,h1 o=some ob→β o=some b→¬ (⟨w,A,h',β'⟩:Env).M b)
  {x y:V} {u:Value} (hr:Rel ⟨w,A,h,β⟩ x u) (ha:jU h1 x y):Rel ⟨w,A,h',β'⟩ y u:=by
 have WG:∀(X:Nat→Prop) (rows:List (List V)),(∀b,(⟨w,A,h',β'⟩:Env).M b→X b)→gF w A X rows u→Rel ⟨w,A,h',β'⟩ (.rd rows) u:=by
  intro X rows hX hs;rcases hs with h1 | ⟨b,off,cap,es,f,hv,jM,hb,bI,hc,hrr⟩
  ·exact .inl h1
  ·exact .inr ⟨b,off,cap,es,f,hv,jM,fun dU=>⟨(hb dU).1,fun hm=>(hb dU).2 (hX b hm)⟩,bI,hc,hrr⟩
 unfold jU at ha
 split at ha
 ·obtain⟨ob,ho1,hn,himp,rfl⟩:=ha
  rename_i o n;have ho:=hs o ob ho1;have h2:=(hr ob ho).2 hn;have aO:=H.ok o ob ho;simp only at h2 aO;cases hb:β o with
  | none=>rw[hb]at h2 aO;exact .inl ⟨⟨_,h2⟩,aO⟩
  | some b=>
   rw[hb]at h2 aO;obtain⟨cap,cur,rfl,h3,h4,h5,h6⟩:=h2;obtain⟨hA,cur',hh,rW,hlen,j6⟩:=aO;simp only at hh h5 j6;have:cur'=cur:=by grind
   subst this;refine .inr ⟨b,0,cap,ob.es,fun i j=>(cur'[i*ob.es+j]?).getD undef,by rw[hn],by rw[← hn];exact h3,fun _=>⟨H.lt b hA,hN o ob b ho1 hb⟩,rW,fun i row hi j x hx=>?_,fun i row hi j x hx=>?_⟩
   ·obtain⟨v,c1,_⟩:=j6 i row hi j x hx
    rw[az8,cell_of_row w b _ cur' ob.ty (0,0) hh,c1];simp[c1]
   grind
 ·subst ha;exact WG _ _ (fun b hb=>H.mA (hM b hb)) (ei hr)
 ·subst ha;exact WG _ _ hM hr
 ·subst ha
  have:u=.slice none 0 0:=by cases hr;rfl
  exact .inl ⟨⟨_,this⟩,rfl⟩
 ·subst ha
  have:u=.slice none 0 0:=by cases hr;rfl
  subst this;exact .slnil _
 ·rename_i cs eL
  obtain⟨vs,rfl,hs,hc⟩:=hr;rcases ha with rfl | ha
  ·exact⟨vs,rfl,hs,hc⟩
  ·obtain⟨hl,hg⟩:=wA ha
   refine⟨vs,rfl,by rw[hs,hl],fun i y hy=>?_⟩;grind[Iz]
 ·exact PE H hs hN hr ha
 ·obtain⟨rfl,rfl⟩:=ha
  obtain⟨b,off,f,g1,g2,g3,g4,g5⟩:=hr;exact⟨b,off,f,g1,g2,fun h=>g3 (hM b h),g4,g5⟩
 ·obtain⟨rfl,ha⟩:=ha
  obtain⟨vs,g1,g2,g3⟩:=hr;obtain⟨e1,e2⟩:=ED H hs hM hN ha;refine⟨vs,g1,by rw[g2,e1],fun i y hy=>?_⟩;grind
 ·obtain⟨rfl,hp⟩:=ha
  have:cD ⟨w,A,h,β⟩ y u:=by cases y<;>first | exact hr | (simp[V.pure]at hp)
  exact(qX (E:=⟨w,A,h,β⟩) (E':=⟨w,A,h',β'⟩) hp rfl (fun _ _ h=>h) this).rel
end
def anb(h1:Nat→Option Ob)(qs:List Nat)(x y:V):Prop:=
 jU h1 x y∨(∃i q n,qs[i]? = some q∧x=.ref q n∧y=.ref (500+i) n)∨(∃i q n a b,qs[i]? = some q∧x=.ptr q n a b∧y=.ptr (500+i) n a b)
def oI(h:Nat→Option Ob)(qs:List Nat)(p:Nat):Option Ob:=if p∈qs then none else h p
def GD(h:Nat→Option Ob)(qs:List Nat)(xs ys:List V):Prop:=xs.length=ys.length∧∀(i:Nat) (x y:V),xs[i]? = some x→ys[i]? = some y→anb (oI h qs) qs x y
def sX(h:Nat→Option Ob)(qs:List Nat)(ls:List Ob):Prop:=qs.Nodup∧qs.length=ls.length∧∀(i:Nat) (q:Nat) (ob:Ob),qs[i]? = some q→ls[i]? = some ob→h q=some ob∧ob.imp=false
section
variable {P:Program} {w0:World} {I:rM} {A0:Nat→Prop} {n:Nat} {s:St} {a:Act} {w:World} {β:Nat→Option Nat} {A:Nat→Prop}
theorem kj{h:Nat→Option Ob}{qs:List Nat}{ls:List Ob}(hl:sX h qs ls){i:Nat}{ob:Ob}(hi:ls[i]? = some ob):∃q,qs[i]? = some q∧h q=some ob∧ob.imp=false∧nq β qs (500+i)=β q:=by
 have bO:i<qs.length:=by rw[hl.2.1];grind
 refine⟨qs[i],azS bO,(hl.2.2 i _ ob (azS bO) hi).1,(hl.2.2 i _ ob (azS bO) hi).2,?_⟩;simp only[nq,Nat.le_add_right,aAo,aB0,azS bO,aAC]
theorem fO{ls:List Ob}{p:Nat}{ob:Ob}(h:cV ls p=some ob):∃i,p=500+i∧ls[i]? = some ob:=by
 grind[cV]
theorem YL(H:bU ⟨w,A,s.h,β⟩){qs:List Nat}{ls:List Ob}(hl:sX s.h qs ls):bU ⟨w,A,cV ls,nq β qs⟩:=by
 refine⟨fun p ob hp=>?_,fun p p' ob ob' b hp hp' hb gW=>?_,H.lt⟩
 ·obtain⟨i,rfl,hi⟩:=fO hp
  obtain⟨q,hq,ho,himp,hB⟩:=kj (β:=β) hl hi;have:=H.ok q ob ho;simp only[hB]at this ⊢;cases hb:β q with
  | none=>rw[hb]at this;exact this
  | some b=>
   rw[hb]at this;obtain⟨c1,cur,c2,c3,c4,c5⟩:=this;refine⟨c1,cur,c2,c3,c4,fun i row hi j x hx=>?_⟩;grind[bw.aN]
 ·obtain⟨i,rfl,hi⟩:=fO hp
  obtain⟨i',rfl,j5⟩:=fO hp';obtain⟨q,hq,ho,_,hB⟩:=kj (β:=β) hl hi;obtain⟨q',Ni,dT,_,hB'⟩:=kj (β:=β) hl j5;simp only[hB]at hb;simp only[hB']at gW;have e:=H.inj q q' ob ob' b ho dT hb gW;subst e;have h1:=azR.1 hq;have h2:=azR.1 Ni;have:=(List.getElem_inj (h₀:=h1.1) (h₁:=h2.1) hl.1).1 (h1.2.trans h2.2.symm);rw[this]
theorem ah0{qs:List Nat}{ls:List Ob}(hl:sX s.h qs ls){b:Nat}(hm:(⟨w,A,cV ls,nq β qs⟩:Env).M b):∃(i q:Nat) (ob:Ob),qs[i]? = some q∧ls[i]? = some ob∧s.h q=some ob∧β q=some b:=by
 obtain⟨p,ob,hp,hb⟩:=hm;obtain⟨i,rfl,hi⟩:=fO hp;obtain⟨q,hq,ho,_,hB⟩:=kj (β:=β) hl hi;grind
theorem UA(H:bU ⟨w,A,s.h,β⟩){qs:List Nat}{ls:List Ob}(hl:sX s.h qs ls){xs ys:List V}{vs:Array Value}(ha:GD s.h qs xs ys)(hr:∀(i:Nat) (x:V),xs[i]? = some x→∃u,vs[i]? = some u∧Rel ⟨w,A,s.h,β⟩ x u):
  ∀(i:Nat) (y:V),ys[i]? = some y→∃u,vs[i]? = some u∧Rel ⟨w,A,cV ls,nq β qs⟩ y u:=by
 intro i y hy;have bO:i<xs.length:=by rw[ha.1];grind
 have hx:=azS bO;generalize xs[i]=x at hx;obtain⟨u,hu,s5⟩:=hr i x hx;refine⟨u,hu,?_⟩;have BC:∀(j q:Nat) (ob:Ob),qs[j]? = some q→cV ls (500+j)=some ob→s.h q=some ob∧nq β qs (500+j)=β q:=fun j q ob hj ho=>by
  obtain⟨j',he,hj'⟩:=fO ho;have:j'=j:=by omega
  subst this;obtain⟨q',Ni,dT,_,hB⟩:=kj (β:=β) hl hj';grind
 rcases ha.2 i x y hx hy with h1 | ⟨j,q,m,hj,rfl,rfl⟩ | ⟨j,q,m,a,b,hj,rfl,rfl⟩
 ·refine aaA H (h1:=oI s.h qs) (fun o ob ho=>?_) (fun b hb=>?_) (fun o ob b ho hb hm=>?_) s5 h1
  ·grind[oI]
  ·obtain⟨_,q,ob,_,_,h3,h4⟩:=ah0 hl hb
   exact⟨q,ob,h3,h4⟩
  ·obtain⟨j,q,ob',h2,_,h3,h4⟩:=ah0 hl hm
   unfold oI at ho
   split at ho
   ·cases ho
   ·rename_i dU
    have:=H.inj o q ob ob' b ho h3 hb h4;grind
 ·intro ob ho
  obtain⟨h3,h4⟩:=BC j q ob hj ho;have:=s5 ob h3;simp only[h4];exact this
 ·intro ob ho
  obtain⟨h3,h4⟩:=BC j q ob hj ho;have:=s5 ob h3;grind
def uG(qs:List Nat)(p:Nat):Option Nat:=qs.findIdx? (· == p)
theorem TL{qs:List Nat}{p i:Nat}(h:uG qs p=some i):qs[i]? = some p:=by
 unfold uG at h;obtain⟨hi,hp,_⟩:=List.findIdx?_eq_some_iff_getElem.1 h;grind
theorem wS{qs:List Nat}{p:Nat}(h:uG qs p=none):p∉qs:=by
 grind[uG]
def kk(dst:Option Nat)(m:Nat)(qs:List Nat)(outs:List (Option (List (List V))))(p:Nat):Bool:=
 (match dst with | some d=>bc d m p | none=>false) || (match uG qs p with | some i=>(match outs[i]? with | some (some _)=>false | _=>true) | none=>false)
def fg(h:Nat→Option Ob)(dst:Option Nat)(rds:List RD)(qs:List Nat)(ls:List Ob)(outs:List (Option (List (List V)))):Nat→Option Ob:=fun p=>
 match(match dst with | some d=>if bc d rds.length p then some ((p-d) / 1000)else none | none=>none)with
 | some k=>gC rds k
 | none=>match uG qs p with
  | some i=>ik ls outs i
  | none=>(h p).map (Ob.kill (kk dst rds.length qs outs))
def gv(β:Nat→Option Nat)(β':Nat→Option Nat)(dst:Option Nat)(m:Nat):Nat→Option Nat:=fun p=>
 match(match dst with | some d=>if bc d m p then some ((p-d) / 1000)else none | none=>none)with
 | some k=>β' k
 | none=>β p
def St.nt(s:St)(dst:Option Nat)(rds:List RD)(qs:List Nat)(ls:List Ob)(outs:List (Option (List (List V)))):St:=
 St.put ⟨fun i=>(s.t i).kill (kk dst rds.length qs outs),fg s.h dst rds qs ls outs⟩ dst (match dst with | some d=>lh (cq d rds) | none=>.dead)
theorem RB.nt(R:RB w0 I A0 n s a w β A){qs:List Nat}{ls:List Ob}(hl:sX s.h qs ls){rds:List RD}{outs:List (Option (List (List V)))}(aO:∀rd∈rds,rd.ok=true){w':World}{us:List Value}{β':Nat→Option Nat}{A':Nat→Prop}
  (h:CG w A ls (nq β qs) rds outs w' us β' A') (dst:Option Tmp) (hd:∀k,dst=some k→k<n):RR w0 I A0 n (s.nt dst rds qs ls outs) (a.put dst (jE us)) w':=by
 obtain⟨A'',hA⟩:∃A'':Nat→Prop,∀b,A'' b↔(b<w.heap.size∧A b)∨∃k ob,gC rds k=some ob∧β' k=some b:=⟨_,fun _=>Iff.rfl⟩;have lB:∀o ob' b,s.h o=some ob'→β o=some b→b<w.heap.size∧A b:=fun o ob' b ho hb=>by
  have:=R.bZ.ok o ob' ho;simp only at this;rw[hb]at this;exact⟨R.bZ.lt b this.1,this.1⟩
 have V1:∀k ob,gC rds k=some ob→k<500∧eH ls rds outs k=some ob:=fun k ob hk=>by
  have h5:k<500:=by
   have hs:=h.small;unfold gC at hk;grind
  refine⟨h5,?_⟩;grind[eH]
 have hp5:∀i,eH ls rds outs (500+i)=ik ls outs i:=fun i=>by
  grind[eH]
 have Nx:∀b,A'' b→A' b:=fun b hb=>by
  rcases(hA b).1 hb with⟨h1,h2⟩ | ⟨k,ob,h1,h2⟩
  ·exact h.a0 b h1 h2
  ·have:=h.bZ.ok k ob (V1 k ob h1).2
   simp only at this;rw[h2]at this;exact this.1
 have hLB:∀b,(∃i ob,ls[i]? = some ob∧nq β qs (500+i)=some b)→∃q ob,s.h q=some ob∧β q=some b∧q∈qs:=by
  rintro b ⟨i,ob,hi,hb⟩;obtain⟨q,hq,ho,_,hB⟩:=kj (β:=β) hl hi;grind
 have hold:∀b,b<w.heap.size→¬ (∃q ob,s.h q=some ob∧β q=some b∧q∈qs)→w'.heap[b]? = w.heap[b]?:=fun b hb hn=>h.ev.block b hb (fun hI=>hn (hLB b hI))
 have ail:∀p ob b,s.h p=some ob→β p=some b→p∉qs→w'.heap[b]? = w.heap[b]?:=fun p ob b hp hb hn=>hold b (lB p ob b hp hb).1 (by
  rintro⟨q,ob',hq,hbq,hm⟩;have:=R.bZ.inj p q ob ob' b hp hq hb hbq;grind)
 have cls:∀p ob,fg s.h dst rds qs ls outs p=some ob→
   (∃d k,dst=some d∧bc d rds.length p=true∧k=(p-d) / 1000∧gC rds k=some ob∧gv β β' dst rds.length p=β' k)∨
   ((∀d,dst=some d→bc d rds.length p=false)∧gv β β' dst rds.length p=β p∧
    ((∃i bA,uG qs p=some i∧qs[i]? = some p∧ls[i]? = some bA∧s.h p=some bA∧bA.imp=false∧ik ls outs i=some ob∧nq β qs (500+i)=β p)∨
     (uG qs p=none∧∃bA,s.h p=some bA∧ob=bA.kill (kk dst rds.length qs outs)))):=by
  intro p ob hp;have oA:(∀d,dst=some d→bc d rds.length p=false)→(match uG qs p with | some i=>ik ls outs i | none=>(s.h p).map (Ob.kill (kk dst rds.length qs outs)))=some ob→
    ((∃i bA,uG qs p=some i∧qs[i]? = some p∧ls[i]? = some bA∧s.h p=some bA∧bA.imp=false∧ik ls outs i=some ob∧nq β qs (500+i)=β p)∨
     (uG qs p=none∧∃bA,s.h p=some bA∧ob=bA.kill (kk dst rds.length qs outs))):=by
   intro _ hp;cases hi:uG qs p with
   | none=>
    rw[hi]at hp;simp only at hp;refine .inr ⟨rfl,?_⟩;cases hs:s.h p with
    | none=>rw[hs]at hp;cases hp
    | some bA=>rw[hs]at hp;exact⟨bA,rfl,(az9 hp).symm⟩
   | some i=>
    rw[hi]at hp;simp only at hp;have hq:=TL hi;cases TV:ls[i]? with
    | none=>unfold ik at hp;rw[TV]at hp;cases hp
    | some bA=>
     obtain⟨q,Ni,ho,himp,hB⟩:=kj (β:=β) hl TV;rw[hq]at Ni;cases Ni;exact .inl ⟨i,bA,rfl,hq,TV,ho,himp,hp,hB⟩
  cases dst with
  | none=>
   simp only[fg]at hp;exact .inr ⟨fun d h=>(by cases h),rfl,oA (fun d h=>by cases h) hp⟩
  | some d=>
   simp only[fg]at hp;by_cases hK:bc d rds.length p=true
   ·rw[azE hK]at hp
    exact .inl ⟨d,_,rfl,hK,rfl,hp,by simp only[gv,azE hK]⟩
   ·rw[azD hK]at hp
    have hK':∀d',some d=some d'→bc d' rds.length p=false:=fun d' h=>(by grind)
    exact .inr ⟨hK',by simp only[gv,azD hK],oA hK' hp⟩
 have ak3:∀k ob b,gC rds k=some ob→β' k=some b→w.heap.size≤b∨∃q ob,s.h q=some ob∧β q=some b∧q∈qs:=fun k ob b hk hb=>by
  rcases h.own k ob b hk hb with h1 | ⟨i,ob',h1,_,h3⟩
  ·grind
  ·exact .inr (hLB b ⟨i,ob',h1,h3⟩)
 have S:Step ⟨w,A,s.h,β⟩ ⟨w',A'',fg s.h dst rds qs ls outs,gv β β' dst rds.length⟩:=by
  refine⟨fun b hb hM=>hold b hb (fun⟨q,ob,h1,h2,_⟩=>hM ⟨q,ob,h1,h2⟩),h.ev.size,fun b hb hh=>?_,fun b hb hh=>?_⟩
  ·grind
  ·obtain⟨p,ob,hp,yM⟩:=hh
   rcases cls p ob hp with⟨d,k,_,_,_,h4,h5⟩ | ⟨_,h5,⟨i,bA,_,_,_,h4,_⟩ | ⟨_,bA,h4,_⟩⟩
   ·simp only at yM
    rw[h5]at yM;rcases ak3 k ob b h4 yM with h6 | ⟨q,ob',h6,h7,_⟩
    ·grind
    ·exact⟨q,ob',h6,h7⟩
   ·exact⟨p,bA,h4,by simp only at yM;rw[h5]at yM;exact yM⟩
   ·exact⟨p,bA,h4,by simp only at yM;rw[h5]at yM;exact yM⟩
 have hk:∀p,kk dst rds.length qs outs p=false→qJ ⟨w,A,s.h,β⟩ ⟨w',A'',fg s.h dst rds qs ls outs,gv β β' dst rds.length⟩ p:=by
  intro p hp ob' dT;rcases cls p ob' dT with⟨d,k,h1,h2,_⟩ | ⟨_,h5,⟨i,bA,_,_,h3,h4,_,h6,h7⟩ | ⟨h3,bA,h4,h6⟩⟩
  ·grind[kk]
  ·obtain⟨k1,k2,k3⟩:=h.TH i bA ob' h3 h6
   have e:ob'.es=bA.es∧ob'.ty=bA.ty:=by
    grind[ik]
   grind
  ·subst h6
   refine⟨bA,h4,by rw[Ob.dg];exact azJ _,fun _=>⟨h5,Ob.eP _ _,Ob.gU _ _,fun b cur hb hc=>⟨cur,?_,rfl⟩⟩⟩;grind[wS]
 have aP:bU ⟨w',A'',fg s.h dst rds qs ls outs,gv β β' dst rds.length⟩:=by
  refine⟨fun p ob hp=>?_,fun p q tK bE b h1 h2 h3 h4=>?_,fun b hb=>h.bZ.lt b (Nx b hb)⟩
  ·have pure:∀(m:Nat),eH ls rds outs m=some ob→ob.imp=false→(∀b,β' m=some b→A'' b)→si ⟨w',A'',fg s.h dst rds qs ls outs,gv β β' dst rds.length⟩ ob (β' m):=by
    intro m hm himp hAb;have cR:=h.bZ.ok m ob hm;simp only at cR;cases hb:β' m with
    | none=>rw[hb]at cR;exact cR
    | some b=>
     rw[hb]at cR;obtain⟨_,cur,c1,c2,c3,c4⟩:=cR;refine⟨hAb b hb,cur,c1,c2,c3,fun i row hi j x hx=>?_⟩;obtain⟨v,d1,d2,_,d4⟩:=c4 i row hi j x hx;have d5:aY w' A'' x v:=(d4 himp).frame (fun _ _ _=>rfl) (azJ _) (fun b _ hb=>Nx b hb);grind[bw.aN]
   rcases cls p ob hp with⟨d,k,_,_,_,h4,h5⟩ | ⟨_,h5,⟨i,bA,_,_,h3,h4,himp,h6,h7⟩ | ⟨h3,bA,h4,h6⟩⟩
   ·simp only[h5]
    have himp:ob.imp=false:=by
     unfold gC at h4;cases hr:rds[k]? with
     | none=>grind
     | some rd=>cases rd<;>simp[hr,RD.ob]at h4<;>(subst h4;rfl)
    grind
   ·obtain⟨k1,k2,k3⟩:=h.TH i bA ob h3 h6
    grind[ik]
   ·simp only[h5]
    subst h6;have cR:=R.bZ.ok p bA h4;exact si.step R.bZ S _ hk (fun b hb=>⟨ail p bA b h4 hb (wS h3),(hA b).2 (.inl (lB p bA b h4 hb))⟩) cR
  ·have oA:∀p ob,fg s.h dst rds qs ls outs p=some ob→(∀d,dst=some d→bc d rds.length p=false)→∃bA,s.h p=some bA∧gv β β' dst rds.length p=β p∧(p∈qs→∃i,ls[i]?.isSome∧ik ls outs i=some ob∧nq β qs (500+i)=β p):=by
    intro p ob hp hn;rcases cls p ob hp with⟨d,k,h1,h2,_⟩ | ⟨_,h5,⟨i,bA,_,_,h3,h4,_,h6,h7⟩ | ⟨h3,bA,h4,h6⟩⟩
    all_goals grind[wS]
   have mix:∀p q tK bE,fg s.h dst rds qs ls outs p=some tK→fg s.h dst rds qs ls outs q=some bE→gv β β' dst rds.length p=some b→gv β β' dst rds.length q=some b→
     (∃d k,dst=some d∧bc d rds.length p=true∧k=(p-d) / 1000∧gC rds k=some tK∧gv β β' dst rds.length p=β' k)→(∀d,dst=some d→bc d rds.length q=false)→False:=by
    rintro p q tK bE h1 h2 h3 h4 ⟨d,k,_,_,_,e4,e5⟩ hq;obtain⟨bA,g1,g2,g3⟩:=oA q bE h2 hq;rw[e5]at h3;rw[g2]at h4;rcases h.own k tK b e4 h3 with h6 | ⟨i,ob',hi,apW,hb⟩
    ·have:=(lB q bA b g1 h4).1;omega
    ·obtain⟨q',Ni,dT,_,hB⟩:=kj (β:=β) hl hi
     rw[hB]at hb;have:=R.bZ.inj q q' bA ob' b g1 dT h4 hb;subst this;obtain⟨i2,Qc,ho2,nC⟩:=g3 (azO Ni);have hx:(500+i2)=k:=by
      have wv:β' (500+i2)=some b:=by
       obtain⟨sk,atu⟩:=aA1.1 Qc;rw[(h.TH i2 sk bE atu ho2).2.1,nC];exact h4
      exact h.bZ.inj (500+i2) k bE tK b (show eH ls rds outs (500+i2)=some bE by rw[hp5];exact ho2) (V1 k tK e4).2 wv h3
     have:=(V1 k tK e4).1;omega
   by_cases c1:∀d,dst=some d→bc d rds.length p=false
   ·by_cases c2:∀d,dst=some d→bc d rds.length q=false
    ·obtain⟨o1,f1,f2,_⟩:=oA p tK h1 c1
     obtain⟨o2,g1,g2,_⟩:=oA q bE h2 c2;exact R.bZ.inj p q o1 o2 b f1 g1 (show β p=some b by rw[← f2];exact h3) (show β q=some b by rw[← g2];exact h4)
    grind
   ·rcases cls p tK h1 with hr | ⟨hn,_⟩
    ·by_cases c2:∀d,dst=some d→bc d rds.length q=false
     ·grind
     ·rcases cls q bE h2 with F5 | ⟨hn,_⟩
      ·obtain⟨d,k,e1,e2,e3,e4,e5⟩:=hr
       obtain⟨d',k',e1',e2',e3',e4',e5'⟩:=F5;rw[e1]at e1';cases e1';simp only[e5]at h3;simp only[e5']at h4;have hi:=h.bZ.inj k k' tK bE b (V1 k tK e4).2 (V1 k' bE e4').2 h3 h4;have s1:=(dx e2).1;have s2:=(dx e2').1;grind
      grind
    grind
 refine⟨_,_,R.step w' _ A'' (fg s.h dst rds qs ls outs) (kk dst rds.length qs outs) S hk aP (fun b hb hb0=>(hA b).2 (.inl ⟨az3 hb R.ev.size,R.a0 b hb hb0⟩))
  ⟨h.ev.os.trans R.ev.os,h.ev.tape.trans R.ev.tape,h.ev.output.trans R.ev.output,az0 R.ev.size h.ev.size,fun k hk hI=>?_⟩ (fun p ob b hp hb=>?_) (fun p hq hx=>?_) dst hd _ _ ?_⟩
 ·rw[hold k (az3 hk R.ev.size) ?_]
  ·exact R.ev.block k hk hI
  ·rintro⟨q,ob,h1,h2,_⟩
   rcases R.own q ob k h1 h2 with h3 | h3
   all_goals grind
 ·rcases cls p ob hp with⟨d,k,_,_,_,h4,h5⟩ | ⟨_,h5,⟨i,bA,_,_,_,h4,_⟩ | ⟨_,bA,h4,_⟩⟩
  ·rw[h5]at hb
   rcases ak3 k ob b h4 hb with h6 | ⟨q,ob',h6,h7,_⟩
   ·exact .inl (az0 R.ev.size h6)
   ·exact R.own q ob' b h6 h7
  ·rw[h5]at hb;exact R.own p bA b h4 hb
  ·rw[h5]at hb;exact R.own p bA b h4 hb
 ·have hq2:=R.qn p hq
  cases hp:fg s.h dst rds qs ls outs p with
  | none=>rfl
  | some ob=>
   exfalso;rcases cls p ob hp with⟨d,k,h1,h2,_⟩ | ⟨hn,_,⟨i,bA,hi,_,h3,_,_,h6,_⟩ | ⟨hi,_⟩⟩
   ·have h8:=(dx h2).1
    grind
   ·unfold ik at h6
    rw[h3]at h6;unfold kk at hx;grind
   ·unfold kk at hx
    grind
 ·cases dst with
  | none=>trivial
  | some d=>
   have Db:us.length=(cq d rds).length:=by rw[h.len,sP]
   have fQ:∀(k:Nat) (x:V),(cq d rds)[k]? = some x→∃u,us[k]? = some u∧cD ⟨w',A'',fg s.h (some d) rds qs ls outs,gv β β' (some d) rds.length⟩ x u:=by
    intro k x hx;rw[mh]at hx;cases hr:rds[k]? with
    | none=>grind
    | some rd=>
     simp[hr]at hx;subst hx;obtain⟨u,hu,hrel⟩:=h.rel k rd hr;refine⟨u,hu,?_⟩;obtain⟨wV,hk2⟩:=jS (d:=d) (azR.1 hr).1;cases rd with
     | v x=>exact qX (E:=⟨w',A',eH ls rds outs,β'⟩) (aO _ (azO hr)) rfl (fun b _ hb=>Nx b hb) hrel
     | o ty es rows=>
      intro ob cR;simp only[fg,wV,aAo,hk2]at cR;have hr:=hrel ob (V1 k ob cR).2;simp only[gv,wV,aAo,hk2];exact hr
   show Rel _ (lh (cq d rds)) (jE us);generalize cq d rds=xs at Db fQ
   match xs,us with
   | [],[]=>exact⟨#[],rfl,rfl,fun i x hx=>by simp at hx⟩
   | [x],[u]=>
    obtain⟨u',h1,h2⟩:=fQ 0 x rfl;simp at h1;subst h1;exact h2.rel
   | x::y::xs,u::u2::us=>
    refine⟨(u::u2::us).toArray,rfl,by simpa using Db,fun i z hz=>?_⟩;obtain⟨u',h1,h2⟩:=fQ i z hz;exact⟨u',by simpa using h1,h2⟩
   | [],_::_=>simp at Db
   | _::_,[]=>simp at Db
   | [_],_::_::_=>simp at Db
   | _::_::_,[_]=>simp at Db
end
section
variable {P:Program} {n:Nat} {w0:World} {I:rM} {A0:Nat→Prop} {ops:Array Oper}
def aiP(P:Program)(n:Nat)(o:Oper)(Φ:St→Prop)(s:St):Prop:=
 o.guard=none∧dOK n o.dst∧∃g args,gH P o s.ev s.h=.call g args∧∃dk qs ls Pd,FnL P g dk ls Pd∧sX s.h qs ls∧GD s.h qs args dk∧∀rds outs,Pd rds outs→Φ (s.nt o.dst rds qs ls outs)
theorem Lm{o:Oper}{Φ:St→Prop}{K':Act→World→Prop}{Q':Exit→Act→World→Prop}(hK:∀s a w,Φ s→RR w0 I A0 n s a w→K' a w){s:St}{a:Act}{w:World}(hR:RR w0 I A0 n s a w)
  (h:aiP P n o Φ s):if Region.wanted o (yielded ops a.tmps)then o.wp P a w K' Q'∨(o.asks P a w∧LetsOut Q')else K' (a.put o.dst undef) w:=by
 obtain⟨β,A,R⟩:=hR;obtain⟨hg,hd,g,args,ha,dk,qs,ls,Pd,⟨aO,Zy⟩,hl,cZ,hφ⟩:=h;obtain⟨g1,_,_⟩:=kA (ops:=ops) (o:=o) R;rw[azE (g1 (by grind[Ge]))];refine .inl ?_;unfold Oper.wp;obtain⟨vs,e1,e2,e3⟩:=tj R.au o ha;rw[e1];have q2:=UA R.bZ hl cZ (vs:=vs) e3;refine(Zy w A (nq β qs) vs (YL R.bZ hl) (by rw[e2,cZ.1]) q2).mono ?_;rintro e w' ⟨rds,outs,us,β',A',xP,rfl,hp⟩;exact hK _ _ _ (hφ rds outs xP) (R.nt hl (aO rds outs xP) hp o.dst (uZ hd))
theorem BK{q p:Nat}:uG [q] p=if p=q then some 0 else none:=by
 grind[uG]
theorem aap(s:St)(dst:Option Nat)(rds:List RD)(q:Nat)(ob:Ob)(hq:s.h q=some ob)(himp:ob.imp=false)(rows:List (List V)):
  s.nt dst rds [q] [ob] [some rows]=(s.bQ q {ob with rows:=rows }).call dst rds:=by
 have hK:∀m p,kk dst m [q] [some rows] p=(match dst with | some d=>bc d m p | none=>false):=fun m p=>by
  grind[kk,BK]
 have ho:ik [ob] [some rows] 0=some {ob with rows:=rows }:=rfl;cases dst with
 | none=>
  have e:kk none rds.length [q] [some rows]=fun _=>false:=funext fun p=>hK _ p
  simp only[St.nt,St.put,St.call,e,V.bK];unfold St.bQ
  congr 1
  funext p
  simp only[fg,BK,gd,e];by_cases h:p=q
  ·grind
  ·rw[azD h,azD h]
   cases s.h p<;>simp[Ob.bK]
 | some d=>
  have e:kk (some d) rds.length [q] [some rows]=bc d rds.length:=funext fun p=>hK _ p
  simp only[St.nt,St.put,St.call,e]
  congr 1
  funext p
  simp only[fg,ek,BK,St.bQ,gd,e];by_cases hk:bc d rds.length p=true
  ·grind
  ·rw[azD hk,azD hk]
   by_cases h:p=q
   ·rw[azE h,azE h]
    simp only[ho,az7];grind[Ob.kill]
   grind
end
end Go.AL
namespace Go.AL
section
variable {P:Program} {w0:World} {I:rM} {A0:Nat→Prop} {n:Nat} {s:St} {a:Act} {w:World} {β:Nat→Option Nat} {A:Nat→Prop}
end
end Go.AL
