/- By an AI agent. -/
import Derived.Test.YtfggefeflojnkaaGreatAxRen
set_option linter.unusedVariables false
namespace Go.AL
def cW(ls:List Ob)(p:Nat):Option Ob:=if 500≤p then ls[p-500]? else none
def nW(β:Nat→Option Nat)(qs:List Nat)(p:Nat):Option Nat:=if 500≤p then(qs[p-500]?).bind β else none
def gX(ls:List Ob)(outs:List (Option (List (List V))))(i:Nat):Option Ob:=
 match ls[i]?,outs[i]? with
 | some ob,some (some rows)=>some {ob with rows:=rows }
 | _,_=>none
def dV(ls:List Ob)(rds:List RD)(outs:List (Option (List (List V))))(p:Nat):Option Ob:=
 if 500≤p then gX ls outs (p-500)else fC rds p
structure BQ (w:World) (A:Nat→Prop) (ls:List Ob) (β0:Nat→Option Nat) (rds:List RD) (outs:List (Option (List (List V)))) (w':World) (us:List Value) (β':Nat→Option Nat) (A':Nat→Prop):Prop where
 len:us.length=rds.length
 small:rds.length≤500
 cq:cz ⟨w',A',dV ls rds outs,β'⟩
 rel:∀(k:Nat) (rd:RD),rds[k]? = some rd→∃u,us[k]? = some u∧cH ⟨w',A',dV ls rds outs,β'⟩ (rd.val k) u
 a0:∀b,b<w.heap.size→A b→A' b
 ev:Ev w w' (fun b=>∃i ob,ls[i]? = some ob∧β0 (500+i)=some b)
 own:∀k ob b,fC rds k=some ob→β' k=some b→w.heap.size≤b∨∃i ob,ls[i]? = some ob∧gX ls outs i=none∧β0 (500+i)=some b
 Uw:∀i ob ob',ls[i]? = some ob→gX ls outs i=some ob'→ob'.rows.length=ob.rows.length∧β' (500+i)=β0 (500+i)∧
  ∀b cur,β0 (500+i)=some b→w.heap[b]? = some (.cells cur ob.ty (0,0))→∃cur',w'.heap[b]? = some (.cells cur' ob.ty (0,0))∧cur'.size=cur.size
def FnL(P:Program)(f:FuncId)(args:List V)(ls:List Ob)(Pd:List RD→List (Option (List (List V)))→Prop):Prop:=
 (∀rds outs,Pd rds outs→∀rd∈rds,rd.ok=true)∧
 ∀(w:World) (A:Nat→Prop) (β0:Nat→Option Nat) (vs:Array Value),cz ⟨w,A,cW ls,β0⟩→vs.size=args.length→
  (∀(i:Nat) (x:V),args[i]? = some x→∃u,vs[i]? = some u∧Rel ⟨w,A,cW ls,β0⟩ x u)→
  Calls P f vs w fun e w'=>∃rds outs us β' A',Pd rds outs∧e=.returned (jq us)∧BQ w A ls β0 rds outs w' us β' A'
section
variable {w:World} {A:Nat→Prop} {h h1 h':Nat→Option Ob} {β β':Nat→Option Nat}
theorem QE(H:cz ⟨w,A,h,β⟩)(hs:∀o ob,h1 o=some ob→h o=some ob)(hN:∀o ob b,h1 o=some ob→β o=some b→¬ (⟨w,A,h',β'⟩:Env).M b){o n i j j':Nat}{row:List V}{u:Value}(hr:bB ⟨w,A,h,β⟩ (.ptr o n i j) u)
  (ha:∃ob,h1 o=some ob∧n=ob.rows.length∧abQ ob i row∧j'=j):bB ⟨w,A,h',β'⟩ (.cp row j') u:=by
 obtain⟨ob,ho1,hn,hcp,rfl⟩:=ha;have ho:=hs o ob ho1;obtain⟨b,hb,rfl⟩:=(hr ob ho).2 hn;have aX:=H.ok o ob ho;simp only at hb aX;rw[hb]at aX;have cg:=H.lt b aX.1;obtain⟨f,hc⟩:=Bw aX hcp;exact⟨b,i*ob.es,f,rfl,cg,hN o ob b ho1 hb,fun k x hk=>(hc k x hk).1,fun k x hk=>(hc k x hk).2⟩
theorem D3(H:cz ⟨w,A,h,β⟩)(hs:∀o ob,h1 o=some ob→h o=some ob)(hM:∀b,(⟨w,A,h',β'⟩:Env).M b→(⟨w,A,h,β⟩:Env).M b)(hN:∀o ob b,h1 o=some ob→β o=some b→¬ (⟨w,A,h',β'⟩:Env).M b):∀{xs ys:List V},mV h1 xs ys→
  xs.length=ys.length∧∀(i:Nat) (y:V),ys[i]? = some y→∃x,xs[i]? = some x∧∀u,bB ⟨w,A,h,β⟩ x u→bB ⟨w,A,h',β'⟩ y u
 | [],[],_=>⟨rfl,fun i y h=>by simp at h⟩
 | x::xs,y::ys,ha=>by
  obtain⟨e1,e2⟩:=D3 H hs hM hN ha.2;refine⟨by simp[e1],fun i z hz=>?_⟩;cases i with
  | zero=>
   simp at hz;subst hz;refine⟨x,rfl,fun u hu=>?_⟩;have h1:=ha.1;unfold xp at h1
   split at h1
   ·exact QE H hs hN hu h1
   ·obtain⟨rfl,rfl⟩:=h1
    obtain⟨b,off,f,g1,g2,g3,g4,g5⟩:=hu;exact⟨b,off,f,g1,g2,fun h=>g3 (hM b h),g4,g5⟩
   ·obtain⟨rfl,hp,Ib⟩:=h1
    refine bB.aU (E:=⟨w,A,h',β'⟩) (?_:bh w A y u);cases y<;>first | exact hu | (simp[V.pure]at hp;done) | exact absurd rfl (Ib _)
  | succ i=>
   obtain⟨x',h1,h2⟩:=e2 i z (by simpa using hz);exact⟨x',by simpa using h1,h2⟩
 | [],_::_,ha=>ha.elim
 | _::_,[],ha=>ha.elim
theorem ack(H:cz ⟨w,A,h,β⟩)(hs:∀o ob,h1 o=some ob→h o=some ob)(hM:∀b,(⟨w,A,h',β'⟩:Env).M b→(⟨w,A,h,β⟩:Env).M b)(hN:∀o ob b,h1 o=some ob→β o=some b→¬ (⟨w,A,h',β'⟩:Env).M b)
  {x y:V} {u:Value} (hr:Rel ⟨w,A,h,β⟩ x u) (ha:jD h1 x y):Rel ⟨w,A,h',β'⟩ y u:=by
 have XU:∀(X:Nat→Prop) (rows:List (List V)),(∀b,(⟨w,A,h',β'⟩:Env).M b→X b)→gC w A X rows u→Rel ⟨w,A,h',β'⟩ (.rd rows) u:=by
  intro X rows hX hs;rcases hs with h1 | ⟨b,off,cap,es,f,hv,jy,hb,bQ,hc,hrr⟩
  ·exact .inl h1
  ·exact .inr ⟨b,off,cap,es,f,hv,jy,fun ec=>⟨(hb ec).1,fun hm=>(hb ec).2 (hX b hm)⟩,bQ,hc,hrr⟩
 unfold jD at ha
 split at ha
 ·obtain⟨ob,ho1,hn,himp,rfl⟩:=ha
  rename_i o n;have ho:=hs o ob ho1;have h2:=(hr ob ho).2 hn;have aX:=H.ok o ob ho;simp only at h2 aX;cases hb:β o with
  | none=>rw[hb]at h2 aX;exact .inl ⟨⟨_,h2⟩,aX⟩
  | some b=>
   rw[hb]at h2 aX;obtain⟨cap,cur,rfl,h3,h4,h5,h6⟩:=h2;obtain⟨hA,cur',hh,sJ,hlen,iu⟩:=aX;simp only at hh h5 iu;have:cur'=cur:=by rw[h5]at hh;simp at hh;exact hh.symm
   subst this;refine .inr ⟨b,0,cap,ob.es,fun i j=>(cur'[i*ob.es+j]?).getD undef,by rw[hn],by rw[← hn];exact h3,fun _=>⟨H.lt b hA,hN o ob b ho1 hb⟩,sJ,fun i row hi j x hx=>?_,fun i row hi j x hx=>?_⟩
   ·obtain⟨v,c1,_⟩:=iu i row hi j x hx
    rw[aC0,cell_of_row w b _ cur' ob.ty (0,0) hh,c1];simp[c1]
   ·obtain⟨v,c1,_,_,c4⟩:=iu i row hi j x hx
    simp only[c1,aDK];exact c4 himp
 ·subst ha;exact XU _ _ (fun b hb=>H.mA (hM b hb)) (eA hr)
 ·subst ha;exact XU _ _ hM hr
 ·subst ha
  have:u=.slice none 0 0:=by cases hr;rfl
  exact .inl ⟨⟨_,this⟩,rfl⟩
 ·subst ha
  have:u=.slice none 0 0:=by cases hr;rfl
  subst this;exact .slnil _
 ·rename_i cs fj
  obtain⟨vs,rfl,hs,hc⟩:=hr;rcases ha with rfl | ha
  ·exact⟨vs,rfl,hs,hc⟩
  ·obtain⟨hl,hg⟩:=wO ha
   refine⟨vs,rfl,by rw[hs,hl],fun i y hy=>?_⟩;obtain⟨x,hx,hw⟩:=hg i y hy;obtain⟨u,h1,h2⟩:=hc i x hx;exact⟨u,h1,I0 hw h2⟩
 ·exact QE H hs hN hr ha
 ·obtain⟨rfl,rfl⟩:=ha
  obtain⟨b,off,f,g1,g2,g3,g4,g5⟩:=hr;exact⟨b,off,f,g1,g2,fun h=>g3 (hM b h),g4,g5⟩
 ·obtain⟨rfl,ha⟩:=ha
  obtain⟨vs,g1,g2,g3⟩:=hr;obtain⟨e1,e2⟩:=D3 H hs hM hN ha;refine⟨vs,g1,by rw[g2,e1],fun i y hy=>?_⟩;obtain⟨x,hx,uQ⟩:=e2 i y hy;obtain⟨u,u1,u2⟩:=g3 i x hx;exact⟨u,u1,uQ u u2⟩
 ·obtain⟨rfl,hp⟩:=ha
  have:cH ⟨w,A,h,β⟩ y u:=by cases y<;>first | exact hr | (simp[V.pure]at hp)
  exact(rO (E:=⟨w,A,h,β⟩) (E':=⟨w,A,h',β'⟩) hp rfl (fun _ _ h=>h) this).rel
end
def ap8(h1:Nat→Option Ob)(qs:List Nat)(x y:V):Prop:=
 jD h1 x y∨(∃i q n,qs[i]? = some q∧x=.ref q n∧y=.ref (500+i) n)∨(∃i q n a b,qs[i]? = some q∧x=.ptr q n a b∧y=.ptr (500+i) n a b)
def oX(h:Nat→Option Ob)(qs:List Nat)(p:Nat):Option Ob:=if p∈qs then none else h p
def Gr(h:Nat→Option Ob)(qs:List Nat)(xs ys:List V):Prop:=xs.length=ys.length∧∀(i:Nat) (x y:V),xs[i]? = some x→ys[i]? = some y→ap8 (oX h qs) qs x y
def tm(h:Nat→Option Ob)(qs:List Nat)(ls:List Ob):Prop:=qs.Nodup∧qs.length=ls.length∧∀(i:Nat) (q:Nat) (ob:Ob),qs[i]? = some q→ls[i]? = some ob→h q=some ob∧ob.imp=false
section
variable {P:Program} {w0:World} {I:sy} {A0:Nat→Prop} {n:Nat} {s:St} {a:Act} {w:World} {β:Nat→Option Nat} {A:Nat→Prop}
theorem kf{h:Nat→Option Ob}{qs:List Nat}{ls:List Ob}(hl:tm h qs ls){i:Nat}{ob:Ob}(hi:ls[i]? = some ob):∃q,qs[i]? = some q∧h q=some ob∧ob.imp=false∧nW β qs (500+i)=β q:=by
 have cg:i<qs.length:=by rw[hl.2.1];exact(aCD.1 hi).1
 refine⟨qs[i],aCF cg,(hl.2.2 i _ ob (aCF cg) hi).1,(hl.2.2 i _ ob (aCF cg) hi).2,?_⟩;simp only[nW,Nat.le_add_right,aC5,aEM,aCF cg,aDd]
theorem fQ{ls:List Ob}{p:Nat}{ob:Ob}(h:cW ls p=some ob):∃i,p=500+i∧ls[i]? = some ob:=by
 unfold cW at h
 split at h
 ·exact⟨p-500,by omega,h⟩
 ·cases h
theorem aak(H:cz ⟨w,A,s.h,β⟩){qs:List Nat}{ls:List Ob}(hl:tm s.h qs ls):cz ⟨w,A,cW ls,nW β qs⟩:=by
 refine⟨fun p ob hp=>?_,fun p p' ob ob' b hp hp' hb jb=>?_,H.lt⟩
 ·obtain⟨i,rfl,hi⟩:=fQ hp
  obtain⟨q,hq,ho,himp,hB⟩:=kf (β:=β) hl hi;have:=H.ok q ob ho;simp only[hB]at this ⊢;cases hb:β q with
  | none=>rw[hb]at this;exact this
  | some b=>
   rw[hb]at this;obtain⟨c1,cur,c2,c3,c4,c5⟩:=this;refine⟨c1,cur,c2,c3,c4,fun i row hi j x hx=>?_⟩;obtain⟨v,d1,d2,_,d4⟩:=c5 i row hi j x hx;exact⟨v,d1,d2,bB.aU (d4 himp),d4⟩
 ·obtain⟨i,rfl,hi⟩:=fQ hp
  obtain⟨i',rfl,kh⟩:=fQ hp';obtain⟨q,hq,ho,_,hB⟩:=kf (β:=β) hl hi;obtain⟨q',NC,dW,_,hB'⟩:=kf (β:=β) hl kh;simp only[hB]at hb;simp only[hB']at jb;have e:=H.inj q q' ob ob' b ho dW hb jb;subst e;have h1:=aCD.1 hq;have h2:=aCD.1 NC;have:=(List.getElem_inj (h₀:=h1.1) (h₁:=h2.1) hl.1).1 (h1.2.trans h2.2.symm);rw[this]
theorem akI{qs:List Nat}{ls:List Ob}(hl:tm s.h qs ls){b:Nat}(hm:(⟨w,A,cW ls,nW β qs⟩:Env).M b):∃(i q:Nat) (ob:Ob),qs[i]? = some q∧ls[i]? = some ob∧s.h q=some ob∧β q=some b:=by
 obtain⟨p,ob,hp,hb⟩:=hm;obtain⟨i,rfl,hi⟩:=fQ hp;obtain⟨q,hq,ho,_,hB⟩:=kf (β:=β) hl hi;exact⟨i,q,ob,hq,hi,ho,by simp only[hB]at hb;exact hb⟩
theorem Vs(H:cz ⟨w,A,s.h,β⟩){qs:List Nat}{ls:List Ob}(hl:tm s.h qs ls){xs ys:List V}{vs:Array Value}(ha:Gr s.h qs xs ys)(hr:∀(i:Nat) (x:V),xs[i]? = some x→∃u,vs[i]? = some u∧Rel ⟨w,A,s.h,β⟩ x u):
  ∀(i:Nat) (y:V),ys[i]? = some y→∃u,vs[i]? = some u∧Rel ⟨w,A,cW ls,nW β qs⟩ y u:=by
 intro i y hy;have cg:i<xs.length:=by rw[ha.1];exact(aCD.1 hy).1
 have hx:=aCF cg;generalize xs[i]=x at hx;obtain⟨u,hu,sH⟩:=hr i x hx;refine⟨u,hu,?_⟩;have A7:∀(j q:Nat) (ob:Ob),qs[j]? = some q→cW ls (500+j)=some ob→s.h q=some ob∧nW β qs (500+j)=β q:=fun j q ob hj ho=>by
  obtain⟨j',he,hj'⟩:=fQ ho;have:j'=j:=by omega
  subst this;obtain⟨q',NC,dW,_,hB⟩:=kf (β:=β) hl hj';rw[hj]at NC;cases NC;exact⟨dW,hB⟩
 rcases ha.2 i x y hx hy with h1 | ⟨j,q,m,hj,rfl,rfl⟩ | ⟨j,q,m,a,b,hj,rfl,rfl⟩
 ·refine ack H (h1:=oX s.h qs) (fun o ob ho=>?_) (fun b hb=>?_) (fun o ob b ho hb hm=>?_) sH h1
  ·unfold oX at ho;split at ho
   ·cases ho
   ·exact ho
  ·obtain⟨_,q,ob,_,_,h3,h4⟩:=akI hl hb
   exact⟨q,ob,h3,h4⟩
  ·obtain⟨j,q,ob',h2,_,h3,h4⟩:=akI hl hm
   unfold oX at ho
   split at ho
   ·cases ho
   ·rename_i ec
    have:=H.inj o q ob ob' b ho h3 hb h4;subst this;exact ec (aCC h2)
 ·intro ob ho
  obtain⟨h3,h4⟩:=A7 j q ob hj ho;have:=sH ob h3;simp only[h4];exact this
 ·intro ob ho
  obtain⟨h3,h4⟩:=A7 j q ob hj ho;have:=sH ob h3;simp only[h4];exact this
def uP(qs:List Nat)(p:Nat):Option Nat:=qs.findIdx? (· == p)
theorem UA{qs:List Nat}{p i:Nat}(h:uP qs p=some i):qs[i]? = some p:=by
 unfold uP at h;obtain⟨hi,hp,_⟩:=List.findIdx?_eq_some_iff_getElem.1 h;rw[aCF hi];simpa using hp
theorem xf{qs:List Nat}{p:Nat}(h:uP qs p=none):p∉qs:=by
 unfold uP at h;intro hm;have:=List.findIdx?_eq_none_iff.1 h p hm;simp at this
def kg(dst:Option Nat)(m:Nat)(qs:List Nat)(outs:List (Option (List (List V))))(p:Nat):Bool:=
 (match dst with | some d=>bq d m p | none=>false) || (match uP qs p with | some i=>(match outs[i]? with | some (some _)=>false | _=>true) | none=>false)
def eP(h:Nat→Option Ob)(dst:Option Nat)(rds:List RD)(qs:List Nat)(ls:List Ob)(outs:List (Option (List (List V)))):Nat→Option Ob:=fun p=>
 match(match dst with | some d=>if bq d rds.length p then some ((p-d) / 1000)else none | none=>none)with
 | some k=>fC rds k
 | none=>match uP qs p with
  | some i=>gX ls outs i
  | none=>(h p).map (Ob.kill (kg dst rds.length qs outs))
def fU(β:Nat→Option Nat)(β':Nat→Option Nat)(dst:Option Nat)(m:Nat):Nat→Option Nat:=fun p=>
 match(match dst with | some d=>if bq d m p then some ((p-d) / 1000)else none | none=>none)with
 | some k=>β' k
 | none=>β p
def St.nX(s:St)(dst:Option Nat)(rds:List RD)(qs:List Nat)(ls:List Ob)(outs:List (Option (List (List V)))):St:=
 St.put ⟨fun i=>(s.t i).kill (kg dst rds.length qs outs),eP s.h dst rds qs ls outs⟩ dst (match dst with | some d=>lB (cG d rds) | none=>.dead)
theorem RB.nX(R:RB w0 I A0 n s a w β A){qs:List Nat}{ls:List Ob}(hl:tm s.h qs ls){rds:List RD}{outs:List (Option (List (List V)))}(aX:∀rd∈rds,rd.ok=true){w':World}{us:List Value}{β':Nat→Option Nat}{A':Nat→Prop}
  (h:BQ w A ls (nW β qs) rds outs w' us β' A') (dst:Option Tmp) (hd:∀k,dst=some k→k<n):RR w0 I A0 n (s.nX dst rds qs ls outs) (a.put dst (jq us)) w':=by
 obtain⟨A'',hA⟩:∃A'':Nat→Prop,∀b,A'' b↔(b<w.heap.size∧A b)∨∃k ob,fC rds k=some ob∧β' k=some b:=⟨_,fun _=>Iff.rfl⟩;have lH:∀o ob' b,s.h o=some ob'→β o=some b→b<w.heap.size∧A b:=fun o ob' b ho hb=>by
  have:=R.cq.ok o ob' ho;simp only at this;rw[hb]at this;exact⟨R.cq.lt b this.1,this.1⟩
 have NI:∀k ob,fC rds k=some ob→k<500∧dV ls rds outs k=some ob:=fun k ob hk=>by
  have h5:k<500:=by
   have hs:=h.small;unfold fC at hk;cases hr:rds[k]? with
   | none=>simp[hr]at hk
   | some rd=>have:=(aCD.1 hr).1;omega
  refine⟨h5,?_⟩;unfold dV;rw[aCo (by omega)];exact hk
 have hp5:∀i,dV ls rds outs (500+i)=gX ls outs i:=fun i=>by
  unfold dV;rw[aCr (by omega),aEM]
 have FL:∀b,A'' b→A' b:=fun b hb=>by
  rcases(hA b).1 hb with⟨h1,h2⟩ | ⟨k,ob,h1,h2⟩
  ·exact h.a0 b h1 h2
  ·have:=h.cq.ok k ob (NI k ob h1).2
   simp only at this;rw[h2]at this;exact this.1
 have hLB:∀b,(∃i ob,ls[i]? = some ob∧nW β qs (500+i)=some b)→∃q ob,s.h q=some ob∧β q=some b∧q∈qs:=by
  rintro b ⟨i,ob,hi,hb⟩;obtain⟨q,hq,ho,_,hB⟩:=kf (β:=β) hl hi;exact⟨q,ob,ho,by rw[← hB];exact hb,aCC hq⟩
 have hold:∀b,b<w.heap.size→¬ (∃q ob,s.h q=some ob∧β q=some b∧q∈qs)→w'.heap[b]? = w.heap[b]?:=fun b hb hn=>h.ev.block b hb (fun hI=>hn (hLB b hI))
 have akZ:∀p ob b,s.h p=some ob→β p=some b→p∉qs→w'.heap[b]? = w.heap[b]?:=fun p ob b hp hb hn=>hold b (lH p ob b hp hb).1 (by
  rintro⟨q,ob',hq,hbq,hm⟩;have:=R.cq.inj p q ob ob' b hp hq hb hbq;subst this;exact hn hm)
 have cls:∀p ob,eP s.h dst rds qs ls outs p=some ob→
   (∃d k,dst=some d∧bq d rds.length p=true∧k=(p-d) / 1000∧fC rds k=some ob∧fU β β' dst rds.length p=β' k)∨
   ((∀d,dst=some d→bq d rds.length p=false)∧fU β β' dst rds.length p=β p∧
    ((∃i bG,uP qs p=some i∧qs[i]? = some p∧ls[i]? = some bG∧s.h p=some bG∧bG.imp=false∧gX ls outs i=some ob∧nW β qs (500+i)=β p)∨
     (uP qs p=none∧∃bG,s.h p=some bG∧ob=bG.kill (kg dst rds.length qs outs)))):=by
  intro p ob hp;have sT:(∀d,dst=some d→bq d rds.length p=false)→(match uP qs p with | some i=>gX ls outs i | none=>(s.h p).map (Ob.kill (kg dst rds.length qs outs)))=some ob→
    ((∃i bG,uP qs p=some i∧qs[i]? = some p∧ls[i]? = some bG∧s.h p=some bG∧bG.imp=false∧gX ls outs i=some ob∧nW β qs (500+i)=β p)∨
     (uP qs p=none∧∃bG,s.h p=some bG∧ob=bG.kill (kg dst rds.length qs outs))):=by
   intro _ hp;cases hi:uP qs p with
   | none=>
    rw[hi]at hp;simp only at hp;refine .inr ⟨rfl,?_⟩;cases hs:s.h p with
    | none=>rw[hs]at hp;cases hp
    | some bG=>rw[hs]at hp;exact⟨bG,rfl,(aDb hp).symm⟩
   | some i=>
    rw[hi]at hp;simp only at hp;have hq:=UA hi;cases UJ:ls[i]? with
    | none=>unfold gX at hp;rw[UJ]at hp;cases hp
    | some bG=>
     obtain⟨q,NC,ho,himp,hB⟩:=kf (β:=β) hl UJ;rw[hq]at NC;cases NC;exact .inl ⟨i,bG,rfl,hq,UJ,ho,himp,hp,hB⟩
  cases dst with
  | none=>
   simp only[eP]at hp;exact .inr ⟨fun d h=>(by cases h),rfl,sT (fun d h=>by cases h) hp⟩
  | some d=>
   simp only[eP]at hp;by_cases hK:bq d rds.length p=true
   ·rw[aCr hK]at hp
    exact .inl ⟨d,_,rfl,hK,rfl,hp,by simp only[fU,aCr hK]⟩
   ·rw[aCo hK]at hp
    have hK':∀d',some d=some d'→bq d' rds.length p=false:=fun d' h=>(by cases h;simpa using hK)
    exact .inr ⟨hK',by simp only[fU,aCo hK],sT hK' hp⟩
 have anN:∀k ob b,fC rds k=some ob→β' k=some b→w.heap.size≤b∨∃q ob,s.h q=some ob∧β q=some b∧q∈qs:=fun k ob b hk hb=>by
  rcases h.own k ob b hk hb with h1 | ⟨i,ob',h1,_,h3⟩
  ·exact .inl h1
  ·exact .inr (hLB b ⟨i,ob',h1,h3⟩)
 have S:Step ⟨w,A,s.h,β⟩ ⟨w',A'',eP s.h dst rds qs ls outs,fU β β' dst rds.length⟩:=by
  refine⟨fun b hb hM=>hold b hb (fun⟨q,ob,h1,h2,_⟩=>hM ⟨q,ob,h1,h2⟩),h.ev.size,fun b hb hh=>?_,fun b hb hh=>?_⟩
  ·rcases(hA b).1 hh with⟨_,h2⟩ | ⟨k,ob,h1,h2⟩
   ·exact h2
   ·rcases anN k ob b h1 h2 with h3 | ⟨q,ob',h3,h4,_⟩
    ·simp only at hb;omega
    ·exact(lH q ob' b h3 h4).2
  ·obtain⟨p,ob,hp,yX⟩:=hh
   rcases cls p ob hp with⟨d,k,_,_,_,h4,h5⟩ | ⟨_,h5,⟨i,bG,_,_,_,h4,_⟩ | ⟨_,bG,h4,_⟩⟩
   ·simp only at yX
    rw[h5]at yX;rcases anN k ob b h4 yX with h6 | ⟨q,ob',h6,h7,_⟩
    ·simp only at hb;omega
    ·exact⟨q,ob',h6,h7⟩
   ·exact⟨p,bG,h4,by simp only at yX;rw[h5]at yX;exact yX⟩
   ·exact⟨p,bG,h4,by simp only at yX;rw[h5]at yX;exact yX⟩
 have hk:∀p,kg dst rds.length qs outs p=false→rz ⟨w,A,s.h,β⟩ ⟨w',A'',eP s.h dst rds qs ls outs,fU β β' dst rds.length⟩ p:=by
  intro p hp ob' dW;rcases cls p ob' dW with⟨d,k,h1,h2,_⟩ | ⟨_,h5,⟨i,bG,_,_,h3,h4,_,h6,h7⟩ | ⟨h3,bG,h4,h6⟩⟩
  ·subst h1
   simp only[kg,h2,Bool.true_or]at hp;cases hp
  ·obtain⟨k1,k2,k3⟩:=h.Uw i bG ob' h3 h6
   have e:ob'.es=bG.es∧ob'.ty=bG.ty:=by
    unfold gX at h6;rw[h3]at h6
    split at h6
    ·rename_i ob rows q1 q2
     cases q1;cases h6;exact⟨rfl,rfl⟩
    ·cases h6
   exact⟨bG,h4,by rw[k1];exact aCt _,fun _=>⟨h5,e.1,e.2,fun b cur hb hc=>k3 b cur (by rw[h7];exact hb) hc⟩⟩
  ·subst h6
   refine⟨bG,h4,by rw[Ob.dm];exact aCt _,fun _=>⟨h5,Ob.eQ _ _,Ob.gP _ _,fun b cur hb hc=>⟨cur,?_,rfl⟩⟩⟩;simp only at hb hc ⊢;rw[akZ p bG b h4 hb (xf h3)];exact hc
 have aZ:cz ⟨w',A'',eP s.h dst rds qs ls outs,fU β β' dst rds.length⟩:=by
  refine⟨fun p ob hp=>?_,fun p q tZ bM b h1 h2 h3 h4=>?_,fun b hb=>h.cq.lt b (FL b hb)⟩
  ·have pure:∀(m:Nat),dV ls rds outs m=some ob→ob.imp=false→(∀b,β' m=some b→A'' b)→sR ⟨w',A'',eP s.h dst rds qs ls outs,fU β β' dst rds.length⟩ ob (β' m):=by
    intro m hm himp hAb;have cA:=h.cq.ok m ob hm;simp only at cA;cases hb:β' m with
    | none=>rw[hb]at cA;exact cA
    | some b=>
     rw[hb]at cA;obtain⟨_,cur,c1,c2,c3,c4⟩:=cA;refine⟨hAb b hb,cur,c1,c2,c3,fun i row hi j x hx=>?_⟩;obtain⟨v,d1,d2,_,d4⟩:=c4 i row hi j x hx;have d5:bh w' A'' x v:=(d4 himp).frame (fun _ _ _=>rfl) (aCt _) (fun b _ hb=>FL b hb);exact⟨v,d1,d2,bB.aU d5,fun _=>d5⟩
   rcases cls p ob hp with⟨d,k,_,_,_,h4,h5⟩ | ⟨_,h5,⟨i,bG,_,_,h3,h4,himp,h6,h7⟩ | ⟨h3,bG,h4,h6⟩⟩
   ·simp only[h5]
    have himp:ob.imp=false:=by
     unfold fC at h4;cases hr:rds[k]? with
     | none=>simp[hr]at h4
     | some rd=>cases rd<;>simp[hr,RD.ob]at h4<;>(subst h4;rfl)
    exact pure k (NI k ob h4).2 himp (fun b hb=>(hA b).2 (.inr ⟨k,ob,h4,hb⟩))
   ·obtain⟨k1,k2,k3⟩:=h.Uw i bG ob h3 h6
    have e:ob.imp=bG.imp:=by
     unfold gX at h6;rw[h3]at h6
     split at h6
     ·rename_i ob rows q1 q2
      cases q1;cases h6;rfl
     ·cases h6
    have:=pure (500+i) (by rw[hp5];exact h6) (by rw[e];exact himp) (fun b hb=>by
     rw[k2,h7]at hb;have:=lH p bG b h4 hb;exact(hA b).2 (.inl this))
    rw[k2,h7]at this;simp only[h5];exact this
   ·simp only[h5]
    subst h6;have cA:=R.cq.ok p bG h4;exact sR.step R.cq S _ hk (fun b hb=>⟨akZ p bG b h4 hb (xf h3),(hA b).2 (.inl (lH p bG b h4 hb))⟩) cA
  ·have sT:∀p ob,eP s.h dst rds qs ls outs p=some ob→(∀d,dst=some d→bq d rds.length p=false)→∃bG,s.h p=some bG∧fU β β' dst rds.length p=β p∧(p∈qs→∃i,ls[i]?.isSome∧gX ls outs i=some ob∧nW β qs (500+i)=β p):=by
    intro p ob hp hn;rcases cls p ob hp with⟨d,k,h1,h2,_⟩ | ⟨_,h5,⟨i,bG,_,_,h3,h4,_,h6,h7⟩ | ⟨h3,bG,h4,h6⟩⟩
    ·rw[hn d h1]at h2;cases h2
    ·exact⟨bG,h4,h5,fun _=>⟨i,by rw[h3];rfl,h6,h7⟩⟩
    ·exact⟨bG,h4,h5,fun hm=>absurd hm (xf h3)⟩
   have mix:∀p q tZ bM,eP s.h dst rds qs ls outs p=some tZ→eP s.h dst rds qs ls outs q=some bM→fU β β' dst rds.length p=some b→fU β β' dst rds.length q=some b→
     (∃d k,dst=some d∧bq d rds.length p=true∧k=(p-d) / 1000∧fC rds k=some tZ∧fU β β' dst rds.length p=β' k)→(∀d,dst=some d→bq d rds.length q=false)→False:=by
    rintro p q tZ bM h1 h2 h3 h4 ⟨d,k,_,_,_,e4,e5⟩ hq;obtain⟨bG,g1,g2,g3⟩:=sT q bM h2 hq;rw[e5]at h3;rw[g2]at h4;rcases h.own k tZ b e4 h3 with h6 | ⟨i,ob',hi,asP,hb⟩
    ·have:=(lH q bG b g1 h4).1;omega
    ·obtain⟨q',NC,dW,_,hB⟩:=kf (β:=β) hl hi
     rw[hB]at hb;have:=R.cq.inj q q' bG ob' b g1 dW h4 hb;subst this;obtain⟨i2,Rf,ho2,Bk⟩:=g3 (aCC NC);have hx:(500+i2)=k:=by
      have oY:β' (500+i2)=some b:=by
       obtain⟨CE,awb⟩:=aDS.1 Rf;rw[(h.Uw i2 CE bM awb ho2).2.1,Bk];exact h4
      exact h.cq.inj (500+i2) k bM tZ b (show dV ls rds outs (500+i2)=some bM by rw[hp5];exact ho2) (NI k tZ e4).2 oY h3
     have:=(NI k tZ e4).1;omega
   by_cases c1:∀d,dst=some d→bq d rds.length p=false
   ·by_cases c2:∀d,dst=some d→bq d rds.length q=false
    ·obtain⟨o1,f1,f2,_⟩:=sT p tZ h1 c1
     obtain⟨o2,g1,g2,_⟩:=sT q bM h2 c2;exact R.cq.inj p q o1 o2 b f1 g1 (show β p=some b by rw[← f2];exact h3) (show β q=some b by rw[← g2];exact h4)
    ·rcases cls q bM h2 with hr | ⟨hn,_⟩
     ·exact(mix q p bM tZ h2 h1 h4 h3 hr c1).elim
     ·exact absurd hn c2
   ·rcases cls p tZ h1 with hr | ⟨hn,_⟩
    ·by_cases c2:∀d,dst=some d→bq d rds.length q=false
     ·exact(mix p q tZ bM h1 h2 h3 h4 hr c2).elim
     ·rcases cls q bM h2 with FF | ⟨hn,_⟩
      ·obtain⟨d,k,e1,e2,e3,e4,e5⟩:=hr
       obtain⟨d',k',e1',e2',e3',e4',e5'⟩:=FF;rw[e1]at e1';cases e1';simp only[e5]at h3;simp only[e5']at h4;have hi:=h.cq.inj k k' tZ bM b (NI k tZ e4).2 (NI k' bM e4').2 h3 h4;have s1:=(dw e2).1;have s2:=(dw e2').1;rw[s1,s2,← e3,← e3',hi]
      ·exact absurd hn c2
    ·exact absurd hn c1
 refine⟨_,_,R.step w' _ A'' (eP s.h dst rds qs ls outs) (kg dst rds.length qs outs) S hk aZ (fun b hb hb0=>(hA b).2 (.inl ⟨aCP hb R.ev.size,R.a0 b hb hb0⟩))
  ⟨h.ev.os.trans R.ev.os,h.ev.tape.trans R.ev.tape,h.ev.output.trans R.ev.output,aCO R.ev.size h.ev.size,fun k hk hI=>?_⟩ (fun p ob b hp hb=>?_) (fun p hq hx=>?_) dst hd _ _ ?_⟩
 ·rw[hold k (aCP hk R.ev.size) ?_]
  ·exact R.ev.block k hk hI
  ·rintro⟨q,ob,h1,h2,_⟩
   rcases R.own q ob k h1 h2 with h3 | h3
   ·omega
   ·exact hI h3
 ·rcases cls p ob hp with⟨d,k,_,_,_,h4,h5⟩ | ⟨_,h5,⟨i,bG,_,_,_,h4,_⟩ | ⟨_,bG,h4,_⟩⟩
  ·rw[h5]at hb
   rcases anN k ob b h4 hb with h6 | ⟨q,ob',h6,h7,_⟩
   ·exact .inl (aCO R.ev.size h6)
   ·exact R.own q ob' b h6 h7
  ·rw[h5]at hb;exact R.own p bG b h4 hb
  ·rw[h5]at hb;exact R.own p bG b h4 hb
 ·have hq2:=R.qn p hq
  cases hp:eP s.h dst rds qs ls outs p with
  | none=>rfl
  | some ob=>
   exfalso;rcases cls p ob hp with⟨d,k,h1,h2,_⟩ | ⟨hn,_,⟨i,bG,hi,_,h3,_,_,h6,_⟩ | ⟨hi,_⟩⟩
   ·have h8:=(dw h2).1
    have h9:=hd d h1;generalize (p-d) / 1000=c at h8;have h10:c=0:=by omega
    subst h10;have h11:n≤p:=hq2.1;rw[h8]at h11;exact absurd (aCP h9 h11) (by simp)
   ·unfold gX at h6
    rw[h3]at h6;unfold kg at hx;rw[hi]at hx
    split at h6
    ·rename_i q1 q2
     cases dst with
     | none=>simp[q2]at hx
     | some d=>simp[q2,hn d rfl]at hx
    ·cases h6
   ·unfold kg at hx
    rw[hi]at hx;cases dst with
    | none=>simp at hx
    | some d=>simp[hn d rfl]at hx
 ·cases dst with
  | none=>trivial
  | some d=>
   have CH:us.length=(cG d rds).length:=by rw[h.len,tg]
   have fS:∀(k:Nat) (x:V),(cG d rds)[k]? = some x→∃u,us[k]? = some u∧cH ⟨w',A'',eP s.h (some d) rds qs ls outs,fU β β' (some d) rds.length⟩ x u:=by
    intro k x hx;rw[mN]at hx;cases hr:rds[k]? with
    | none=>simp[hr]at hx
    | some rd=>
     simp[hr]at hx;subst hx;obtain⟨u,hu,hrel⟩:=h.rel k rd hr;refine⟨u,hu,?_⟩;obtain⟨xi,KA⟩:=ib (d:=d) (aCD.1 hr).1;cases rd with
     | v x=>exact rO (E:=⟨w',A',dV ls rds outs,β'⟩) (aX _ (aCC hr)) rfl (fun b _ hb=>FL b hb) hrel
     | o ty es rows=>
      intro ob cA;simp only[eP,xi,aC5,KA]at cA;have hr:=hrel ob (NI k ob cA).2;simp only[fU,xi,aC5,KA];exact hr
     | a ty es rows pre post=>
      refine Zy (aX _ (aCC hr)) (fun y v h=>h.frame (fun _ _ _=>rfl) (aCt _) (fun b _ hb=>FL b hb)) (fun v hv=>?_) hrel;intro ob cA;simp only[eP,xi,aC5,KA]at cA;have hr:=hv ob (NI k ob cA).2;simp only[fU,xi,aC5,KA];exact hr
   show Rel _ (lB (cG d rds)) (jq us);generalize cG d rds=xs at CH fS
   match xs,us with
   | [],[]=>exact⟨#[],rfl,rfl,fun i x hx=>by simp at hx⟩
   | [x],[u]=>
    obtain⟨u',h1,h2⟩:=fS 0 x rfl;simp at h1;subst h1;exact h2.rel
   | x::y::xs,u::u2::us=>
    refine⟨(u::u2::us).toArray,rfl,by simpa using CH,fun i z hz=>?_⟩;obtain⟨u',h1,h2⟩:=fS i z hz;exact⟨u',by simpa using h1,h2⟩
   | [],_::_=>simp at CH
   | _::_,[]=>simp at CH
   | [_],_::_::_=>simp at CH
   | _::_::_,[_]=>simp at CH
end
section
variable {P:Program} {n:Nat} {w0:World} {I:sy} {A0:Nat→Prop} {ops:Array Oper}
def alv(P:Program)(n:Nat)(o:Oper)(Φ:St→Prop)(s:St):Prop:=
 o.guard=none∧dOK n o.dst∧∃g args,gF P o s.ev s.h=.call g args∧∃dp qs ls Pd,FnL P g dp ls Pd∧tm s.h qs ls∧Gr s.h qs args dp∧∀rds outs,Pd rds outs→Φ (s.nX o.dst rds qs ls outs)
theorem LC{o:Oper}{Φ:St→Prop}{K':Act→World→Prop}{Q':Exit→Act→World→Prop}(hK:∀s a w,Φ s→RR w0 I A0 n s a w→K' a w){s:St}{a:Act}{w:World}(hR:RR w0 I A0 n s a w)
  (h:alv P n o Φ s):if Region.wanted o (yielded ops a.tmps)then o.wp P a w K' Q'∨(o.asks P a w∧LetsOut Q')else K' (a.put o.dst undef) w:=by
 obtain⟨β,A,R⟩:=hR;obtain⟨hg,hd,g,args,ha,dp,qs,ls,Pd,⟨aX,aa6⟩,hl,dd,hφ⟩:=h;obtain⟨g1,_,_⟩:=kG (ops:=ops) (o:=o) R;rw[aCr (g1 (by unfold FM;rw[hg]))];refine .inl ?_;unfold Oper.wp;obtain⟨vs,e1,e2,e3⟩:=tF R.ai o ha;rw[e1];have q2:=Vs R.cq hl dd (vs:=vs) e3;refine(aa6 w A (nW β qs) vs (aak R.cq hl) (by rw[e2,dd.1]) q2).mono ?_;rintro e w' ⟨rds,outs,us,β',A',xQ,rfl,hp⟩;exact hK _ _ _ (hφ rds outs xQ) (R.nX hl (aX rds outs xQ) hp o.dst (vj hd))
theorem Bd{q p:Nat}:uP [q] p=if p=q then some 0 else none:=by
 simp only[uP,List.findIdx?_cons,List.findIdx?_nil];by_cases h:q=p
 ·subst h;simp
 ·have:¬ p=q:=fun e=>h e.symm
  simp[h,this]
theorem acb(s:St)(dst:Option Nat)(rds:List RD)(q:Nat)(ob:Ob)(hq:s.h q=some ob)(himp:ob.imp=false)(rows:List (List V)):
  s.nX dst rds [q] [ob] [some rows]=(s.ca q {ob with rows:=rows }).call dst rds:=by
 have hK:∀m p,kg dst m [q] [some rows] p=(match dst with | some d=>bq d m p | none=>false):=fun m p=>by
  simp only[kg,Bd];by_cases h:p=q
  ·simp[h]
  ·simp[h]
 have ho:gX [ob] [some rows] 0=some {ob with rows:=rows }:=rfl;cases dst with
 | none=>
  have e:kg none rds.length [q] [some rows]=fun _=>false:=funext fun p=>hK _ p
  simp only[St.nX,St.put,St.call,e,V.bV];unfold St.ca
  congr 1
  funext p
  simp only[eP,Bd,gi,e];by_cases h:p=q
  ·rw[aCr h,aCr h];exact ho
  ·rw[aCo h,aCo h]
   cases s.h p<;>simp[Ob.bV]
 | some d=>
  have e:kg (some d) rds.length [q] [some rows]=bq d rds.length:=funext fun p=>hK _ p
  simp only[St.nX,St.put,St.call,e]
  congr 1
  funext p
  simp only[eP,ek,Bd,St.ca,gi,e];by_cases hk:bq d rds.length p=true
  ·rw[aCr hk,aCr hk]
  ·rw[aCo hk,aCo hk]
   by_cases h:p=q
   ·rw[aCr h,aCr h]
    simp only[ho,aCU];simp[Ob.kill,himp]
   ·rw[aCo h,aCo h]
end
end Go.AL
namespace Go.AL
section
variable {P:Program} {w0:World} {I:sy} {A0:Nat→Prop} {n:Nat} {s:St} {a:Act} {w:World} {β:Nat→Option Nat} {A:Nat→Prop}
end
end Go.AL
