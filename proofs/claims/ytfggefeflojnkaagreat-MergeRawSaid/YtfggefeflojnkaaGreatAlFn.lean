/- By an AI agent. -/
import Derived.Test.YtfggefeflojnkaaGreatAlDraw6
set_option linter.unusedSimpArgs false
set_option linter.unusedVariables false
namespace Go.AL
def Bq(P:Program)(s:St):List ResultVar→(List V→Prop)→Prop
 | [],K=>K []
 | .tmp t::r,K=>Bq P s r fun xs=>K (s.ev (.tmp t)::xs)
 | .cell p ty::r,K=>0<aB P ty∧match ic P s.h ty (s.ev (.tmp p))with
  | .val q v=>q∧Bq P s r fun xs=>K (v::xs)
  | _=>False
def fM(h:Nat→Option Ob)(x y:V):Prop:=
 match x with
 | .ref o n=>∃ob,h o=some ob∧n=ob.rows.length∧ob.imp=false∧y=.sl ob.rows
 | x=>(y=x∧x.pure=true)∨(x=.nil∧y=.sl [])
def lq(h:Nat→Option Ob):List V→List V→Prop
 | [],[]=>True
 | x::xs,y::ys=>fM h x y∧lq h xs ys
 | _,_=>False
def ahy(h:Nat→Option Ob)(cs:List V)(ty es:Nat)(rows:List (List V))(pre post:List V):Prop:=
 ∃c1 y c2,cs=c1++y::c2∧c1.length=pre.length∧lq h c1 pre∧lq h c2 post∧
  ((y=.nil∧rows=[])∨∃o ob,y=.ref o ob.rows.length∧h o=some ob∧ob.ty=ty∧ob.es=es∧ob.imp=false∧ob.rows=rows)
def gV(h:Nat→Option Ob)(x:V)(rd:RD):Prop:=
 match x,rd with
 | .ref o n,.o ty es rows=>∃ob,h o=some ob∧n=ob.rows.length∧ob.ty=ty∧ob.es=es∧ob.imp=false∧ob.rows=rows
 | .nil,.o _ _ rows=>rows=[]
 | .agg cs,.v (.agg fj)=>fj=cs∨lq h cs fj
 | .dP cs,.v (.agg fj)=>lq h cs fj
 | .agg cs,.a ty es rows pre post=>ahy h cs ty es rows pre post
 | .dP cs,.a ty es rows pre post=>ahy h cs ty es rows pre post
 | x,.v y=>fM h x y
 | _,_=>False
def J4:Option V→Option Nat
 | some (.ref o _)=>some o
 | _=>none
def jY(x:V)(rd:RD):Option Nat:=
 match x,rd with
 | .ref o _,.o ..=>some o
 | .agg cs,.a _ _ _ pre _=>J4 cs[pre.length]?
 | .dP cs,.a _ _ _ pre _=>J4 cs[pre.length]?
 | _,_=>none
def eK:V→List Nat
 | .ref o _=>[o]
 | _=>[]
def iA(x:V)(rd:RD):List Nat:=
 match x,rd with
 | .ref o _,.v _=>[o]
 | .agg cs,.v _=>cs.flatMap eK
 | .dP cs,.v _=>cs.flatMap eK
 | .agg cs,.a _ _ _ pre _=>(cs.take pre.length++cs.drop (pre.length+1)).flatMap eK
 | .dP cs,.a _ _ _ pre _=>(cs.take pre.length++cs.drop (pre.length+1)).flatMap eK
 | _,_=>[]
theorem Fe{h:Nat→Option Ob}{x:V}{ty es:Nat}{rows:List (List V)}{pre post:List V}(hx:gV h x (.a ty es rows pre post)):
  ∃c1 y c2,(x=.agg (c1++y::c2)∨x=.dP (c1++y::c2))∧c1.length=pre.length∧lq h c1 pre∧lq h c2 post∧
   ((y=.nil∧rows=[]∧jY x (.a ty es rows pre post)=none)∨∃o ob,y=.ref o ob.rows.length∧h o=some ob∧ob.ty=ty∧ob.es=es∧ob.imp=false∧ob.rows=rows∧jY x (.a ty es rows pre post)=some o)∧
   iA x (.a ty es rows pre post)=(c1++c2).flatMap eK:=by
 obtain⟨cs,hc,hA⟩:∃cs,(x=.agg cs∨x=.dP cs)∧ahy h cs ty es rows pre post:=by
  cases x<;>first | exact⟨_,.inl rfl,hx⟩ | exact⟨_,.inr rfl,hx⟩ | exact(show False from hx).elim
 obtain⟨c1,y,c2,e1,e2,e3,e4,e5⟩:=hA;subst e1;refine⟨c1,y,c2,hc,e2,e3,e4,?_,?_⟩
 ·have ho:jY x (.a ty es rows pre post)=J4 (c1++y::c2)[pre.length]?:=by rcases hc with rfl | rfl<;>rfl
  rw[ho,← e2];rcases e5 with⟨rfl,h0⟩ | ⟨o,ob,rfl,h1⟩
  ·exact .inl ⟨rfl,h0,by simp[J4]⟩
  ·obtain⟨h1,h2,h3,h4,h5⟩:=h1
   exact .inr ⟨o,ob,rfl,h1,h2,h3,h4,h5,by simp[J4]⟩
 ·have ho:iA x (.a ty es rows pre post)=((c1++y::c2).take pre.length++(c1++y::c2).drop (pre.length+1)).flatMap eK:=by rcases hc with rfl | rfl<;>rfl
  rw[ho,← e2,aEw,show c1.length+1=(c1++[y]).length by simp,show c1++y::c2=(c1++[y])++c2 by simp,aEx]
def yT(h:Nat→Option Ob):List V→List RD→Prop
 | [],[]=>True
 | x::xs,rd::rds=>gV h x rd∧yT h xs rds
 | _,_=>False
def gn:List V→List RD→List (Option Nat)
 | x::xs,rd::rds=>jY x rd::gn xs rds
 | _,_=>[]
def tv:List V→List RD→List Nat
 | x::xs,rd::rds=>iA x rd++tv xs rds
 | _,_=>[]
def acr(P:Program)(rs:List ResultVar)(rds:List RD)(s:St):Prop:=
 Bq P s rs fun xs=>yT s.h xs rds∧((gn xs rds).filterMap id).Nodup∧∀o∈tv xs rds,o∉(gn xs rds).filterMap id
theorem uC:∀(L:List (Option Nat)),(L.filterMap id).Nodup→∀(i j o:Nat),L[i]? = some (some o)→L[j]? = some (some o)→i=j
 | [],_,i,j,o,h,_=>by simp at h
 | x::L,hn,i,j,o,hi,hj=>by
  have Kx:∀(k:Nat),L[k]? = some (some o)→o∈L.filterMap id:=fun k hk=>aEk.2 ⟨some o,aCC hk,rfl⟩
  cases x with
  | none=>
   simp only[aEg,id_eq]at hn;cases i with
   | zero=>simp at hi
   | succ i=>
    cases j with
    | zero=>simp at hj
    | succ j=>rw[uC L hn i j o (by simpa using hi) (by simpa using hj)]
  | some p=>
   simp only[aEg,id_eq,aD5]at hn;cases i with
   | zero=>
    cases j with
    | zero=>rfl
    | succ j=>
     simp at hi;subst hi;exact absurd (Kx j (by simpa using hj)) hn.1
   | succ i=>
    cases j with
    | zero=>
     simp at hj;subst hj;exact absurd (Kx i (by simpa using hi)) hn.1
    | succ j=>rw[uC L hn.2 i j o (by simpa using hi) (by simpa using hj)]
theorem jr:∀(xs:List V) (rds:List RD) (k:Nat) (x:V) (rd:RD),xs[k]? = some x→rds[k]? = some rd→(gn xs rds)[k]? = some (jY x rd)
 | x::xs,rd::rds,0,_,_,h1,h2=>by simp at h1 h2;subst h1 h2;rfl
 | x::xs,rd::rds,k+1,y,r,h1,h2=>by
  simp only[gn,aDZ];exact jr xs rds k y r (by simpa using h1) (by simpa using h2)
 | [],_,_,_,_,h,_=>by simp at h
 | _::_,[],_,_,_,_,h=>by simp at h
theorem Bm:∀(xs:List V) (rds:List RD) (k:Nat) (x:V) (rd:RD),xs[k]? = some x→rds[k]? = some rd→∀o∈iA x rd,o∈tv xs rds
 | x::xs,rd::rds,0,_,_,h1,h2,o,ho=>by simp at h1 h2;subst h1 h2;exact aDv _ ho
 | x::xs,rd::rds,k+1,y,r,h1,h2,o,ho=>aDw _ (Bm xs rds k y r (by simpa using h1) (by simpa using h2) o ho)
 | [],_,_,_,_,h,_,_,_=>by simp at h
 | _::_,[],_,_,_,_,h,_,_=>by simp at h
theorem AD{h:Nat→Option Ob}:∀{xs:List V} {rds:List RD},yT h xs rds→xs.length=rds.length∧∀(k:Nat) (rd:RD),rds[k]? = some rd→∃x,xs[k]? = some x∧gV h x rd
 | [],[],_=>⟨rfl,fun k rd h=>by simp at h⟩
 | x::xs,rd::rds,hr=>by
  obtain⟨h1,h2⟩:=hr;obtain⟨e1,e2⟩:=AD h2;refine⟨by simp[e1],fun k r hk=>?_⟩;cases k with
  | zero=>simp at hk;subst hk;exact⟨x,rfl,h1⟩
  | succ k=>exact e2 k r (by simpa using hk)
 | [],_::_,hr=>hr.elim
 | _::_,[],hr=>hr.elim
section
variable {P:Program} {n:Nat} {w0:World} {A0:Nat→Prop} {s:St} {a:Act} {w:World} {β:Nat→Option Nat} {A:Nat→Prop}
def rvF(tmps:Array Value):ResultVar→Sem Value
 | .tmp t=>pure (tmps.getD t undef)
 | .cell b t=>do loadVar t (← asAddr (tmps.getD b undef))
theorem M6(fn:Func)(tmps:Array Value):results fn tmps=(do
  let vs ← fn.results.mapM (rvF tmps)
  pure (if h:vs.size=1 then vs[0]else .tuple vs)):=by
 unfold results
 congr 1
theorem Bp{I:sy}(R:RB w0 I A0 n s a w β A):∀(rs:List ResultVar) (K:List V→Prop),Bq P s rs K→
  ∃xs us,K xs∧us.length=xs.length∧(∀(k:Nat) (x:V),xs[k]? = some x→∃u,us[k]? = some u∧Rel ⟨w,A,s.h,β⟩ x u)∧
   (rs.mapM (rvF a.tmps)).run P w=.ok us w
 | [],K,h=>⟨[],[],h,rfl,fun k x hk=>by simp at hk,by simp⟩
 | .tmp t::rs,K,h=>by
  obtain⟨xs,us,h1,h2,h3,h4⟩:=Bp R rs _ h;refine⟨s.ev (.tmp t)::xs,a.tmps.getD t undef::us,h1,by simp[h2],fun k x hk=>?_,?_⟩
  ·cases k with
   | zero=>simp at hk;subst hk;exact⟨_,rfl,kK R.ai (.tmp t)⟩
   | succ k=>exact h3 k x (by simpa using hk)
  ·simp only[List.mapM_cons,rvF,Sem.run_bind,Sem.run_pure,Result.andThen_ok]
   rw[h4];rfl
 | .cell p ty::rs,K,h=>by
  obtain⟨dD,h⟩:=h
  split at h<;>try (exact h.elim)
  rename_i q v hl;obtain⟨hq,h⟩:=h;obtain⟨xs,us,h1,h2,h3,h4⟩:=Bp R rs _ h;obtain⟨r,r1,r2⟩:=Dn (P:=P) R.cq (kK R.ai (.tmp p)) dD hl hq;simp only at r1;rw[show a.eval (.tmp p)=a.tmps.getD p undef from rfl]at r1;have hr:(do loadVar ty (← asAddr (a.tmps.getD p undef)):Sem Value).run P w=.ok r w:=by
   unfold Instr.loadAt at r1;have hp:∃ad,a.tmps.getD p undef=.pointer (some ad):=by
    have Xe:Rel ⟨w,A,s.h,β⟩ (s.ev (.tmp p)) (a.tmps.getD p undef):=kK R.ai (.tmp p);unfold ic at hl
    split at hl<;>try (cases hl;done)
    ·rename_i o m i j hpe
     split at hl<;>try (cases hl;done)
     rename_i ob ho
     split at hl<;>try (cases hl;done)
     rename_i row aO;have hpp:m=ob.rows.length:=by
      unfold fD at hl
      split at hl
      ·simp only[AR.val.injEq]at hl;rw[← hl.1]at hq;exact hq.1
      ·split at hl<;>try (cases hl;done)
       split at hl<;>try (cases hl;done)
       split at hl<;>try (cases hl;done)
       simp only[AR.val.injEq]at hl;rw[← hl.1]at hq;exact hq
     rw[hpe]at Xe;obtain⟨b,_,hv⟩:=(Xe ob ho).2 hpp;exact⟨_,hv⟩
    ·rename_i row j hpe
     rw[hpe]at Xe;obtain⟨b,off,f,hv,_⟩:=Xe;exact⟨_,hv⟩
   obtain⟨ad,had⟩:=hp;rw[had]at r1 ⊢;simpa [Instr.sureAddr,asAddr]using r1
  refine⟨v::xs,r::us,h1,by simp[h2],fun k x hk=>?_,?_⟩
  ·cases k with
   | zero=>simp at hk;subst hk;exact⟨_,rfl,r2⟩
   | succ k=>exact h3 k x (by simpa using hk)
  ·rw[List.mapM_cons,Sem.run_bind]
   simp only[rvF];rw[hr];simp only[Result.andThen_ok,Sem.run_bind,Sem.run_pure];rw[h4];rfl
theorem xJ{I:sy}(R:RB w0 I A0 n s a w β A)(fn:Func)(K:List V→Prop)(h:Bq P s fn.results.toList K):
  ∃xs us,K xs∧us.length=xs.length∧(∀(k:Nat) (x:V),xs[k]? = some x→∃u,us[k]? = some u∧Rel ⟨w,A,s.h,β⟩ x u)∧(results fn a.tmps).run P w=.ok (jq us) w:=by
 obtain⟨xs,us,h1,h2,h3,h4⟩:=Bp R fn.results.toList K h;refine⟨xs,us,h1,h2,h3,?_⟩;rw[M6,Array.mapM_eq_mapM_toList,map_eq_pure_bind];simp only[Sem.run_bind,h4,Result.andThen_ok,Sem.run_pure]
 match us with
 | []=>rfl
 | [u]=>rfl
 | u::v::us=>simp[jq]
theorem lu{I:sy}{β':Nat→Option Nat}{rds:List RD}{A':Nat→Prop}(R:RB w0 I A0 n s a w β A)(hA:∀b,b<w.heap.size→A' b→A b){x y:V}{u:Value}(hr:bB ⟨w,A,s.h,β⟩ x u)(hx:fM s.h x y)
  (hf:∀o∈eK x,∀b,β o=some b→¬ A' b):bh w A' y u:=by
 have fr:∀y v,bh w A y v→bh w A' y v:=fun y v h=>h.frame (fun _ _ _=>rfl) (aCt _) hA
 unfold fM at hx
 split at hx
 ·rename_i o m
  obtain⟨ob,ho,hn,himp,rfl⟩:=hx;have h2:=(hr ob ho).2 hn;have aX:=R.cq.ok o ob ho;simp only at h2 aX;cases hb:β o with
  | none=>
   rw[hb]at h2 aX;have h0:ob.rows=[]:=aX;rw[h0,h2];exact .slnil _
  | some b=>
   rw[hb]at h2 aX;obtain⟨cap,cur,rfl,h3,h4,h5,h6⟩:=h2;obtain⟨hA0,cur',hh,sJ,hlen,iu⟩:=aX;simp only at hh h5 iu;have:cur'=cur:=by rw[h5]at hh;simp at hh;exact hh.symm
   subst this;rw[hn];refine .sl ob.rows b 0 cap ob.es (fun i j=>(cur'[i*ob.es+j]?).getD undef) (by rw[← hn];exact h3) (fun _=>⟨R.cq.lt b hA0,hf o (by simp[eK]) b hb⟩) sJ (fun i row hi j x hx=>?_) (fun i row hi j x hx=>?_)
   ·obtain⟨v,c1,_⟩:=iu i row hi j x hx
    rw[aC0,cell_of_row w b _ cur' ob.ty (0,0) hh,c1];simp[c1]
   ·obtain⟨v,c1,_,_,c4⟩:=iu i row hi j x hx
    simp only[c1,aDK];exact fr _ _ (c4 himp)
 ·rcases hx with⟨rfl,hp⟩ | ⟨rfl,rfl⟩
  ·cases y<;>first | exact fr _ _ hr | (simp[V.pure]at hp;done) | (cases hr;done)
  ·have:u=.slice none 0 0:=by cases hr;rfl
   rw[this];exact .slnil _
theorem lp{h:Nat→Option Ob}:∀{xs ys:List V},lq h xs ys→xs.length=ys.length∧∀(i:Nat) (y:V),ys[i]? = some y→∃x,xs[i]? = some x∧fM h x y
 | [],[],_=>⟨rfl,fun i y h=>by simp at h⟩
 | x::xs,y::ys,h=>by
  obtain⟨h,t⟩:=h;obtain⟨h1,h2⟩:=lp t;refine⟨by simp[h1],fun i z hz=>?_⟩;cases i with
  | zero=>simp at hz;subst hz;exact⟨x,rfl,h⟩
  | succ i=>exact h2 i z (by simpa using hz)
 | [],_::_,h=>h.elim
 | _::_,[],h=>h.elim
theorem JZ{h:Nat→Option Ob}{E E':Env}{c1 c2 pre post:List V}{y:V}{k m:Nat}{u:Value}{vs:Array Value}(hv:u=.agg vs)(dC:vs.size=(c1++y::c2).length)
  (hc:∀(i:Nat) (z:V),(c1++y::c2)[i]? = some z→∃q,vs[i]? = some q∧q.oneCell'=true∧bB E z q) (hl:c1.length=pre.length) (h1:lq h c1 pre) (h2:lq h c2 post)
  (one:∀(x0 y0:V) (q:Value),x0∈c1++c2→bB E x0 q→fM h x0 y0→bh E'.w E'.A y0 q) (hy:∀q,bB E y q→bB E' (.ref k m) q):cH E' (.dP (pre++.ref k m::post)) u:=by
 obtain⟨a1,a2⟩:=lp h1;obtain⟨b1,b2⟩:=lp h2;refine⟨vs,hv,by simp only[aCp,aCv]at dC ⊢;omega,fun i x hx=>?_⟩;rcases aEZ i pre.length with hi | hi | hi
 ·rw[aC6 hi]at hx
  obtain⟨x0,e1,e2⟩:=a2 i x hx;obtain⟨q,q1,q2,q3⟩:=hc i x0 (by rw[aC6 (by omega)];exact e1);exact⟨q,q1,q2,bB.aU (one x0 x q (aDv _ (aCC e1)) q3 e2)⟩
 ·subst hi
  simp at hx;subst hx;obtain⟨q,q1,q2,q3⟩:=hc pre.length y (by rw[← hl];simp);exact⟨q,q1,q2,hy q q3⟩
 ·obtain⟨j,hj⟩:∃j,i-pre.length=j+1:=⟨i-pre.length-1,by omega⟩
  rw[aCY (by omega),hj,aDZ]at hx;obtain⟨x0,e1,e2⟩:=b2 j x hx;obtain⟨q,q1,q2,q3⟩:=hc i x0 (by rw[aCY (by omega),hl,hj,aDZ];exact e1);exact⟨q,q1,q2,bB.aU (one x0 x q (aDw _ (aCC e1)) q3 e2)⟩
def uO(args:List V):St:=⟨fun i=>(args[i]?).getD (.kQ []),fY⟩
theorem RB.ret(R:RB w0 H8 A0 n s a w β A){rds:List RD}{xs:List V}{us:List Value}(hl:us.length=xs.length)(hrel:∀(k:Nat) (x:V),xs[k]? = some x→∃u,us[k]? = some u∧Rel ⟨w,A,s.h,β⟩ x u)
  (h1:yT s.h xs rds) (h2:((gn xs rds).filterMap id).Nodup) (h3:∀o∈tv xs rds,o∉(gn xs rds).filterMap id):∃β' A',vC w0 A0 rds w us β' A':=by
 obtain⟨e1,e2⟩:=AD h1
 let β':Nat→Option Nat:=fun k=>((gn xs rds)[k]?).bind fun o=>o.bind β
 let A':Nat→Prop:=fun b=>(b<w0.heap.size∧A0 b)∨∃k ob,fC rds k=some ob∧β' k=some b
 have nI:∀o ob b,s.h o=some ob→β o=some b→w0.heap.size≤b:=fun o ob b ho hb=>(R.own o ob b ho hb).resolve_right (fun h=>h)
 have own:∀k ob,fC rds k=some ob→(∃o bG,(gn xs rds)[k]? = some (some o)∧s.h o=some bG∧β' k=β o∧bG.ty=ob.ty∧bG.es=ob.es∧bG.imp=false∧bG.rows=ob.rows∧ob.imp=false∧∀ty es rows,rds[k]? = some (.o ty es rows)→xs[k]? = some (.ref o ob.rows.length))∨
   (β' k=none∧ob.rows=[]∧(∀ty es rows,rds[k]? = some (.o ty es rows)→xs[k]? = some .nil)∧ob.imp=false):=by
  intro k ob hk;unfold fC at hk;cases hr:rds[k]? with
  | none=>simp[hr]at hk
  | some rd=>
   cases rd with
   | v x=>simp[hr,RD.ob]at hk
   | o ty es rows=>
    simp[hr,RD.ob]at hk;subst hk;obtain⟨x,hx,gB⟩:=e2 k _ hr;have og:=jr xs rds k x _ hx hr;cases x<;>simp only[gV,fM]at gB
    case ref o m=>
     obtain⟨bG,ho,hn,ht,he,hi,ub⟩:=gB;exact .inl ⟨o,bG,og,ho,by simp only[β',og,jY,aDd],ht,he,hi,ub,rfl,fun _ _ _ _=>by rw[hx,hn,ub]⟩
    case nil=>exact .inr ⟨by simp only[β',og,jY,aDd,aEl],gB,fun _ _ _ _=>hx,rfl⟩
   | a ty es rows pre post=>
    simp[hr,RD.ob]at hk;subst hk;obtain⟨x,hx,gB⟩:=e2 k _ hr;have og:=jr xs rds k x _ hx hr;obtain⟨c1,y,c2,hxc,g1,g2,g3,g4,g5⟩:=Fe gB;rcases g4 with⟨_,zl,ho⟩ | ⟨o,bG,_,ho,ht,he,hi,ub,hon⟩
    ·exact .inr ⟨by simp only[β',og,ho,aDd,aEl],zl,fun _ _ _ hh=>by(first | (rw[hr]at hh;cases hh) | cases hh),rfl⟩
    ·rw[hon]at og
     exact .inl ⟨o,bG,og,ho,by simp only[β',og,aDd],ht,he,hi,ub,rfl,fun _ _ _ hh=>by(first | (rw[hr]at hh;cases hh) | cases hh)⟩
 have FK:∀b,b<w.heap.size→A' b→A b:=by
  rintro b _ (⟨hb,h0⟩ | ⟨k,ob,hk,hb⟩)
  ·exact R.a0 b hb h0
  ·rcases own k ob hk with⟨o,bG,_,ho,hβ,_⟩ | ⟨hβ,_⟩
   ·rw[hβ]at hb
    have:=R.cq.ok o bG ho;simp only at this;rw[hb]at this;exact this.1
   ·rw[hβ]at hb;cases hb
 have frz:∀o bG,s.h o=some bG→o∈tv xs rds→∀b,β o=some b→¬ A' b:=by
  rintro o bG ho hf b hb (⟨h4,_⟩ | ⟨k,ob,hk,jb⟩)
  ·have:=nI o bG b ho hb
   omega
  ·rcases own k ob hk with⟨o2,bM,og,ho2,hβ,_⟩ | ⟨hβ,_⟩
   ·rw[hβ]at jb
    have:o=o2:=R.cq.inj o o2 bG bM b ho ho2 hb jb;subst this;exact h3 o hf (aEk.2 ⟨some o,aCC og,rfl⟩)
   ·rw[hβ]at jb;cases jb
 have apa:∀(k:Nat) (x:V) (rd:RD),xs[k]? = some x→rds[k]? = some rd→∀o∈iA x rd,∀(_:∃ob,s.h o=some ob),∀b,β o=some b→¬ A' b:=
  fun k x rd hx hrd o ho ⟨ob,cA⟩ b hb=>frz o ob cA (Bm xs rds k x rd hx hrd o ho) b hb
 have fr:∀y v,bh w A y v→bh w A' y v:=fun y v h=>h.frame (fun _ _ _=>rfl) (aCt _) FK
 have aZ:cz ⟨w,A',fC rds,β'⟩:=by
  refine⟨fun k ob hk=>?_,fun k k' ob ob' b hk oY hb jb=>?_,fun b hb=>?_⟩
  ·rcases own k ob hk with⟨o,bG,_,ho,hβ,rS,bQ,himp,bS,Rl,_⟩ | ⟨hβ,zl,_⟩
   ·simp only[hβ]
    have aX:=R.cq.ok o bG ho;simp only at aX;cases hb:β o with
    | none=>rw[hb]at aX;have h0:bG.rows=[]:=aX;show ob.rows=[];rw[← bS];exact h0
    | some b=>
     rw[hb]at aX;obtain⟨_,cur,c1,c2,c3,c4⟩:=aX;refine⟨.inr ⟨k,ob,hk,by rw[hβ];exact hb⟩,cur,by rw[← rS];exact c1,by rw[← bS,← bQ];exact c2,by rw[← bS,← bQ];exact c3,fun i row hi j x hx=>?_⟩;obtain⟨v,d1,d2,_,d4⟩:=c4 i row (by rw[bS];exact hi) j x hx;have d5:=fr _ _ (d4 himp);exact⟨v,by rw[← bQ];exact d1,d2,bB.aU d5,fun _=>d5⟩
   ·simp only[hβ];exact zl
  ·rcases own k ob hk with⟨o,bG,og,ho,hβ,_⟩ | ⟨hβ,_⟩
   ·rcases own k' ob' oY with⟨o',anX,aoD,dW,hβ',_⟩ | ⟨hβ',_⟩
    ·simp only[hβ]at hb
     simp only[hβ']at jb;have:o=o':=R.cq.inj o o' bG anX b ho dW hb jb;subst this;exact uC _ h2 k k' o og aoD
    ·simp only[hβ']at jb;cases jb
   ·simp only[hβ]at hb;cases hb
  ·rcases hb with⟨h4,_⟩ | ⟨k,ob,hk,hb⟩
   ·exact aCP h4 R.ev.size
   ·rcases own k ob hk with⟨o,bG,_,ho,hβ,_⟩ | ⟨hβ,_⟩
    ·rw[hβ]at hb
     have:=R.cq.ok o bG ho;simp only at this;rw[hb]at this;exact R.cq.lt b this.1
    ·rw[hβ]at hb;cases hb
 refine⟨β',A',by rw[hl,e1],aZ,fun k rd hk=>?_,fun b hb h0=>.inl ⟨hb,h0⟩,R.ev,fun k ob b hk hb=>?_⟩
 ·obtain⟨x,hx,gB⟩:=e2 k rd hk
  obtain⟨u,hu,sH⟩:=hrel k x hx;refine⟨u,hu,?_⟩;have hfz:=apa k x rd hx hk;cases rd with
  | o ty es rows=>
   have oY:fC rds k=some ⟨ty,es,false,rows⟩:=by simp[fC,hk,RD.ob]
   intro ob cA;simp only at cA;rw[oY]at cA;cases cA;rcases own k _ oY with⟨o,bG,og,ho,hβ,rS,bQ,himp,bS,_,FA⟩ | ⟨hβ,zl,FA,_⟩
   ·have FA:=FA _ _ _ hk
    rw[hx]at FA;cases FA;obtain⟨r1,r2⟩:=sH bG ho;refine⟨aCt _,fun hn=>?_⟩;simp only at hn bS rS bQ;have r3:=r2 (by rw[bS]);simp only[hβ];cases hb:β o with
    | none=>simp only[hb]at r3;exact r3
    | some b=>
     simp only[hb]at r3;obtain⟨cap,cur,q1,q2,q3,q4,q5⟩:=r3;exact⟨cap,cur,q1,q2,q3,by rw[← rS];exact q4,by rw[← bQ];exact q5⟩
   ·have FA:=FA _ _ _ hk
    rw[hx]at FA;cases FA;simp only at zl;subst zl;refine⟨aCt _,fun _=>?_⟩;simp only[hβ];cases sH;rfl
  | a ty es rows pre post=>
   have oY:fC rds k=some ⟨ty,es,false,rows⟩:=by simp[fC,hk,RD.ob]
   obtain⟨c1,y,c2,hxc,g1,g2,g3,g4,g5⟩:=Fe gB;have og:=jr xs rds k x _ hx hk;obtain⟨vs,hv,dC,hc⟩:∃vs:Array Value,u=.agg vs∧vs.size=(c1++y::c2).length∧∀(i:Nat) (z:V),(c1++y::c2)[i]? = some z→∃q,vs[i]? = some q∧q.oneCell'=true∧bB ⟨w,A,s.h,β⟩ z q:=by
    rcases hxc with rfl | rfl
    ·obtain⟨vs,hv,hs,hc⟩:=sH
     exact⟨vs,hv,hs,fun i z hz=>let ⟨q,q1,q2⟩:=hc i z hz;⟨q,q1,q2.fH,bB.aU q2⟩⟩
    ·obtain⟨vs,hv,hs,hc⟩:=sH
     exact⟨vs,hv,hs,fun i z hz=>hc i z hz⟩
   refine JZ (E':=⟨w,A',fC rds,β'⟩) hv dC hc g1 g2 g3 (fun x0 y0 q hm hr iu=>?_) (fun q hq=>?_)
   ·refine lu (rds:=rds) (β':=β') R FK hr iu fun o ho b hb=>?_
    have hex:∃ob,s.h o=some ob:=by
     cases x0<;>simp only[eK]at ho<;>simp at ho
     subst ho;obtain⟨ob,h5,_⟩:=iu;exact⟨ob,h5⟩
    exact hfz o (by rw[g5];exact aEO.2 ⟨x0,hm,ho⟩) hex b hb
   ·intro ob cA
    simp only at cA;rw[oY]at cA;cases cA;rcases g4 with⟨rfl,zl,ho⟩ | ⟨o,bG,rfl,ho,ht,he,hi,ub,hon⟩
    ·have hβ:β' k=none:=by simp only[β',og,ho,aDd,aEl]
     subst zl;refine⟨aCt _,fun _=>?_⟩;simp only[hβ];cases hq;rfl
    ·rw[hon]at og
     have hβ:β' k=β o:=by simp only[β',og,aDd]
     obtain⟨r1,r2⟩:=hq bG ho;subst ub;refine⟨aCt _,fun hn=>?_⟩;have r3:=r2 rfl;simp only[hβ];cases hb:β o with
     | none=>simp only[hb]at r3;exact r3
     | some b=>
      simp only[hb]at r3;obtain⟨cap,cur,q1,q2,q3,q4,q5⟩:=r3;exact⟨cap,cur,q1,q2,q3,by rw[← ht];exact q4,by rw[← he];exact q5⟩
  | v y=>
   have one:bB ⟨w,A,s.h,β⟩ x u→fM s.h x y→(∀o∈eK x,o∈iA x (.v y))→bh w A' y u:=by
    intro hr hc FB;refine lu (rds:=rds) (β':=β') R FK hr hc fun o ho b hb=>?_
    have hex:∃ob,s.h o=some ob:=by
     cases x<;>simp only[eK]at ho<;>simp at ho
     subst ho;obtain⟨ob,h5,_⟩:=hc;exact⟨ob,h5⟩
    exact hfz o (FB o ho) hex b hb
   have many:∀(cs fj:List V) (vs:Array Value),u=.agg vs→vs.size=cs.length→(∀(i:Nat) (z:V),cs[i]? = some z→∃q,vs[i]? = some q∧bB ⟨w,A,s.h,β⟩ z q)→lq s.h cs fj→(∀o∈cs.flatMap eK,o∈iA x (.v y))→
     cH ⟨w,A',fC rds,β'⟩ (.agg fj) u:=by
    intro cs fj vs hu hs hc hr FB;obtain⟨f1,f2⟩:=lp hr;refine⟨vs,hu,by rw[hs,f1],fun i z hz=>?_⟩;obtain⟨x0,hx0,iu⟩:=f2 i z hz;obtain⟨q,hq,hrq⟩:=hc i x0 hx0;refine⟨q,hq,lu (rds:=rds) (β':=β') R FK hrq iu fun o ho b hb=>?_⟩;have hex:∃ob,s.h o=some ob:=by
     cases x0<;>simp only[eK]at ho<;>simp at ho
     subst ho;obtain⟨ob,h5,_⟩:=iu;exact⟨ob,h5⟩
    exact hfz o (FB o (aEO.2 ⟨x0,aCC hx0,ho⟩)) hex b hb
   cases x with
   | agg cs=>
    obtain⟨vs,hv,hs,hc⟩:=sH;cases y<;>simp only[gV,fM]at gB<;>try (simp at gB;done)
    rename_i fj;rcases gB with rfl | gB
    ·exact⟨vs,hv,hs,fun i z hz=>let ⟨q,q1,q2⟩:=hc i z hz;⟨q,q1,fr _ _ q2⟩⟩
    ·exact many cs fj vs hv hs (fun i z hz=>let ⟨q,q1,q2⟩:=hc i z hz;⟨q,q1,bB.aU q2⟩) gB (fun o ho=>by simpa [iA]using ho)
   | dP cs=>
    obtain⟨vs,hv,hs,hc⟩:=sH;cases y<;>simp only[gV,fM]at gB<;>try (simp[V.pure]at gB;done)
    rename_i fj;exact many cs fj vs hv hs (fun i z hz=>let ⟨q,q1,q2,q3⟩:=hc i z hz;⟨q,q1,q3⟩) gB (fun o ho=>by simpa [iA]using ho)
   | kQ vs=>simp[gV,fM,V.pure]at gB
   | fn f cs=>simp[gV,fM,V.pure]at gB
   | rd rows=>simp[gV,fM,V.pure]at gB
   | ptr o n i j=>simp[gV,fM,V.pure]at gB
   | cp row j=>simp[gV,fM,V.pure]at gB
   | dead=>simp[gV,fM,V.pure]at gB
   | ref o m=>exact cH.aU (one sH gB (fun o ho=>by simpa [iA,eK]using ho))
   | int k m=>exact cH.aU (one sH gB (fun o ho=>by simp[eK]at ho))
   | bool b=>exact cH.aU (one sH gB (fun o ho=>by simp[eK]at ho))
   | str b=>exact cH.aU (one sH gB (fun o ho=>by simp[eK]at ho))
   | nil=>exact cH.aU (one sH gB (fun o ho=>by simp[eK]at ho))
   | sl rows=>exact cH.aU (one sH gB (fun o ho=>by simp[eK]at ho))
   | raw v=>exact cH.aU (one sH gB (fun o ho=>by simp[eK]at ho))
 ·rcases own k ob hk with⟨o,bG,_,ho,hβ,_⟩ | ⟨hβ,_⟩
  ·rw[hβ]at hb;exact nI o bG b ho hb
  ·rw[hβ]at hb;cases hb
end
theorem UR{P:Program}{f:FuncId}{fn:Func}{c:Code}{args:List V}{Pd:List RD→Prop}(hf:P.funcs[f]? = some fn)(hb:fn.body=some c)(hn:args.length≤fn.ntmps)
  (aX:∀rds,Pd rds→∀rd∈rds,rd.ok=true)
  (h:∀w0 A0 a w,RR w0 H8 A0 fn.ntmps (uO args) a w→c.wp P (fun e a' w'=>(e=.normal∨e=.ret)∧∃s',(∃rds,Pd rds∧acr P fn.results.toList rds s')∧RR w0 H8 A0 fn.ntmps s' a' w') a w):Ew P f args Pd:=by
 refine⟨aX,fun w A vs hA xg hrel=>calls_of_wp hf hb ?_⟩;have R:RB w H8 A fn.ntmps (uO args) {tmps:=vs++Array.replicate (fn.ntmps-vs.size) undef,defers:=[] } w iF A:=by
  refine⟨rfl,by simp;omega,fun i=>?_,⟨fun o ob ho=>by simp[uO,fY]at ho,fun o o' ob ob' b ho=>by simp[uO,fY]at ho,hA⟩,fun b _ h=>h,⟨rfl,rfl,rfl,aCt _,fun _ _ _=>rfl⟩,fun o ob b ho=>by simp[uO,fY]at ho,fun o hq=>hq.elim,fun o ob hq=>hq.elim⟩;rw[show H8.sv=fun _=>undef from rfl,oJ];simp only[uO];cases hi:args[i]? with
  | some x=>
   obtain⟨u,h1,h2⟩:=hrel i x hi;have cg:i<vs.size:=by rw[xg];exact(aCD.1 hi).1
   simp only[aDK];rw[aDr,aDX cg,h1];exact h2
  | none=>
   have KB:vs.size≤i:=by rw[xg];simpa using hi
   simp only[aE1];rw[aDr,aEt KB];have:((Array.replicate (fn.ntmps-vs.size) undef)[i-vs.size]?).getD undef=undef:=by
    cases hq:(Array.replicate (fn.ntmps-vs.size) undef)[i-vs.size]? with
    | none=>rfl
    | some q=>
     have:=Array.getElem?_replicate (n:=fn.ntmps-vs.size) (v:=undef) (i:=i-vs.size);rw[hq]at this
     split at this<;>simp at this
     subst this;rfl
   rw[this];exact wS
 refine wp_mono (h w A _ w ⟨_,_,R⟩) ?_;rintro e a' w' ⟨he,s',⟨rds,xQ,hr⟩,β',A',R'⟩;have fin:a'.defers=[]∧∃v,(results fn a'.tmps).run P w'=.ok v w'∧∃rds us β' A',Pd rds∧Ending.returned v=.returned (jq us)∧vC w A rds w' us β' A':=by
  obtain⟨xs,us,⟨k1,k2,k3⟩,hl,DP,jZ⟩:=xJ R' fn _ hr;obtain⟨β2,A2,hp⟩:=R'.ret hl DP k1 k2 k3;exact⟨R'.defers,_,jZ,rds,us,β2,A2,xQ,rfl,hp⟩
 rcases he with rfl | rfl<;>exact fin
end Go.AL
