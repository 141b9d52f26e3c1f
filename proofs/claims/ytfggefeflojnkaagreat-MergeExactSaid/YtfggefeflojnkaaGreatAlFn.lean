/- AI. -/
import Derived.Test.YtfggefeflojnkaaGreatAlDraw6
set_option linter.unusedVariables false
namespace Go.AL
def wY(P:Program)(s:St):List ResultVar→(List V→Prop)→Prop
 | [],K=>K []
 | .tmp t::r,K=>wY P s r fun xs=>K (s.ev (.tmp t)::xs)
 | .cell p ty::r,K=>0<aq P ty∧match iy P s.h ty (s.ev (.tmp p))with
  | .val q v=>q∧wY P s r fun xs=>K (v::xs)
  | _=>False
def fZ(h:Nat→Option Ob)(x y:V):Prop:=
 match x with
 | .ref o n=>∃ob,h o=some ob∧n=ob.rows.length∧ob.imp=false∧y=.sl ob.rows
 | x=>(y=x∧x.pure=true)∨(x=.nil∧y=.sl [])
def A8(h:Nat→Option Ob):List V→List V→Prop
 | [],[]=>True
 | x::xs,y::ys=>fZ h x y∧A8 h xs ys
 | _,_=>False
def jB(h:Nat→Option Ob)(x:V)(rd:RD):Prop:=
 match x,rd with
 | .ref o n,.o ty es rows=>∃ob,h o=some ob∧n=ob.rows.length∧ob.ty=ty∧ob.es=es∧ob.imp=false∧ob.rows=rows
 | .nil,.o _ _ rows=>rows=[]
 | .agg cs,.v (.agg eL)=>eL=cs∨A8 h cs eL
 | .eA cs,.v (.agg eL)=>A8 h cs eL
 | x,.v y=>fZ h x y
 | _,_=>False
def rS(x:V)(rd:RD):Option Nat:=
 match x,rd with
 | .ref o _,.o ..=>some o
 | _,_=>none
def fM:V→List Nat
 | .ref o _=>[o]
 | _=>[]
def lD(x:V)(rd:RD):List Nat:=
 match x,rd with
 | .ref o _,.v _=>[o]
 | .agg cs,.v _=>cs.flatMap fM
 | .eA cs,.v _=>cs.flatMap fM
 | _,_=>[]
def yI(h:Nat→Option Ob):List V→List RD→Prop
 | [],[]=>True
 | x::xs,rd::rds=>jB h x rd∧yI h xs rds
 | _,_=>False
def gj:List V→List RD→List (Option Nat)
 | x::xs,rd::rds=>rS x rd::gj xs rds
 | _,_=>[]
def s7:List V→List RD→List Nat
 | x::xs,rd::rds=>lD x rd++s7 xs rds
 | _,_=>[]
def aaJ(P:Program)(rs:List ResultVar)(rds:List RD)(s:St):Prop:=
 wY P s rs fun xs=>yI s.h xs rds∧((gj xs rds).filterMap id).Nodup∧∀o∈s7 xs rds,o∉(gj xs rds).filterMap id
theorem uk:∀(L:List (Option Nat)),(L.filterMap id).Nodup→∀(i j o:Nat),L[i]? = some (some o)→L[j]? = some (some o)→i=j
 | [],_,i,j,o,h,_=>by simp at h
 | x::L,hn,i,j,o,hi,hj=>by
  have Kk:∀(k:Nat),L[k]? = some (some o)→o∈L.filterMap id:=fun k hk=>aBx.2 ⟨some o,azO hk,rfl⟩
  cases x with
  | none=>
   simp only[aBn,id_eq]at hn;cases i with
   | zero=>simp at hi
   | succ i=>
    cases j with
    | zero=>simp at hj
    | succ j=>rw[uk L hn i j o (by grind) (by grind)]
  | some p=>
   simp only[aBn,id_eq,aBf]at hn;cases i with
   | zero=>
    grind
   | succ i=>
    cases j with
    | zero=>
     grind
    | succ j=>rw[uk L hn.2 i j o (by grind) (by grind)]
theorem Bf:∀(xs:List V) (rds:List RD) (k:Nat) (x:V) (rd:RD),xs[k]? = some x→rds[k]? = some rd→(gj xs rds)[k]? = some (rS x rd)
 | x::xs,rd::rds,0,_,_,h1,h2=>by simp at h1 h2;subst h1 h2;rfl
 | x::xs,rd::rds,k+1,y,r,h1,h2=>by
  simp only[gj,aBp];exact Bf xs rds k y r (by grind) (by grind)
 | [],_,_,_,_,h,_=>by simp at h
 | _::_,[],_,_,_,_,h=>by simp at h
theorem BR:∀(xs:List V) (rds:List RD) (k:Nat) (x:V) (rd:RD),xs[k]? = some x→rds[k]? = some rd→∀o∈lD x rd,o∈s7 xs rds
 | x::xs,rd::rds,0,_,_,h1,h2,o,ho=>by simp at h1 h2;subst h1 h2;exact aBd _ ho
 | x::xs,rd::rds,k+1,y,r,h1,h2,o,ho=>aBe _ (BR xs rds k y r (by grind) (by grind) o ho)
 | [],_,_,_,_,h,_,_,_=>by simp at h
 | _::_,[],_,_,_,_,h,_,_=>by simp at h
theorem A7{h:Nat→Option Ob}:∀{xs:List V} {rds:List RD},yI h xs rds→xs.length=rds.length∧∀(k:Nat) (rd:RD),rds[k]? = some rd→∃x,xs[k]? = some x∧jB h x rd
 | [],[],_=>⟨rfl,fun k rd h=>by simp at h⟩
 | x::xs,rd::rds,hr=>by
  obtain⟨h1,h2⟩:=hr;obtain⟨e1,e2⟩:=A7 h2;grind
 | [],_::_,hr=>hr.elim
 | _::_,[],hr=>hr.elim
section
variable {P:Program} {n:Nat} {w0:World} {A0:Nat→Prop} {s:St} {a:Act} {w:World} {β:Nat→Option Nat} {A:Nat→Prop}
def rvF(tmps:Array Value):ResultVar→Sem Value
 | .tmp t=>pure (tmps.getD t undef)
 | .cell b t=>do loadVar t (← asAddr (tmps.getD b undef))
theorem MD(fn:Func)(tmps:Array Value):results fn tmps=(do
  let vs ← fn.results.mapM (rvF tmps)
  pure (if h:vs.size=1 then vs[0]else .tuple vs)):=by
 unfold results
 congr 1
theorem BV{I:rM}(R:RB w0 I A0 n s a w β A):∀(rs:List ResultVar) (K:List V→Prop),wY P s rs K→
  ∃xs us,K xs∧us.length=xs.length∧(∀(k:Nat) (x:V),xs[k]? = some x→∃u,us[k]? = some u∧Rel ⟨w,A,s.h,β⟩ x u)∧
   (rs.mapM (rvF a.tmps)).run P w=.ok us w
 | [],K,h=>⟨[],[],h,rfl,fun k x hk=>by simp at hk,by simp⟩
 | .tmp t::rs,K,h=>by
  obtain⟨xs,us,h1,h2,h3,h4⟩:=BV R rs _ h;refine⟨s.ev (.tmp t)::xs,a.tmps.getD t undef::us,h1,by simp[h2],fun k x hk=>?_,?_⟩
  ·cases k with
   | zero=>simp at hk;subst hk;exact⟨_,rfl,kB R.au (.tmp t)⟩
   | succ k=>grind
  ·simp only[List.mapM_cons,rvF,Sem.run_bind,Sem.run_pure,Result.andThen_ok]
   rw[h4];rfl
 | .cell p ty::rs,K,h=>by
  obtain⟨dr,h⟩:=h
  split at h<;>try (exact h.elim)
  rename_i q v hl;obtain⟨hq,h⟩:=h;obtain⟨xs,us,h1,h2,h3,h4⟩:=BV R rs _ h;obtain⟨r,r1,r2⟩:=DT (P:=P) R.bZ (kB R.au (.tmp p)) dr hl hq;simp only at r1;rw[show a.eval (.tmp p)=a.tmps.getD p undef from rfl]at r1;have hr:(do loadVar ty (← asAddr (a.tmps.getD p undef)):Sem Value).run P w=.ok r w:=by
   unfold Instr.loadAt at r1;have hp:∃ad,a.tmps.getD p undef=.pointer (some ad):=by
    have Nh:Rel ⟨w,A,s.h,β⟩ (s.ev (.tmp p)) (a.tmps.getD p undef):=kB R.au (.tmp p);unfold iy at hl
    split at hl<;>try (cases hl;done)
    ·rename_i o m i j hpe
     split at hl<;>try (cases hl;done)
     rename_i ob ho
     split at hl<;>try (cases hl;done)
     rename_i row aK;have VW:m=ob.rows.length:=by
      grind[fF]
     rw[hpe]at Nh;obtain⟨b,_,hv⟩:=(Nh ob ho).2 VW;grind
    ·rename_i row j hpe
     rw[hpe]at Nh;obtain⟨b,off,f,hv,_⟩:=Nh;grind
   obtain⟨ad,had⟩:=hp;rw[had]at r1 ⊢;simpa [Instr.sureAddr,asAddr]using r1
  refine⟨v::xs,r::us,h1,by simp[h2],fun k x hk=>?_,?_⟩
  ·grind
  ·rw[List.mapM_cons,Sem.run_bind]
   simp only[rvF];simp_all
theorem oq{I:rM}(R:RB w0 I A0 n s a w β A)(fn:Func)(K:List V→Prop)(h:wY P s fn.results.toList K):
  ∃xs us,K xs∧us.length=xs.length∧(∀(k:Nat) (x:V),xs[k]? = some x→∃u,us[k]? = some u∧Rel ⟨w,A,s.h,β⟩ x u)∧(results fn a.tmps).run P w=.ok (jE us) w:=by
 obtain⟨xs,us,h1,h2,h3,h4⟩:=BV R fn.results.toList K h;refine⟨xs,us,h1,h2,h3,?_⟩;rw[MD,Array.mapM_eq_mapM_toList,map_eq_pure_bind];simp only[Sem.run_bind,h4,Result.andThen_ok,Sem.run_pure]
 match us with
 | []=>rfl
 | [u]=>rfl
 | u::v::us=>simp[jE]
theorem ue{I:rM}{β':Nat→Option Nat}{rds:List RD}{A':Nat→Prop}(R:RB w0 I A0 n s a w β A)(hA:∀b,b<w.heap.size→A' b→A b){x y:V}{u:Value}(hr:bw ⟨w,A,s.h,β⟩ x u)(hx:fZ s.h x y)
  (hf:∀o∈fM x,∀b,β o=some b→¬ A' b):aY w A' y u:=by
 have fr:∀y v,aY w A y v→aY w A' y v:=fun y v h=>h.frame (fun _ _ _=>rfl) (azJ _) hA
 unfold fZ at hx
 split at hx
 ·rename_i o m
  obtain⟨ob,ho,hn,himp,rfl⟩:=hx;have h2:=(hr ob ho).2 hn;have aO:=R.bZ.ok o ob ho;simp only at h2 aO;cases hb:β o with
  | none=>
   rw[hb]at h2 aO;have h0:ob.rows=[]:=aO;rw[h0,h2];exact .slnil _
  | some b=>
   rw[hb]at h2 aO;obtain⟨cap,cur,rfl,h3,h4,h5,h6⟩:=h2;obtain⟨hA0,cur',hh,rW,hlen,j6⟩:=aO;simp only at hh h5 j6;have:cur'=cur:=by grind
   subst this;rw[hn];refine .sl ob.rows b 0 cap ob.es (fun i j=>(cur'[i*ob.es+j]?).getD undef) (by grind) (fun _=>⟨R.bZ.lt b hA0,hf o (by simp[fM]) b hb⟩) rW (fun i row hi j x hx=>?_) (fun i row hi j x hx=>?_)
   ·obtain⟨v,c1,_⟩:=j6 i row hi j x hx
    rw[az8,cell_of_row w b _ cur' ob.ty (0,0) hh,c1];simp[]
   grind
 ·rcases hx with⟨rfl,hp⟩ | ⟨rfl,rfl⟩
  ·cases y<;>first | exact fr _ _ hr | (simp[V.pure]at hp;done) | (cases hr;done)
  ·have:u=.slice none 0 0:=by cases hr;rfl
   rw[this];exact .slnil _
theorem wF{h:Nat→Option Ob}:∀{xs ys:List V},A8 h xs ys→xs.length=ys.length∧∀(i:Nat) (y:V),ys[i]? = some y→∃x,xs[i]? = some x∧fZ h x y
 | [],[],_=>⟨rfl,fun i y h=>by simp at h⟩
 | x::xs,y::ys,h=>by
  obtain⟨h,t⟩:=h;obtain⟨h1,h2⟩:=wF t;grind
 | [],_::_,h=>h.elim
 | _::_,[],h=>h.elim
def jJ(args:List V):St:=⟨fun i=>(args[i]?).getD (.kI []),fB⟩
theorem RB.ret(R:RB w0 zl A0 n s a w β A){rds:List RD}{xs:List V}{us:List Value}(hl:us.length=xs.length)(hrel:∀(k:Nat) (x:V),xs[k]? = some x→∃u,us[k]? = some u∧Rel ⟨w,A,s.h,β⟩ x u)
  (h1:yI s.h xs rds) (h2:((gj xs rds).filterMap id).Nodup) (h3:∀o∈s7 xs rds,o∉(gj xs rds).filterMap id):∃β' A',vu w0 A0 rds w us β' A':=by
 obtain⟨e1,e2⟩:=A7 h1
 let β':Nat→Option Nat:=fun k=>((gj xs rds)[k]?).bind fun o=>o.bind β
 let A':Nat→Prop:=fun b=>(b<w0.heap.size∧A0 b)∨∃k ob,gC rds k=some ob∧β' k=some b
 have nI:∀o ob b,s.h o=some ob→β o=some b→w0.heap.size≤b:=fun o ob b ho hb=>(R.own o ob b ho hb).resolve_right (fun h=>h)
 have own:∀k ob,gC rds k=some ob→(∃o bA,(gj xs rds)[k]? = some (some o)∧s.h o=some bA∧β' k=β o∧bA.ty=ob.ty∧bA.es=ob.es∧bA.imp=false∧bA.rows=ob.rows∧ob.imp=false∧∀ty es rows,rds[k]? = some (.o ty es rows)→xs[k]? = some (.ref o ob.rows.length))∨
   (β' k=none∧ob.rows=[]∧(∀ty es rows,rds[k]? = some (.o ty es rows)→xs[k]? = some .nil)∧ob.imp=false):=by
  intro k ob hk;unfold gC at hk;cases hr:rds[k]? with
  | none=>simp[hr]at hk
  | some rd=>
   cases rd with
   | v x=>simp[hr,RD.ob]at hk
   | o ty es rows=>
    simp[hr,RD.ob]at hk;subst hk;obtain⟨x,hx,ir⟩:=e2 k _ hr;have F7:=Bf xs rds k x _ hx hr;cases x<;>simp only[jB]at ir
    case ref o m=>
     obtain⟨bA,ho,hn,ht,he,hi,C9⟩:=ir;exact .inl ⟨o,bA,F7,ho,by simp only[β',F7,rS,aAC],ht,he,hi,C9,rfl,fun _ _ _ _=>by rw[hx,hn,C9]⟩
    case nil=>exact .inr ⟨by simp only[β',F7,rS,aAC,Option.bind_none],ir,fun _ _ _ _=>hx,rfl⟩
 have Nw:∀b,b<w.heap.size→A' b→A b:=by
  rintro b _ (⟨hb,h0⟩ | ⟨k,ob,hk,hb⟩)
  ·exact R.a0 b hb h0
  ·rcases own k ob hk with⟨o,bA,_,ho,hβ,_⟩ | ⟨hβ,_⟩
   ·rw[hβ]at hb
    have:=R.bZ.ok o bA ho;simp only at this;rw[hb]at this;exact this.1
   grind
 have frz:∀o bA,s.h o=some bA→o∈s7 xs rds→∀b,β o=some b→¬ A' b:=by
  rintro o bA ho hf b hb (⟨h4,_⟩ | ⟨k,ob,hk,gW⟩)
  ·grind
  ·rcases own k ob hk with⟨o2,bE,F7,ho2,hβ,_⟩ | ⟨hβ,_⟩
   ·rw[hβ]at gW
    have:o=o2:=R.bZ.inj o o2 bA bE b ho ho2 hb gW;subst this;exact h3 o hf (aBx.2 ⟨some o,azO F7,rfl⟩)
   grind
 have amu:∀(k:Nat) (x:V) (rd:RD),xs[k]? = some x→rds[k]? = some rd→∀o∈lD x rd,∀(_:∃ob,s.h o=some ob),∀b,β o=some b→¬ A' b:=
  fun k x rd hx Ze o ho ⟨ob,cR⟩ b hb=>frz o ob cR (BR xs rds k x rd hx Ze o ho) b hb
 have fr:∀y v,aY w A y v→aY w A' y v:=fun y v h=>h.frame (fun _ _ _=>rfl) (azJ _) Nw
 have aP:bU ⟨w,A',gC rds,β'⟩:=by
  refine⟨fun k ob hk=>?_,fun k k' ob ob' b hk wv hb gW=>?_,fun b hb=>?_⟩
  ·rcases own k ob hk with⟨o,bA,_,ho,hβ,qZ,bI,himp,bF,Qj,_⟩ | ⟨hβ,L5,_⟩
   ·simp only[hβ]
    have aO:=R.bZ.ok o bA ho;simp only at aO;cases hb:β o with
    | none=>rw[hb]at aO;have h0:bA.rows=[]:=aO;show ob.rows=[];grind
    | some b=>
     rw[hb]at aO;obtain⟨_,cur,c1,c2,c3,c4⟩:=aO;refine⟨.inr ⟨k,ob,hk,by rw[hβ];exact hb⟩,cur,by rw[← qZ];exact c1,by rw[← bF,← bI];exact c2,by rw[← bF,← bI];exact c3,fun i row hi j x hx=>?_⟩;grind[bw.aN]
   ·simp only[hβ];exact L5
  ·rcases own k ob hk with⟨o,bA,F7,ho,hβ,_⟩ | ⟨hβ,_⟩
   ·rcases own k' ob' wv with⟨o',alb,alU,dT,hβ',_⟩ | ⟨hβ',_⟩
    ·simp only[hβ]at hb
     simp only[hβ']at gW;have:o=o':=R.bZ.inj o o' bA alb b ho dT hb gW;grind[uk]
    grind
   grind
  ·rcases hb with⟨h4,_⟩ | ⟨k,ob,hk,hb⟩
   ·exact az3 h4 R.ev.size
   ·rcases own k ob hk with⟨o,bA,_,ho,hβ,_⟩ | ⟨hβ,_⟩
    ·rw[hβ]at hb
     have:=R.bZ.ok o bA ho;simp only at this;rw[hb]at this;exact R.bZ.lt b this.1
    grind
 refine⟨β',A',by rw[hl,e1],aP,fun k rd hk=>?_,fun b hb h0=>.inl ⟨hb,h0⟩,R.ev,fun k ob b hk hb=>?_⟩
 ·obtain⟨x,hx,ir⟩:=e2 k rd hk
  obtain⟨u,hu,s5⟩:=hrel k x hx;refine⟨u,hu,?_⟩;have hfz:=amu k x rd hx hk;cases rd with
  | o ty es rows=>
   have wv:gC rds k=some ⟨ty,es,false,rows⟩:=by grind[gC,RD.ob]
   intro ob cR;simp only at cR;rw[wv]at cR;cases cR;rcases own k _ wv with⟨o,bA,F7,ho,hβ,qZ,bI,himp,bF,_,F1⟩ | ⟨hβ,L5,F1,_⟩
   ·have F1:=F1 _ _ _ hk
    rw[hx]at F1;cases F1;obtain⟨r1,r2⟩:=s5 bA ho;refine⟨azJ _,fun hn=>?_⟩;grind
   ·have F1:=F1 _ _ _ hk
    rw[hx]at F1;cases F1;simp only at L5;subst L5;refine⟨azJ _,fun _=>?_⟩;simp only[hβ];cases s5;rfl
  | v y=>
   have one:bw ⟨w,A,s.h,β⟩ x u→fZ s.h x y→(∀o∈fM x,o∈lD x (.v y))→aY w A' y u:=by
    intro hr hc oL;refine ue (rds:=rds) (β':=β') R Nw hr hc fun o ho b hb=>?_
    have hex:∃ob,s.h o=some ob:=by
     cases x<;>simp only[fM]at ho<;>simp at ho
     subst ho;obtain⟨ob,h5,_⟩:=hc;grind
    grind
   have many:∀(cs eL:List V) (vs:Array Value),u=.agg vs→vs.size=cs.length→(∀(i:Nat) (z:V),cs[i]? = some z→∃q,vs[i]? = some q∧bw ⟨w,A,s.h,β⟩ z q)→A8 s.h cs eL→(∀o∈cs.flatMap fM,o∈lD x (.v y))→
     cD ⟨w,A',gC rds,β'⟩ (.agg eL) u:=by
    intro cs eL vs hu hs hc hr oL;obtain⟨f1,f2⟩:=wF hr;refine⟨vs,hu,by rw[hs,f1],fun i z hz=>?_⟩;obtain⟨x0,hx0,j6⟩:=f2 i z hz;obtain⟨q,hq,hrq⟩:=hc i x0 hx0;refine⟨q,hq,ue (rds:=rds) (β':=β') R Nw hrq j6 fun o ho b hb=>?_⟩;have hex:∃ob,s.h o=some ob:=by
     cases x0<;>simp only[fM]at ho<;>simp at ho
     subst ho;obtain⟨ob,h5,_⟩:=j6;exact⟨ob,h5⟩
    exact hfz o (oL o (aCc.2 ⟨x0,azO hx0,ho⟩)) hex b hb
   cases x with
   | agg cs=>
    obtain⟨vs,hv,hs,hc⟩:=s5;cases y<;>simp only[jB,fZ]at ir<;>try (simp at ir;done)
    rename_i eL;rcases ir with rfl | ir
    ·exact⟨vs,hv,hs,fun i z hz=>let ⟨q,q1,q2⟩:=hc i z hz;⟨q,q1,fr _ _ q2⟩⟩
    ·exact many cs eL vs hv hs (fun i z hz=>let ⟨q,q1,q2⟩:=hc i z hz;⟨q,q1,bw.aN q2⟩) ir (fun o ho=>by simpa [lD]using ho)
   | eA cs=>
    obtain⟨vs,hv,hs,hc⟩:=s5;cases y<;>simp only[jB,fZ]at ir<;>try (simp[V.pure]at ir;done)
    rename_i eL;exact many cs eL vs hv hs (fun i z hz=>let ⟨q,q1,q2,q3⟩:=hc i z hz;⟨q,q1,q3⟩) ir (fun o ho=>by simpa [lD]using ho)
   | kI vs=>grind[jB,fZ,V.pure]
   | fn f cs=>grind[jB,fZ,V.pure]
   | rd rows=>grind[jB,fZ,V.pure]
   | ptr o n i j=>grind[jB,fZ,V.pure]
   | cp row j=>grind[jB,fZ,V.pure]
   | dead=>grind[jB,fZ,V.pure]
   | ref o m=>exact cD.aN (one s5 ir (fun o ho=>by simpa [lD,fM]using ho))
   | int k m=>exact cD.aN (one s5 ir (fun o ho=>by simp[fM]at ho))
   | bool b=>exact cD.aN (one s5 ir (fun o ho=>by simp[fM]at ho))
   | str b=>exact cD.aN (one s5 ir (fun o ho=>by simp[fM]at ho))
   | nil=>exact cD.aN (one s5 ir (fun o ho=>by simp[fM]at ho))
   | sl rows=>exact cD.aN (one s5 ir (fun o ho=>by simp[fM]at ho))
   | raw v=>exact cD.aN (one s5 ir (fun o ho=>by simp[fM]at ho))
 grind
end
theorem T2{P:Program}{f:FuncId}{fn:Func}{c:Code}{args:List V}{Pd:List RD→Prop}(hf:P.funcs[f]? = some fn)(hb:fn.body=some c)(hn:args.length≤fn.ntmps)
  (aO:∀rds,Pd rds→∀rd∈rds,rd.ok=true)
  (h:∀w0 A0 a w,RR w0 zl A0 fn.ntmps (jJ args) a w→c.wp P (fun e a' w'=>(e=.normal∨e=.ret)∧∃s',(∃rds,Pd rds∧aaJ P fn.results.toList rds s')∧RR w0 zl A0 fn.ntmps s' a' w') a w):EW P f args Pd:=by
 refine⟨aO,fun w A vs hA tL hrel=>calls_of_wp hf hb ?_⟩;have R:RB w zl A fn.ntmps (jJ args) {tmps:=vs++Array.replicate (fn.ntmps-vs.size) undef,defers:=[] } w iE A:=by
  refine⟨rfl,by simp;omega,fun i=>?_,⟨fun o ob ho=>by simp[jJ,fB]at ho,fun o o' ob ob' b ho=>by simp[jJ,fB]at ho,hA⟩,fun b _ h=>h,⟨rfl,rfl,rfl,azJ _,fun _ _ _=>rfl⟩,fun o ob b ho=>by simp[jJ,fB]at ho,fun o hq=>hq.elim,fun o ob hq=>hq.elim⟩;rw[show zl.sv=fun _=>undef from rfl,kS];simp only[jJ];cases hi:args[i]? with
  | some x=>
   obtain⟨u,h1,h2⟩:=hrel i x hi;have bO:i<vs.size:=by grind
   simp only[aAK];rw[aAw,aAZ bO,h1];exact h2
  | none=>
   have Ga:vs.size≤i:=by grind
   simp only[aB1];rw[aAw,aBv Ga];have:((Array.replicate (fn.ntmps-vs.size) undef)[i-vs.size]?).getD undef=undef:=by
    grind
   grind[qW]
 refine wp_mono (h w A _ w ⟨_,_,R⟩) ?_;rintro e a' w' ⟨he,s',⟨rds,xP,hr⟩,β',A',R'⟩;have fin:a'.defers=[]∧∃v,(results fn a'.tmps).run P w'=.ok v w'∧∃rds us β' A',Pd rds∧Ending.returned v=.returned (jE us)∧vu w A rds w' us β' A':=by
  obtain⟨xs,us,⟨k1,k2,k3⟩,hl,Em,iX⟩:=oq R' fn _ hr;obtain⟨β2,A2,hp⟩:=R'.ret hl Em k1 k2 k3;exact⟨R'.defers,_,iX,rds,us,β2,A2,xP,rfl,hp⟩
 rcases he with rfl | rfl<;>exact fin
end Go.AL
