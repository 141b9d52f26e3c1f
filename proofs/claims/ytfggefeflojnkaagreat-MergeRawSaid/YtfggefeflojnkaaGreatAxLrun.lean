/- By an AI agent. -/
import Derived.Test.YtfggefeflojnkaaGreatAxKit
set_option linter.unusedSimpArgs false
namespace Go.AL
def DO(args:List V)(ls:List Ob):St:=⟨fun i=>(args[i]?).getD (.kQ []),cW ls⟩
def wm(ls:List Ob)(β0:Nat→Option Nat):sy:=
 ⟨fun b=>∃i ob,ls[i]? = some ob∧β0 (500+i)=some b,fun o=>∃i ob,o=500+i∧ls[i]? = some ob,β0,fun o=>match ls[o-500]? with | some ob=>ob.rows.length | none=>0,fun _=>undef⟩
def Nk(h:Nat→Option Ob)(ls:List Ob)(outs:List (Option (List (List V))))(own:List Nat):Prop:=
 ∀i ob ob',ls[i]? = some ob→gX ls outs i=some ob'→h (500+i)=some ob'∧ob.imp=false∧ob'.rows.length=ob.rows.length∧500+i∉own
def Gz(P:Program)(rs:List ResultVar)(ls:List Ob)(rds:List RD)(outs:List (Option (List (List V))))(s:St):Prop:=
 rds.length≤500∧Bq P s rs fun xs=>yT s.h xs rds∧((gn xs rds).filterMap id).Nodup∧tv xs rds=[]∧Nk s.h ls outs ((gn xs rds).filterMap id)
theorem RB.DO{w:World}{A:Nat→Prop}{β0:Nat→Option Nat}{n:Nat}{args:List V}{ls:List Ob}{vs:Array Value}(H:cz ⟨w,A,cW ls,β0⟩)(hn:args.length≤n)(xg:vs.size=args.length)(h5:n≤500)(hl:ls.length≤500)
  (hrel:∀(i:Nat) (x:V),args[i]? = some x→∃u,vs[i]? = some u∧Rel ⟨w,A,cW ls,β0⟩ x u) :
  RB w (wm ls β0) A n (Go.AL.DO args ls) {tmps:=vs++Array.replicate (n-vs.size) undef,defers:=[] } w β0 A:=by
 refine⟨rfl,by simp;omega,fun i=>?_,H,fun b _ h=>h,⟨rfl,rfl,rfl,aCt _,fun _ _ _=>rfl⟩,fun o ob b ho hb=>?_,fun o hq=>?_,fun o ob hq ho=>?_⟩
 ·rw[show(wm ls β0).sv=fun _=>undef from rfl,oJ]
  simp only[Go.AL.DO];cases hi:args[i]? with
  | some x=>
   obtain⟨u,h1,h2⟩:=hrel i x hi;have cg:i<vs.size:=by rw[xg];exact(aCD.1 hi).1
   simp only[aDK];rw[aDr,aDX cg,h1];exact h2
  | none=>
   have KB:vs.size≤i:=by rw[xg];simpa using hi
   simp only[aE1];rw[aDr,aEt KB];have:((Array.replicate (n-vs.size) undef)[i-vs.size]?).getD undef=undef:=by
    cases hq:(Array.replicate (n-vs.size) undef)[i-vs.size]? with
    | none=>rfl
    | some q=>
     have:=Array.getElem?_replicate (n:=n-vs.size) (v:=undef) (i:=i-vs.size);rw[hq]at this
     split at this<;>simp at this
     subst this;rfl
   rw[this];exact wS
 ·obtain⟨i,rfl,hi⟩:=fQ ho
  exact .inr ⟨i,ob,hi,hb⟩
 ·obtain⟨i,ob,rfl,hi⟩:=hq
  have:=(aCD.1 hi).1;omega
 ·obtain⟨i,rfl,hi⟩:=fQ ho
  have e:(wm ls β0).len (500+i)=ob.rows.length:=by
   simp only[wm,aEM,hi]
  rw[e];exact⟨aCt _,fun _=>⟨rfl,fun b ct _ hc=>⟨ct,hc,rfl⟩⟩⟩
theorem RB.yT{n:Nat}{w0:World}{A0:Nat→Prop}{ls:List Ob}{β0:Nat→Option Nat}{s:St}{a:Act}{w:World}{β:Nat→Option Nat}{A:Nat→Prop}(R:RB w0 (wm ls β0) A0 n s a w β A)(H0:cz ⟨w0,A0,cW ls,β0⟩){rds:List RD}{outs:List (Option (List (List V)))}{xs:List V}{us:List Value}(hl:us.length=xs.length)(hrel:∀(k:Nat) (x:V),xs[k]? = some x→∃u,us[k]? = some u∧Rel ⟨w,A,s.h,β⟩ x u)
  (h5:rds.length≤500) (h1:yT s.h xs rds) (h2:((gn xs rds).filterMap id).Nodup) (h3:tv xs rds=[]) (h4:Nk s.h ls outs ((gn xs rds).filterMap id)):∃β' A',BQ w0 A0 ls β0 rds outs w us β' A':=by
 obtain⟨e1,e2⟩:=AD h1
 let β':Nat→Option Nat:=fun k=>if 500≤k then β k else((gn xs rds)[k]?).bind fun o=>o.bind β
 have NI:∀k ob,fC rds k=some ob→k<500:=fun k ob hk=>by
  unfold fC at hk;cases hr:rds[k]? with
  | none=>simp[hr]at hk
  | some rd=>have:=(aCD.1 hr).1;omega
 let A':Nat→Prop:=fun b=>(b<w0.heap.size∧A0 b)∨∃k ob,fC rds k=some ob∧β' k=some b
 have kβ':∀k {ob},fC rds k=some ob→β' k=((gn xs rds)[k]?).bind fun o=>o.bind β:=fun k ob hk=>aCo (by have:=NI k ob hk;omega)
 have own:∀k ob,fC rds k=some ob→(∃o bG,(gn xs rds)[k]? = some (some o)∧s.h o=some bG∧β' k=β o∧bG.ty=ob.ty∧bG.es=ob.es∧bG.imp=false∧bG.rows=ob.rows∧ob.imp=false∧∀ty es rows,rds[k]? = some (.o ty es rows)→xs[k]? = some (.ref o ob.rows.length))∨
   (β' k=none∧ob.rows=[]∧(∀ty es rows,rds[k]? = some (.o ty es rows)→xs[k]? = some .nil)∧ob.imp=false):=by
  intro k ob hk;have k5:=NI k ob hk;have kβ:β' k=((gn xs rds)[k]?).bind fun o=>o.bind β:=aCo (by omega)
  unfold fC at hk;cases hr:rds[k]? with
  | none=>simp[hr]at hk
  | some rd=>
   cases rd with
   | v x=>simp[hr,RD.ob]at hk
   | o ty es rows=>
    simp[hr,RD.ob]at hk;subst hk;obtain⟨x,hx,gB⟩:=e2 k _ hr;have og:=jr xs rds k x _ hx hr;cases x<;>simp only[gV,fM]at gB
    case ref o m=>
     obtain⟨bG,ho,hn,ht,he,hi,ub⟩:=gB;exact .inl ⟨o,bG,og,ho,by simp only[kβ,og,jY,aDd],ht,he,hi,ub,rfl,fun _ _ _ _=>by rw[hx,hn,ub]⟩
    case nil=>exact .inr ⟨by simp only[kβ,og,jY,aDd,aEl],gB,fun _ _ _ _=>hx,rfl⟩
   | a ty es rows pre post=>
    simp[hr,RD.ob]at hk;subst hk;obtain⟨x,hx,gB⟩:=e2 k _ hr;have og:=jr xs rds k x _ hx hr;obtain⟨c1,y,c2,hxc,g1,g2,g3,g4,g5⟩:=Fe gB;rcases g4 with⟨_,zl,ho⟩ | ⟨o,bG,_,ho,ht,he,hi,ub,hon⟩
    ·exact .inr ⟨by simp only[kβ,og,ho,aDd,aEl],zl,fun _ _ _ hh=>by(first | (rw[hr]at hh;cases hh) | cases hh),rfl⟩
    ·rw[hon]at og
     exact .inl ⟨o,bG,og,ho,by simp only[kβ,og,aDd],ht,he,hi,ub,rfl,fun _ _ _ hh=>by(first | (rw[hr]at hh;cases hh) | cases hh)⟩
 have FK:∀b,b<w.heap.size→A' b→A b:=by
  rintro b _ (⟨hb,h0⟩ | ⟨k,ob,hk,hb⟩)
  ·exact R.a0 b hb h0
  ·rcases own k ob hk with⟨o,bG,_,ho,hβ,_⟩ | ⟨hβ,_⟩
   ·rw[hβ]at hb
    have:=R.cq.ok o bG ho;simp only at this;rw[hb]at this;exact this.1
   ·rw[hβ]at hb;cases hb
 have frz:∀o bG,s.h o=some bG→o∈tv xs rds→∀b,β o=some b→¬ A' b:=fun o bG _ hf=>by
  rw[h3]at hf;cases hf
 have apa:∀(k:Nat) (x:V) (rd:RD),xs[k]? = some x→rds[k]? = some rd→∀o∈iA x rd,∀(_:∃ob,s.h o=some ob),∀b,β o=some b→¬ A' b:=
  fun k x rd hx hrd o ho ⟨ob,cA⟩ b hb=>frz o ob cA (Bm xs rds k x rd hx hrd o ho) b hb
 have fr:∀y v,bh w A y v→bh w A' y v:=fun y v h=>h.frame (fun _ _ _=>rfl) (aCt _) FK
 have A7:∀p ob',500≤p→gX ls outs (p-500)=some ob'→∃ob,ls[p-500]? = some ob∧s.h p=some ob'∧ob'.imp=false∧ob'.rows.length=ob.rows.length∧p∉(gn xs rds).filterMap id∧β p=β0 p∧ob'.ty=ob.ty∧ob'.es=ob.es∧cW ls p=some ob:=by
  intro p ob' hp ho;have dW:=ho;unfold gX at ho
  split at ho
  ·rename_i ob rows q1 q2
   have e0:500+(p-500)=p:=by omega
   obtain⟨g1,g2,g3,g4⟩:=h4 (p-500) ob ob' q1 dW;rw[e0]at g1 g4;cases ho;have hq:(wm ls β0).q p:=⟨p-500,ob,e0.symm,q1⟩;have av4:=(R.pin p _ hq g1).2 (by simp only[wm,q1];exact g3);exact⟨ob,q1,g1,g2,g3,g4,av4.1,rfl,rfl,by unfold cW;rw[aCr hp];exact q1⟩
  ·cases ho
 have aZ:cz ⟨w,A',dV ls rds outs,β'⟩:=by
  have spl:∀p ob,dV ls rds outs p=some ob→(500≤p∧gX ls outs (p-500)=some ob∧β' p=β p)∨(p<500∧fC rds p=some ob):=by
   intro p ob hp;unfold dV at hp
   split at hp
   ·rename_i h;exact .inl ⟨h,hp,aCr h⟩
   ·rename_i h;exact .inr ⟨by omega,hp⟩
  refine⟨fun k ob hk=>?_,fun k k' ob ob' b hk oY hb jb=>?_,fun b hb=>?_⟩
  ·rcases spl k ob hk with⟨k1,k2,k3⟩ | ⟨k1,hk⟩
   ·obtain⟨bG,g0,g1,g2,g3,g4,g5,g6,g7,g8⟩:=A7 k ob k1 k2
    simp only[k3];have aX:=R.cq.ok k ob g1;simp only at aX;cases hb:β k with
    | none=>rw[hb]at aX;exact aX
    | some b=>
     rw[hb]at aX;obtain⟨_,cur,c1,c2,c3,c4⟩:=aX;have iz:=H0.ok k bG g8;simp only at iz;rw[← g5,hb]at iz;refine⟨.inl ⟨H0.lt b iz.1,iz.1⟩,cur,c1,c2,c3,fun i row hi j x hx=>?_⟩;obtain⟨v,d1,d2,_,d4⟩:=c4 i row hi j x hx;have d5:=fr _ _ (d4 g2);exact⟨v,d1,d2,bB.aU d5,fun _=>d5⟩
   ·rcases own k ob hk with⟨o,bG,_,ho,hβ,rS,bQ,himp,bS,Rl,_⟩ | ⟨hβ,zl,_⟩
    ·simp only[hβ]
     have aX:=R.cq.ok o bG ho;simp only at aX;cases hb:β o with
     | none=>rw[hb]at aX;have h0:bG.rows=[]:=aX;show ob.rows=[];rw[← bS];exact h0
     | some b=>
      rw[hb]at aX;obtain⟨_,cur,c1,c2,c3,c4⟩:=aX;refine⟨.inr ⟨k,ob,hk,by rw[hβ];exact hb⟩,cur,by rw[← rS];exact c1,by rw[← bS,← bQ];exact c2,by rw[← bS,← bQ];exact c3,fun i row hi j x hx=>?_⟩;obtain⟨v,d1,d2,_,d4⟩:=c4 i row (by rw[bS];exact hi) j x hx;have d5:=fr _ _ (d4 himp);exact⟨v,by rw[← bQ];exact d1,d2,bB.aU d5,fun _=>d5⟩
    ·simp only[hβ];exact zl
  ·
   have mix:∀p q o1 o2,500≤p→gX ls outs (p-500)=some o1→fC rds q=some o2→β p=some b→β' q=some b→False:=by
    intro p q o1 o2 p1 p2 p3 p4 p5;obtain⟨_,_,g1,_,_,g4,_⟩:=A7 p o1 p1 p2;rcases own q o2 p3 with⟨o,bG,og,ho,hβ,_⟩ | ⟨hβ,_⟩
    ·rw[hβ]at p5
     have:=R.cq.inj p o o1 bG b g1 ho p4 p5;subst this;exact g4 (aEk.2 ⟨some p,aCC og,rfl⟩)
    ·rw[hβ]at p5;cases p5
   simp only at hb jb;rcases spl k ob hk with⟨k1,k2,k3⟩ | ⟨k1,hk⟩
   ·rcases spl k' ob' oY with⟨l1,l2,l3⟩ | ⟨l1,oY⟩
    ·obtain⟨_,_,g1,_⟩:=A7 k ob k1 k2
     obtain⟨_,_,g1',_⟩:=A7 k' ob' l1 l2;rw[k3]at hb;rw[l3]at jb;exact R.cq.inj k k' ob ob' b g1 g1' hb jb
    ·rw[k3]at hb
     exact(mix k k' ob ob' k1 k2 oY hb jb).elim
   ·rcases spl k' ob' oY with⟨l1,l2,l3⟩ | ⟨l1,oY⟩
    ·rw[l3]at jb
     exact(mix k' k ob' ob l1 l2 hk jb hb).elim
    ·rcases own k ob hk with⟨o,bG,og,ho,hβ,_⟩ | ⟨hβ,_⟩
     ·rcases own k' ob' oY with⟨o',anX,aoD,dW,hβ',_⟩ | ⟨hβ',_⟩
      ·rw[hβ]at hb
       rw[hβ']at jb;have:o=o':=R.cq.inj o o' bG anX b ho dW hb jb;subst this;exact uC _ h2 k k' o og aoD
      ·rw[hβ']at jb;cases jb
     ·rw[hβ]at hb;cases hb
  ·rcases hb with⟨h4,_⟩ | ⟨k,ob,hk,hb⟩
   ·exact aCP h4 R.ev.size
   ·rcases own k ob hk with⟨o,bG,_,ho,hβ,_⟩ | ⟨hβ,_⟩
    ·rw[hβ]at hb
     have:=R.cq.ok o bG ho;simp only at this;rw[hb]at this;exact R.cq.lt b this.1
    ·rw[hβ]at hb;cases hb
 refine⟨β',A',by rw[hl,e1],h5,aZ,fun k rd hk=>?_,fun b hb h0=>.inl ⟨hb,h0⟩,R.ev,fun k ob b hk hb=>?_,fun i ob ob' hi ho=>?_⟩
 ·obtain⟨x,hx,gB⟩:=e2 k rd hk
  obtain⟨u,hu,sH⟩:=hrel k x hx;refine⟨u,hu,?_⟩;have hfz:=apa k x rd hx hk;cases rd with
  | o ty es rows=>
   have oY:fC rds k=some ⟨ty,es,false,rows⟩:=by simp[fC,hk,RD.ob]
   intro ob cA;have KA:dV ls rds outs k=some ⟨ty,es,false,rows⟩:=by
    unfold dV;rw[aCo (by have:=NI k _ oY;omega)];exact oY
   simp only at cA;rw[KA]at cA;cases cA;rcases own k _ oY with⟨o,bG,og,ho,hβ,rS,bQ,himp,bS,_,FA⟩ | ⟨hβ,zl,FA,_⟩
   ·have FA:=FA _ _ _ hk
    rw[hx]at FA;cases FA;obtain⟨r1,r2⟩:=sH bG ho;refine⟨aCt _,fun hn=>?_⟩;simp only at hn bS rS bQ;have r3:=r2 (by rw[bS]);simp only[hβ];cases hb:β o with
    | none=>simp only[hb]at r3;exact r3
    | some b=>
     simp only[hb]at r3;obtain⟨cap,cur,q1,q2,q3,q4,q5⟩:=r3;exact⟨cap,cur,q1,q2,q3,by rw[← rS];exact q4,by rw[← bQ];exact q5⟩
   ·have FA:=FA _ _ _ hk
    rw[hx]at FA;cases FA;simp only at zl;subst zl;refine⟨aCt _,fun _=>?_⟩;simp only[hβ];cases sH;rfl
  | a ty es rows pre post=>
   have oY:fC rds k=some ⟨ty,es,false,rows⟩:=by simp[fC,hk,RD.ob]
   obtain⟨c1,y,c2,hxc,g1,g2,g3,g4,g5⟩:=Fe gB;have og:=jr xs rds k x _ hx hk;obtain⟨vs,hv,dC,hc⟩:∃vs:Array Value,u=.agg vs∧vs.size=(c1++y::c2).length∧∀(i:Nat) (z:V),(c1++y::c2)[i]? = some z→∃q,vs[i]? = some q∧q.oneCell'=true∧bB ⟨w,A,s.h,β⟩ z q:=by
    rcases hxc with rfl | rfl
    ·obtain⟨vs,hv,hs,hc⟩:=sH
     exact⟨vs,hv,hs,fun i z hz=>let ⟨q,q1,q2⟩:=hc i z hz;⟨q,q1,q2.fH,bB.aU q2⟩⟩
    ·obtain⟨vs,hv,hs,hc⟩:=sH
     exact⟨vs,hv,hs,fun i z hz=>hc i z hz⟩
   refine JZ (E':=⟨w,A',dV ls rds outs,β'⟩) hv dC hc g1 g2 g3 (fun x0 y0 q hm hr iu=>?_) (fun q hq=>?_)
   ·refine lu (rds:=rds) (β':=β') R FK hr iu fun o ho b hb=>?_
    have hex:∃ob,s.h o=some ob:=by
     cases x0<;>simp only[eK]at ho<;>simp at ho
     subst ho;obtain⟨ob,h5,_⟩:=iu;exact⟨ob,h5⟩
    exact hfz o (by rw[g5];exact aEO.2 ⟨x0,hm,ho⟩) hex b hb
   ·intro ob cA
    have KA:dV ls rds outs k=some ⟨ty,es,false,rows⟩:=by
     unfold dV;rw[aCo (by have:=NI k _ oY;omega)];exact oY
    simp only at cA;rw[KA]at cA;cases cA;rcases g4 with⟨rfl,zl,ho⟩ | ⟨o,bG,rfl,ho,ht,he,hi,ub,hon⟩
    ·have hβ:β' k=none:=by simp only[kβ' k oY,og,ho,aDd,aEl]
     subst zl;refine⟨aCt _,fun _=>?_⟩;simp only[hβ];cases hq;rfl
    ·rw[hon]at og
     have hβ:β' k=β o:=by simp only[kβ' k oY,og,aDd]
     obtain⟨r1,r2⟩:=hq bG ho;subst ub;refine⟨aCt _,fun hn=>?_⟩;have r3:=r2 rfl;simp only[hβ];cases hb:β o with
     | none=>simp only[hb]at r3;exact r3
     | some b=>
      simp only[hb]at r3;obtain⟨cap,cur,q1,q2,q3,q4,q5⟩:=r3;exact⟨cap,cur,q1,q2,q3,by rw[← ht];exact q4,by rw[← he];exact q5⟩
  | v y=>
   have one:bB ⟨w,A,s.h,β⟩ x u→fM s.h x y→(∀o∈eK x,o∈iA x (.v y))→bh w A' y u:=by
    intro hr hc FB;refine lu (rds:=rds) (β':=β') R FK hr hc fun o ho b hb=>?_
    have hex:∃ob,s.h o=some ob:=by
     cases x<;>simp only[eK]at ho<;>simp at ho
     subst ho;obtain⟨ob,h5,_⟩:=hc;exact⟨ob,h5⟩
    exact hfz o (FB o ho) hex b hb
   have many:∀(cs fj:List V) (vs:Array Value),u=.agg vs→vs.size=cs.length→(∀(i:Nat) (z:V),cs[i]? = some z→∃q,vs[i]? = some q∧bB ⟨w,A,s.h,β⟩ z q)→lq s.h cs fj→(∀o∈cs.flatMap eK,o∈iA x (.v y))→
     cH ⟨w,A',dV ls rds outs,β'⟩ (.agg fj) u:=by
    intro cs fj vs hu hs hc hr FB;obtain⟨f1,f2⟩:=lp hr;refine⟨vs,hu,by rw[hs,f1],fun i z hz=>?_⟩;obtain⟨x0,hx0,iu⟩:=f2 i z hz;obtain⟨q,hq,hrq⟩:=hc i x0 hx0;refine⟨q,hq,lu (rds:=rds) (β':=β') R FK hrq iu fun o ho b hb=>?_⟩;have hex:∃ob,s.h o=some ob:=by
     cases x0<;>simp only[eK]at ho<;>simp at ho
     subst ho;obtain⟨ob,h5,_⟩:=iu;exact⟨ob,h5⟩
    exact hfz o (FB o (aEO.2 ⟨x0,aCC hx0,ho⟩)) hex b hb
   cases x with
   | agg cs=>
    obtain⟨vs,hv,hs,hc⟩:=sH;cases y<;>simp only[gV,fM]at gB<;>try (simp at gB;done)
    rename_i fj;rcases gB with rfl | gB
    ·exact⟨vs,hv,hs,fun i z hz=>let ⟨q,q1,q2⟩:=hc i z hz;⟨q,q1,fr _ _ q2⟩⟩
    ·exact many cs fj vs hv hs (fun i z hz=>let ⟨q,q1,q2⟩:=hc i z hz;⟨q,q1,bB.aU q2⟩) gB (fun o ho=>by simpa [iA]using ho)
   | dP cs=>
    obtain⟨vs,hv,hs,hc⟩:=sH;cases y<;>simp only[gV,fM]at gB<;>try (simp[V.pure]at gB;done)
    rename_i fj;exact many cs fj vs hv hs (fun i z hz=>let ⟨q,q1,q2,q3⟩:=hc i z hz;⟨q,q1,q3⟩) gB (fun o ho=>by simpa [iA]using ho)
   | kQ vs=>simp[gV,fM,V.pure]at gB
   | fn f cs=>simp[gV,fM,V.pure]at gB
   | rd rows=>simp[gV,fM,V.pure]at gB
   | ptr o n i j=>simp[gV,fM,V.pure]at gB
   | cp row j=>simp[gV,fM,V.pure]at gB
   | dead=>simp[gV,fM,V.pure]at gB
   | ref o m=>exact cH.aU (one sH gB (fun o ho=>by simpa [iA,eK]using ho))
   | int k m=>exact cH.aU (one sH gB (fun o ho=>by simp[eK]at ho))
   | bool b=>exact cH.aU (one sH gB (fun o ho=>by simp[eK]at ho))
   | str b=>exact cH.aU (one sH gB (fun o ho=>by simp[eK]at ho))
   | nil=>exact cH.aU (one sH gB (fun o ho=>by simp[eK]at ho))
   | sl rows=>exact cH.aU (one sH gB (fun o ho=>by simp[eK]at ho))
   | raw v=>exact cH.aU (one sH gB (fun o ho=>by simp[eK]at ho))
 ·rcases own k ob hk with⟨o,bG,og,ho,hβ,_⟩ | ⟨hβ,_⟩
  ·rw[hβ]at hb
   rcases R.own o bG b ho hb with h6 | ⟨i,obi,hi,hbi⟩
   ·exact .inl h6
   ·refine .inr ⟨i,obi,hi,?_,hbi⟩
    cases asP:gX ls outs i with
    | none=>rfl
    | some ob'=>
     exfalso;have e:500+i-500=i:=by omega
     obtain⟨_,_,g1,_,_,g4,g5,_⟩:=A7 (500+i) ob' (by omega) (by rw[e];exact asP);have:=R.cq.inj (500+i) o ob' bG b g1 ho (by show β (500+i)=some b;rw[g5];exact hbi) hb;rw[this]at g4;exact g4 (aEk.2 ⟨some o,aCC og,rfl⟩)
  ·rw[hβ]at hb;cases hb
 ·have e:500+i-500=i:=by omega
  obtain⟨bG,g0,g1,_,g3,_,g5,g6,_,g8⟩:=A7 (500+i) ob' (by omega) (by rw[e];exact ho);rw[e]at g0;rw[hi]at g0;cases g0;refine⟨g3,by show(if 500≤500+i then β (500+i)else _)=_;rw[aCr (by omega)];exact g5,fun b cur hb hc=>?_⟩;have hq:(wm ls β0).q (500+i):=⟨i,ob,rfl,hi⟩;have hp:=(R.pin (500+i) ob' hq g1).2 (by simp only[wm,e,hi];exact g3);obtain⟨cur',c1,c2⟩:=hp.2 b cur hb (by rw[g6];exact hc);exact⟨cur',by rw[← g6];exact c1,c2⟩
theorem NS{P:Program}{f:FuncId}{fn:Func}{c:Code}{args:List V}{ls:List Ob}{Pd:List RD→List (Option (List (List V)))→Prop}(hf:P.funcs[f]? = some fn)(hb:fn.body=some c)(hn:args.length≤fn.ntmps)(h5:fn.ntmps≤500)(hls:ls.length≤500)
  (aX:∀rds outs,Pd rds outs→∀rd∈rds,rd.ok=true)
  (h:∀w0 β0 A0 a w,RR w0 (wm ls β0) A0 fn.ntmps (DO args ls) a w→c.wp P (fun e a' w'=>(e=.normal∨e=.ret)∧∃s',(∃rds outs,Pd rds outs∧Gz P fn.results.toList ls rds outs s')∧RR w0 (wm ls β0) A0 fn.ntmps s' a' w') a w):FnL P f args ls Pd:=by
 refine⟨aX,fun w A β0 vs H xg hrel=>calls_of_wp hf hb ?_⟩;have R:=RB.DO (n:=fn.ntmps) H hn xg h5 hls hrel;refine wp_mono (h w β0 A _ w ⟨_,_,R⟩) ?_;rintro e a' w' ⟨he,s',⟨rds,outs,xQ,hsm,hr⟩,β',A',R'⟩;have fin:a'.defers=[]∧∃v,(results fn a'.tmps).run P w'=.ok v w'∧∃rds outs us β' A',Pd rds outs∧Ending.returned v=.returned (jq us)∧BQ w A ls β0 rds outs w' us β' A':=by
  obtain⟨xs,us,⟨k1,k2,k3,k4⟩,hl,DP,jZ⟩:=xJ R' fn _ hr;obtain⟨β2,A2,hp⟩:=R'.yT H hl DP hsm k1 k2 k3 k4;exact⟨R'.defers,_,jZ,rds,outs,us,β2,A2,xQ,rfl,hp⟩
 rcases he with rfl | rfl<;>exact fin
def dT(two:Bool)(ty es:Nat)(τ:List Ty)(ad:List AK)(l l2:List (az τ))(a:dE ad):bF:=
 ⟨fun i=>Fq (.ref 500 0::(vw ad a++(bif two then[.ref 501 0]else[]))) i,
  fun p=>bif Nat.beq p 500 then some (.t 0 ty es τ l)else bif two&&Nat.beq p 501 then some (.t 0 ty es τ l2)else none,1⟩
def dO(two:Bool)(ty es:Nat)(rows rows2:List (List V)):List Ob:=⟨ty,es,false,rows⟩::(bif two then[⟨ty,es,false,rows2⟩]else[])
def gq(two:Bool)(cM:List V)(rows rows2:List (List V)):List V:=.ref 500 rows.length::(cM++(bif two then[.ref 501 rows2.length]else[]))
theorem Uy(two:Bool)(ty es:Nat){τ:List Ty}(ad:List AK)(l l2:List (az τ))(a:dE ad)(cM:List V)(rows rows2:List (List V))(hr:bK τ l rows)(FF:two=true→bK τ l2 rows2)(h:cE ad a cM):
  RS (dT two ty es τ ad l l2 a) (DO (gq two cM rows rows2) (dO two ty es rows rows2)):=by
 have h0:cW (dO two ty es rows rows2) 500=some ⟨ty,es,false,rows⟩:=by simp[cW,dO]
 have h1:two=true→cW (dO two ty es rows rows2) 501=some ⟨ty,es,false,rows2⟩:=fun e=>by subst e;simp[cW,dO]
 have hx0:(dT two ty es τ ad l l2 a).h 500=some (.t 0 ty es τ l):=rfl;refine⟨fun i=>?_,fun o bD ho=>?_⟩
 ·show XV ⟨1,(dT two ty es τ ad l l2 a).h,cW (dO two ty es rows rows2)⟩ (Fq (.ref 500 0::(vw ad a++(bif two then[.ref 501 0]else[]))) i) (((gq two cM rows rows2)[i]?).getD (.kQ []))
  have hv:bj ⟨1,(dT two ty es τ ad l l2 a).h,cW (dO two ty es rows rows2)⟩ (.ref 500 0::(vw ad a++(bif two then[.ref 501 0]else[]))) (gq two cM rows rows2):=by
   have hA:=BJ (H:=⟨1,(dT two ty es τ ad l l2 a).h,cW (dO two ty es rows rows2)⟩) ad a cM h;have hE:bj ⟨1,(dT two ty es τ ad l l2 a).h,cW (dO two ty es rows rows2)⟩ (bif two then[.ref 501 0]else[]) (bif two then[.ref 501 rows2.length]else[]):=by
    cases two with
    | false=>simp only[aCq,bj]
    | true=>
     simp only[aCn,bj];refine⟨_,[],rfl,?_,rfl⟩;simp only[XV];refine⟨Nat.one_pos,fun bD hx _=>⟨_,h1 rfl,rfl⟩⟩
   have awR:∀{xs ys:List X} {vs ws:List V} {H:jR},bj H xs vs→bj H ys ws→bj H (xs++ys) (vs++ws):=by
    intro xs;induction xs with
    | nil=>intro ys vs ws H h1 h2;simp only[bj]at h1;subst h1;exact h2
    | cons x xs ih=>
     intro ys vs ws H h1 h2;simp only[bj]at h1;obtain⟨v,r,rfl,h3,h4⟩:=h1;simp only[aDC,bj];exact⟨v,r++ws,rfl,h3,ih h4 h2⟩
   simp only[gq,bj];refine⟨_,_,rfl,?_,awR hA hE⟩;simp only[XV];exact⟨Nat.one_pos,fun bD hx _=>⟨_,h0,rfl⟩⟩
  rw[Fp];cases hi:(X.ref 500 0::(vw ad a++(bif two then[.ref 501 0]else[])))[i]? with
  | none=>
   have hl:=hv.len;have:(gq two cM rows rows2)[i]? = none:=by
    rw[List.getElem?_eq_none_iff]at hi ⊢;omega
   rw[this];simp only[aE1,XV];exact⟨[],rfl,by simp[bj]⟩
  | some x=>
   obtain⟨v,e1,e2⟩:=hv.at i x hi;rw[e1];exact e2
 ·simp only[dT]at ho
  cases hb:Nat.beq o 500 with
  | true=>
   have:=aCI hb;subst this;rw[hb]at ho;cases ho;exact⟨Nat.one_pos,_,h0,rfl,rfl,rfl,hr⟩
  | false=>
   rw[hb]at ho;simp only[aCq]at ho;cases Bk:(two&&Nat.beq o 501)with
   | false=>rw[Bk]at ho;cases ho
   | true=>
    obtain⟨ht,h5⟩:=aC7.1 Bk;have:=aCI h5;subst this;rw[Bk]at ho;cases ho;exact⟨Nat.one_pos,_,h1 ht,rfl,rfl,rfl,FF ht⟩
def ayL(P:Program)(rs:List ResultVar)(rk:List RK)(s:bF):Option (aA rk):=match kd P s rs with
 | some xs=>match QB s.h rk xs with
  | some (r,f,own)=>bif oU own&&f.isEmpty then some r else none
  | none=>none
 | none=>none
def obD(ty es:Nat)(τ:List Ty):dy→Option (List (az τ))
 | .t _ mG lL σ l=>if hτ:ez σ τ=true then bif Nat.beq mG ty&&Nat.beq lL es then some (iI l hτ)else none else none
 | .u _ mG lL imp rows=>bif Nat.beq mG ty&&Nat.beq lL es&&!imp then jm τ rows else none
def cU(P:Program)(ty es:Nat)(τ:List Ty)(rs:List ResultVar)(rk:List RK)(s:bF):Option (aA rk×List (az τ)):=match kd P s rs with
 | some xs=>match QB s.h rk xs with
  | some (r,f,own)=>bif oU own&&f.isEmpty&&!Nu 500 own then(match s.h 500 with
   | some ob=>(match obD ty es τ ob with
    | some l=>some (r,l)
    | none=>none)
   | none=>none)else none
  | none=>none
 | none=>none
theorem T6:∀(ks:List RK) (r:aA ks) (rds:List RD),cw ks r rds→rds.length=ks.length:=by
 have key:∀(ks:List RK) {A:Type} (Q:A→RD→Prop) (x:aA.jE A ks) (rds:List RD),dg Q ks x rds→rds.length=ks.length+1:=by
  intro ks;induction ks with
  | nil=>intro A Q x rds h;simp only[dg]at h;obtain⟨y,rfl,_⟩:=h;rfl
  | cons k ks ih=>
   intro A Q x rds h;simp only[dg]at h;obtain⟨y,r',rfl,_,h2⟩:=h;simp only[aCv,ih _ _ _ h2]
 intro ks r rds h;cases ks with
 | nil=>simp only[cw]at h;subst h;rfl
 | cons k ks=>simp only[cw]at h;exact key ks _ r rds h
section
variable {xs:bF} {s:St}
theorem anW{H:jR}{ty es:Nat}{τ:List Ty}{bD:dy}{ob:Ob}{l:List (az τ)}(h:obD ty es τ bD=some l)(hx:fV H bD ob):ob.ty=ty∧ob.es=es∧ob.imp=false∧bK τ l ob.rows:=by
 cases bD with
 | t bf mG lL σ l'=>
  simp only[obD]at h
  split at h<;>try (cases h;done)
  rename_i hτ;obtain⟨hb,h⟩:=bg h;cases aDb h;obtain⟨h1,h2,h3,h4⟩:=hx;obtain⟨b1,b2⟩:=aC7.1 hb;exact⟨h1.trans (aCI b1),h2.trans (aCI b2),h3,(cC _ hτ _).2 h4⟩
 | u bf mG lL imp rows=>
  simp only[obD]at h;obtain⟨hb,h⟩:=bg h;simp only[aCs,aDe]at hb;obtain⟨h1,h2,h3,h4⟩:=hx;exact⟨h1.trans (aCI hb.1.1),h2.trans (aCI hb.1.2),by rw[h3];exact hb.2,dq h h4⟩
theorem aex{P:Program}{ty es:Nat}{τ:List Ty}(R:RS xs s){rs:List ResultVar}{rk:List RK}{r:aA rk}{l':List (az τ)}(h:cU P ty es τ rs rk xs=some (r,l'))(hk:rk.length≤500){rows:List (List V)}(hlen:l'.length=rows.length):
  ∃rds bE,cw rk r rds∧bK τ l' bE∧bE.length=rows.length∧Gz P rs [⟨ty,es,false,rows⟩] rds [some bE] s:=by
 unfold cU at h
 split at h<;>try (cases h;done)
 rename_i l hl
 split at h<;>try (cases h;done)
 rename_i r' f own hg;obtain⟨hb,h⟩:=bg h
 split at h<;>try (cases h;done)
 rename_i bD hxo
 split at h<;>try (cases h;done)
 rename_i l2 CH;have:=aDb h;simp only[aCH]at this;obtain⟨rfl,rfl⟩:=this;simp only[aCs,aDe]at hb;have hf:f=[]:=by simpa using hb.1.2
 subst hf;obtain⟨_,ob,ho,cA⟩:=R.h 500 bD hxo;obtain⟨e1,e2,e3,e4⟩:=anW CH cA;have hle:ob.rows.length=rows.length:=by rw[← e4.len];exact hlen
 have awa:ob=⟨ty,es,false,ob.rows⟩:=by cases ob;simp only at e1 e2 e3;subst e1 e2 e3;rfl
 have h1:=mL R rs l hl (fun vs=>∃rds,cw rk r' rds∧(yT s.h vs rds∧((gn vs rds).filterMap id).Nodup∧tv vs rds=[]∧Nk s.h [⟨ty,es,false,rows⟩] [some ob.rows] ((gn vs rds).filterMap id))) (fun vs xg=>by
  obtain⟨rds,k1,k2,k3,k4⟩:=J0 R rk l r' [] own vs hg xg;refine⟨rds,k1,k2,(lE hb.1.1).sublist k4,List.eq_nil_iff_forall_not_mem.2 fun o ho=>by simpa using k3 o ho,fun i bG ob' hi hoo=>?_⟩;cases i with
  | zero=>
   simp at hi;subst hi;simp[gX]at hoo;subst hoo;refine⟨by rw[aEs,ho,awa],rfl,hle,fun hm=>?_⟩;have:=oV.2 (k4.subset hm);rw[aEs,hb.2]at this;cases this
  | succ i=>simp at hi)
 obtain⟨rds,h2⟩:=zo rs _ h1;obtain⟨h3,h4⟩:=u5 rs _ h2;exact⟨rds,ob.rows,h3,e4,hle,by rw[T6 _ _ _ h3];exact hk,h4⟩
end
theorem aiD{β:Type}{C:cR}{Lt:Nat→LD}{g:FuncId}{fn:Func}{c:Code}(two:Bool)(ty es:Nat){τ:List Ty}(ad:List AK)(hm:C.P.follows .mixedOrders=true)(bQ:(∀e∈C.es,e.Ok C.P)∧(∀e∈C.el,e.Ok C.P)∧∀d∈C.inl,d.Ok C.P)(hz:C.fz=[]∧C.inl=[])
  (hL:∀b,(Lt b).ln=bif two then 2 else 1)
  (hf:C.P.funcs[g]? = some fn) (hb:fn.body=some c) (hn:fn.ntmps=C.n) (h5:C.n≤500) (hl:Nat.ble (ad.length+2) C.n=true) (hc:fA C.pm c=true)
  {K:bF→Option β} {l l2:List (az τ)} {a:dE ad} {r:β} (f:Nat) (h:aG C Lt K f [.code c] (dT two ty es τ ad l l2 a)=some r)
  {rows rows2:List (List V)} {cM:List V} (hr:bK τ l rows) (FF:two=true→bK τ l2 rows2) (hv:cE ad a cM)
  {Pd:List RD→List (Option (List (List V)))→Prop} (aX:∀rds outs,Pd rds outs→∀rd∈rds,rd.ok=true)
  (hK:∀xs s,RS xs s→K xs=some r→∃rds outs,Pd rds outs∧Gz C.P fn.results.toList (dO two ty es rows rows2) rds outs s) :
  FnL C.P g (gq two cM rows rows2) (dO two ty es rows rows2) Pd:=by
 have hlen:(gq two cM rows rows2).length≤fn.ntmps:=by
  have h1:=En ad a cM hv;have h2:=aEA hl;rw[hn];cases two<;>simp[gq]<;>omega
 have Ky:(dO two ty es rows rows2).length=bif two then 2 else 1:=by cases two<;>rfl
 refine NS hf hb hlen (by rw[hn];exact h5) (by rw[Ky];cases two<;>decide) aX (fun w0 β0 A0 a0 w hR=>?_);rw[hn]at hR ⊢;have hq:∀o,(wm (dO two ty es rows rows2) β0).q o→500≤o∧o<500+(bif two then 2 else 1):=by
  rintro o ⟨i,ob,rfl,hi⟩;have:=(aCD.1 hi).1;rw[Ky]at this;omega
 have h1:=Aw (w0:=w0) (I:=wm (dO two ty es rows rows2) β0) (A0:=A0) (Rt:=fun a' w'=>∃s',(∃rds outs,Pd rds outs∧Gz C.P fn.results.toList (dO two ty es rows rows2) rds outs s')∧RR w0 (wm (dO two ty es rows rows2) β0) A0 C.n s' a' w') (.inr hz.1) (.inl hz.2)
  (fun b=>.inr ⟨by rw[hL];cases two<;>decide,by rw[hL];exact hq⟩) hm bQ
  (fun xs s R h a w hR=>⟨s,hK xs s R h,hR⟩) f [.code c] _ _ (Uy two ty es ad l l2 a cM rows rows2 hr FF hv) ⟨hc,trivial⟩ trivial h a0 w hR
 refine wp_mono (show c.wp C.P _ a0 w from h1) ?_;intro e a' w' hq;rcases im hq with rfl | rfl | ⟨id,rfl⟩
 ·exact⟨.inl rfl,hq⟩
 ·rw[xA]at hq;exact⟨.inr rfl,hq⟩
 ·exact hq.elim
theorem dZ.ok1{P:Program}{e:dZ}(h:e.two=false)(H:∀l a,e.pre l [] a=true→∀rows cM,bK e.τ l rows→cE e.ad a cM→
  FnL P e.g (.ref 500 rows.length::cM) [⟨e.ty,e.es,false,rows⟩] (e.Pd l [] a rows)):e.Ok P:=by
 unfold dZ.Ok;rw[h];exact H
theorem dZ.of1{P:Program}{e:dZ}(h:e.two=false)(H:e.Ok P):∀l a,e.pre l [] a=true→∀rows cM,bK e.τ l rows→cE e.ad a cM→
  FnL P e.g (.ref 500 rows.length::cM) [⟨e.ty,e.es,false,rows⟩] (e.Pd l [] a rows):=by
 unfold dZ.Ok at H;rw[h]at H;exact H
section
variable {C:cR} {Lt:Nat→LD} {fn:Func} {c:Code} {rs:List ResultVar}
theorem fK(e:dZ)(P:Program)(hP:C.P=P)(hmv:e.mv=false)(UG:e.two=false)(hm:C.P.follows .mixedOrders=true)(bQ:(∀e∈C.es,e.Ok C.P)∧(∀e∈C.el,e.Ok C.P)∧∀d∈C.inl,d.Ok C.P)(hz:C.fz=[]∧C.inl=[])
  (hL:∀b,(Lt b).ln=1) (hf:C.P.funcs[e.g]? = some fn) (hb:fn.body=some c) (hn:fn.ntmps=C.n) (hr:fn.results.toList=rs) (h5:C.n≤500) (hl:Nat.ble (e.ad.length+2) C.n=true) (hc:fA C.pm c=true) (hk:e.rk.length≤500)
  (h:∀l a,e.pre l [] a=true→(e.fn l [] a).2.length=l.length∧∃f,aG C Lt (cU C.P e.ty e.es e.τ rs e.rk) f [.code c] (dT false e.ty e.es e.τ e.ad l [] a)=some (e.fn l [] a)):e.Ok P:=by
 subst hP hr;unfold dZ.Ok;rw[aCo (by rw[UG];decide)];intro l a hp rows cM bS hv;obtain⟨hlen,f,hf'⟩:=h l a hp;have CH:rows.length=l.length:=bS.len.symm;have:=aiD false e.ty e.es e.ad hm bQ hz hL hf hb hn h5 hl hc f hf' (rows2:=[]) bS (fun h=>by cases h) hv (Pd:=e.Pd l [] a rows) (fun rds outs h=>Zr e.rk _ rds h.1)
  (fun xs s R h=>by
   obtain⟨rds,bE,k1,k2,k3,k4⟩:=aex R h hk (by rw[hlen,CH]);refine⟨rds,[some bE],⟨k1,?_⟩,k4⟩;rw[aCo (by rw[UG];decide),aCo (by rw[hmv];decide)];exact⟨bE,rfl,k2,k3⟩)
 simpa [gq,dO]using this
end
end Go.AL
