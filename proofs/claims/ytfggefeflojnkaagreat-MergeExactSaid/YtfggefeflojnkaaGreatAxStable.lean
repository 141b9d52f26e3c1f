/- AI. -/
import Derived.Test.YtfggefeflojnkaaGreatAxAuto
set_option linter.unusedVariables false
namespace Go.AL
def El(args:List V)(ls:List Ob):St:=⟨fun i=>(args[i]?).getD (.kI []),cV ls⟩
def v8(ls:List Ob)(β0:Nat→Option Nat):rM:=
 ⟨fun b=>∃i ob,ls[i]? = some ob∧β0 (500+i)=some b,fun o=>∃i ob,o=500+i∧ls[i]? = some ob,β0,fun o=>match ls[o-500]? with | some ob=>ob.rows.length | none=>0,fun _=>undef⟩
def MS(h:Nat→Option Ob)(ls:List Ob)(outs:List (Option (List (List V))))(own:List Nat):Prop:=
 ∀i ob ob',ls[i]? = some ob→ik ls outs i=some ob'→h (500+i)=some ob'∧ob.imp=false∧ob'.rows.length=ob.rows.length∧500+i∉own
def GM(P:Program)(rs:List ResultVar)(ls:List Ob)(rds:List RD)(outs:List (Option (List (List V))))(s:St):Prop:=
 rds.length≤500∧wY P s rs fun xs=>yI s.h xs rds∧((gj xs rds).filterMap id).Nodup∧s7 xs rds=[]∧MS s.h ls outs ((gj xs rds).filterMap id)
theorem RB.El{w:World}{A:Nat→Prop}{β0:Nat→Option Nat}{n:Nat}{args:List V}{ls:List Ob}{vs:Array Value}(H:bU ⟨w,A,cV ls,β0⟩)(hn:args.length≤n)(tL:vs.size=args.length)(h5:n≤500)(hl:ls.length≤500)
  (hrel:∀(i:Nat) (x:V),args[i]? = some x→∃u,vs[i]? = some u∧Rel ⟨w,A,cV ls,β0⟩ x u) :
  RB w (v8 ls β0) A n (Go.AL.El args ls) {tmps:=vs++Array.replicate (n-vs.size) undef,defers:=[] } w β0 A:=by
 refine⟨rfl,by simp;omega,fun i=>?_,H,fun b _ h=>h,⟨rfl,rfl,rfl,azJ _,fun _ _ _=>rfl⟩,fun o ob b ho hb=>?_,fun o hq=>?_,fun o ob hq ho=>?_⟩
 ·rw[show(v8 ls β0).sv=fun _=>undef from rfl,kS]
  simp only[Go.AL.El];cases hi:args[i]? with
  | some x=>
   obtain⟨u,h1,h2⟩:=hrel i x hi;have bO:i<vs.size:=by grind
   simp only[aAK];rw[aAw,aAZ bO,h1];exact h2
  | none=>
   have Ga:vs.size≤i:=by grind
   simp only[aB1];rw[aAw,aBv Ga];have:((Array.replicate (n-vs.size) undef)[i-vs.size]?).getD undef=undef:=by
    grind
   grind[qW]
 ·obtain⟨i,rfl,hi⟩:=fO ho
  exact .inr ⟨i,ob,hi,hb⟩
 ·obtain⟨i,ob,rfl,hi⟩:=hq
  grind
 ·obtain⟨i,rfl,hi⟩:=fO ho
  have e:(v8 ls β0).len (500+i)=ob.rows.length:=by
   simp only[v8,aB0,hi]
  rw[e];exact⟨azJ _,fun _=>⟨rfl,fun b cb _ hc=>⟨cb,hc,rfl⟩⟩⟩
theorem RB.yI{n:Nat}{w0:World}{A0:Nat→Prop}{ls:List Ob}{β0:Nat→Option Nat}{s:St}{a:Act}{w:World}{β:Nat→Option Nat}{A:Nat→Prop}(R:RB w0 (v8 ls β0) A0 n s a w β A)(H0:bU ⟨w0,A0,cV ls,β0⟩){rds:List RD}{outs:List (Option (List (List V)))}{xs:List V}{us:List Value}(hl:us.length=xs.length)(hrel:∀(k:Nat) (x:V),xs[k]? = some x→∃u,us[k]? = some u∧Rel ⟨w,A,s.h,β⟩ x u)
  (h5:rds.length≤500) (h1:yI s.h xs rds) (h2:((gj xs rds).filterMap id).Nodup) (h3:s7 xs rds=[]) (h4:MS s.h ls outs ((gj xs rds).filterMap id)):∃β' A',CG w0 A0 ls β0 rds outs w us β' A':=by
 obtain⟨e1,e2⟩:=A7 h1
 let β':Nat→Option Nat:=fun k=>if 500≤k then β k else((gj xs rds)[k]?).bind fun o=>o.bind β
 have V1:∀k ob,gC rds k=some ob→k<500:=fun k ob hk=>by
  unfold gC at hk;grind
 let A':Nat→Prop:=fun b=>(b<w0.heap.size∧A0 b)∨∃k ob,gC rds k=some ob∧β' k=some b
 have kβ':∀k {ob},gC rds k=some ob→β' k=((gj xs rds)[k]?).bind fun o=>o.bind β:=fun k ob hk=>azD (by grind)
 have own:∀k ob,gC rds k=some ob→(∃o bA,(gj xs rds)[k]? = some (some o)∧s.h o=some bA∧β' k=β o∧bA.ty=ob.ty∧bA.es=ob.es∧bA.imp=false∧bA.rows=ob.rows∧ob.imp=false∧∀ty es rows,rds[k]? = some (.o ty es rows)→xs[k]? = some (.ref o ob.rows.length))∨
   (β' k=none∧ob.rows=[]∧(∀ty es rows,rds[k]? = some (.o ty es rows)→xs[k]? = some .nil)∧ob.imp=false):=by
  intro k ob hk;have k5:=V1 k ob hk;have kβ:β' k=((gj xs rds)[k]?).bind fun o=>o.bind β:=azD (by omega)
  unfold gC at hk;cases hr:rds[k]? with
  | none=>simp[hr]at hk
  | some rd=>
   cases rd with
   | v x=>simp[hr,RD.ob]at hk
   | o ty es rows=>
    simp[hr,RD.ob]at hk;subst hk;obtain⟨x,hx,ir⟩:=e2 k _ hr;have F7:=Bf xs rds k x _ hx hr;cases x<;>simp only[jB]at ir
    case ref o m=>
     obtain⟨bA,ho,hn,ht,he,hi,C9⟩:=ir;exact .inl ⟨o,bA,F7,ho,by simp only[kβ,F7,rS,aAC],ht,he,hi,C9,rfl,fun _ _ _ _=>by rw[hx,hn,C9]⟩
    case nil=>exact .inr ⟨by simp only[kβ,F7,rS,aAC,Option.bind_none],ir,fun _ _ _ _=>hx,rfl⟩
 have Nw:∀b,b<w.heap.size→A' b→A b:=by
  rintro b _ (⟨hb,h0⟩ | ⟨k,ob,hk,hb⟩)
  ·exact R.a0 b hb h0
  ·rcases own k ob hk with⟨o,bA,_,ho,hβ,_⟩ | ⟨hβ,_⟩
   ·rw[hβ]at hb
    have:=R.bZ.ok o bA ho;simp only at this;rw[hb]at this;exact this.1
   grind
 have frz:∀o bA,s.h o=some bA→o∈s7 xs rds→∀b,β o=some b→¬ A' b:=fun o bA _ hf=>by
  grind
 have amu:∀(k:Nat) (x:V) (rd:RD),xs[k]? = some x→rds[k]? = some rd→∀o∈lD x rd,∀(_:∃ob,s.h o=some ob),∀b,β o=some b→¬ A' b:=
  fun k x rd hx Ze o ho ⟨ob,cR⟩ b hb=>frz o ob cR (BR xs rds k x rd hx Ze o ho) b hb
 have fr:∀y v,aY w A y v→aY w A' y v:=fun y v h=>h.frame (fun _ _ _=>rfl) (azJ _) Nw
 have BC:∀p ob',500≤p→ik ls outs (p-500)=some ob'→∃ob,ls[p-500]? = some ob∧s.h p=some ob'∧ob'.imp=false∧ob'.rows.length=ob.rows.length∧p∉(gj xs rds).filterMap id∧β p=β0 p∧ob'.ty=ob.ty∧ob'.es=ob.es∧cV ls p=some ob:=by
  intro p ob' hp ho;have dT:=ho;unfold ik at ho
  split at ho
  ·rename_i ob rows q1 q2
   have e0:500+(p-500)=p:=by omega
   obtain⟨g1,g2,g3,g4⟩:=h4 (p-500) ob ob' q1 dT;rw[e0]at g1 g4;cases ho;have hq:(v8 ls β0).q p:=⟨p-500,ob,e0.symm,q1⟩;have atm:=(R.pin p _ hq g1).2 (by grind[v8]);exact⟨ob,q1,g1,g2,g3,g4,atm.1,rfl,rfl,by unfold cV;rw[azE hp];exact q1⟩
  ·cases ho
 have aP:bU ⟨w,A',eH ls rds outs,β'⟩:=by
  have spl:∀p ob,eH ls rds outs p=some ob→(500≤p∧ik ls outs (p-500)=some ob∧β' p=β p)∨(p<500∧gC rds p=some ob):=by
   intro p ob hp;unfold eH at hp
   grind
  refine⟨fun k ob hk=>?_,fun k k' ob ob' b hk wv hb gW=>?_,fun b hb=>?_⟩
  ·rcases spl k ob hk with⟨k1,k2,k3⟩ | ⟨k1,hk⟩
   ·obtain⟨bA,g0,g1,g2,g3,g4,g5,g6,g7,g8⟩:=BC k ob k1 k2
    simp only[k3];have aO:=R.bZ.ok k ob g1;simp only at aO;cases hb:β k with
    | none=>rw[hb]at aO;exact aO
    | some b=>
     rw[hb]at aO;obtain⟨_,cur,c1,c2,c3,c4⟩:=aO;have iH:=H0.ok k bA g8;simp only at iH;rw[← g5,hb]at iH;refine⟨.inl ⟨H0.lt b iH.1,iH.1⟩,cur,c1,c2,c3,fun i row hi j x hx=>?_⟩;obtain⟨v,d1,d2,_,d4⟩:=c4 i row hi j x hx;have d5:=fr _ _ (d4 g2);exact⟨v,d1,d2,bw.aN d5,fun _=>d5⟩
   ·rcases own k ob hk with⟨o,bA,_,ho,hβ,qZ,bI,himp,bF,Qj,_⟩ | ⟨hβ,L5,_⟩
    ·simp only[hβ]
     have aO:=R.bZ.ok o bA ho;simp only at aO;cases hb:β o with
     | none=>rw[hb]at aO;have h0:bA.rows=[]:=aO;show ob.rows=[];grind
     | some b=>
      rw[hb]at aO;obtain⟨_,cur,c1,c2,c3,c4⟩:=aO;refine⟨.inr ⟨k,ob,hk,by rw[hβ];exact hb⟩,cur,by rw[← qZ];exact c1,by rw[← bF,← bI];exact c2,by rw[← bF,← bI];exact c3,fun i row hi j x hx=>?_⟩;grind[bw.aN]
    ·simp only[hβ];exact L5
  ·
   have mix:∀p q o1 o2,500≤p→ik ls outs (p-500)=some o1→gC rds q=some o2→β p=some b→β' q=some b→False:=by
    intro p q o1 o2 p1 p2 p3 p4 p5;obtain⟨_,_,g1,_,_,g4,_⟩:=BC p o1 p1 p2;rcases own q o2 p3 with⟨o,bA,F7,ho,hβ,_⟩ | ⟨hβ,_⟩
    ·rw[hβ]at p5
     have:=R.bZ.inj p o o1 bA b g1 ho p4 p5;subst this;exact g4 (aBx.2 ⟨some p,azO F7,rfl⟩)
    grind
   simp only at hb gW;rcases spl k ob hk with⟨k1,k2,k3⟩ | ⟨k1,hk⟩
   ·rcases spl k' ob' wv with⟨l1,l2,l3⟩ | ⟨l1,wv⟩
    ·obtain⟨_,_,g1,_⟩:=BC k ob k1 k2
     obtain⟨_,_,g1',_⟩:=BC k' ob' l1 l2;rw[k3]at hb;rw[l3]at gW;exact R.bZ.inj k k' ob ob' b g1 g1' hb gW
    grind
   ·rcases spl k' ob' wv with⟨l1,l2,l3⟩ | ⟨l1,wv⟩
    ·grind
    ·rcases own k ob hk with⟨o,bA,F7,ho,hβ,_⟩ | ⟨hβ,_⟩
     ·rcases own k' ob' wv with⟨o',alb,alU,dT,hβ',_⟩ | ⟨hβ',_⟩
      ·rw[hβ]at hb
       rw[hβ']at gW;have:o=o':=R.bZ.inj o o' bA alb b ho dT hb gW;grind[uk]
      grind
     grind
  ·rcases hb with⟨h4,_⟩ | ⟨k,ob,hk,hb⟩
   ·exact az3 h4 R.ev.size
   ·rcases own k ob hk with⟨o,bA,_,ho,hβ,_⟩ | ⟨hβ,_⟩
    ·rw[hβ]at hb
     have:=R.bZ.ok o bA ho;simp only at this;rw[hb]at this;exact R.bZ.lt b this.1
    grind
 refine⟨β',A',by rw[hl,e1],h5,aP,fun k rd hk=>?_,fun b hb h0=>.inl ⟨hb,h0⟩,R.ev,fun k ob b hk hb=>?_,fun i ob ob' hi ho=>?_⟩
 ·obtain⟨x,hx,ir⟩:=e2 k rd hk
  obtain⟨u,hu,s5⟩:=hrel k x hx;refine⟨u,hu,?_⟩;have hfz:=amu k x rd hx hk;cases rd with
  | o ty es rows=>
   have wv:gC rds k=some ⟨ty,es,false,rows⟩:=by grind[gC,RD.ob]
   intro ob cR;have hk2:eH ls rds outs k=some ⟨ty,es,false,rows⟩:=by
    grind[eH]
   simp only at cR;rw[hk2]at cR;cases cR;rcases own k _ wv with⟨o,bA,F7,ho,hβ,qZ,bI,himp,bF,_,F1⟩ | ⟨hβ,L5,F1,_⟩
   ·have F1:=F1 _ _ _ hk
    rw[hx]at F1;cases F1;obtain⟨r1,r2⟩:=s5 bA ho;refine⟨azJ _,fun hn=>?_⟩;grind
   ·have F1:=F1 _ _ _ hk
    rw[hx]at F1;cases F1;simp only at L5;subst L5;refine⟨azJ _,fun _=>?_⟩;simp only[hβ];cases s5;rfl
  | v y=>
   have one:bw ⟨w,A,s.h,β⟩ x u→fZ s.h x y→(∀o∈fM x,o∈lD x (.v y))→aY w A' y u:=by
    intro hr hc oL;refine ue (rds:=rds) (β':=β') R Nw hr hc fun o ho b hb=>?_
    have hex:∃ob,s.h o=some ob:=by
     cases x<;>simp only[fM]at ho<;>simp at ho
     subst ho;obtain⟨ob,h5,_⟩:=hc;grind
    grind
   have many:∀(cs eL:List V) (vs:Array Value),u=.agg vs→vs.size=cs.length→(∀(i:Nat) (z:V),cs[i]? = some z→∃q,vs[i]? = some q∧bw ⟨w,A,s.h,β⟩ z q)→A8 s.h cs eL→(∀o∈cs.flatMap fM,o∈lD x (.v y))→
     cD ⟨w,A',eH ls rds outs,β'⟩ (.agg eL) u:=by
    intro cs eL vs hu hs hc hr oL;obtain⟨f1,f2⟩:=wF hr;refine⟨vs,hu,by rw[hs,f1],fun i z hz=>?_⟩;obtain⟨x0,hx0,j6⟩:=f2 i z hz;obtain⟨q,hq,hrq⟩:=hc i x0 hx0;refine⟨q,hq,ue (rds:=rds) (β':=β') R Nw hrq j6 fun o ho b hb=>?_⟩;have hex:∃ob,s.h o=some ob:=by
     cases x0<;>simp only[fM]at ho<;>simp at ho
     subst ho;obtain⟨ob,h5,_⟩:=j6;exact⟨ob,h5⟩
    exact hfz o (oL o (aCc.2 ⟨x0,azO hx0,ho⟩)) hex b hb
   cases x with
   | agg cs=>
    obtain⟨vs,hv,hs,hc⟩:=s5;cases y<;>simp only[jB,fZ]at ir<;>try (simp at ir;done)
    rename_i eL;rcases ir with rfl | ir
    ·exact⟨vs,hv,hs,fun i z hz=>let ⟨q,q1,q2⟩:=hc i z hz;⟨q,q1,fr _ _ q2⟩⟩
    ·exact many cs eL vs hv hs (fun i z hz=>let ⟨q,q1,q2⟩:=hc i z hz;⟨q,q1,bw.aN q2⟩) ir (fun o ho=>by simpa [lD]using ho)
   | eA cs=>
    obtain⟨vs,hv,hs,hc⟩:=s5;cases y<;>simp only[jB,fZ]at ir<;>try (simp[V.pure]at ir;done)
    rename_i eL;exact many cs eL vs hv hs (fun i z hz=>let ⟨q,q1,q2,q3⟩:=hc i z hz;⟨q,q1,q3⟩) ir (fun o ho=>by simpa [lD]using ho)
   | kI vs=>grind[jB,fZ,V.pure]
   | fn f cs=>grind[jB,fZ,V.pure]
   | rd rows=>grind[jB,fZ,V.pure]
   | ptr o n i j=>grind[jB,fZ,V.pure]
   | cp row j=>grind[jB,fZ,V.pure]
   | dead=>grind[jB,fZ,V.pure]
   | ref o m=>exact cD.aN (one s5 ir (fun o ho=>by simpa [lD,fM]using ho))
   | int k m=>exact cD.aN (one s5 ir (fun o ho=>by simp[fM]at ho))
   | bool b=>exact cD.aN (one s5 ir (fun o ho=>by simp[fM]at ho))
   | str b=>exact cD.aN (one s5 ir (fun o ho=>by simp[fM]at ho))
   | nil=>exact cD.aN (one s5 ir (fun o ho=>by simp[fM]at ho))
   | sl rows=>exact cD.aN (one s5 ir (fun o ho=>by simp[fM]at ho))
   | raw v=>exact cD.aN (one s5 ir (fun o ho=>by simp[fM]at ho))
 ·rcases own k ob hk with⟨o,bA,F7,ho,hβ,_⟩ | ⟨hβ,_⟩
  ·rw[hβ]at hb
   rcases R.own o bA b ho hb with h6 | ⟨i,obi,hi,hbi⟩
   ·grind
   ·refine .inr ⟨i,obi,hi,?_,hbi⟩
    cases apW:ik ls outs i with
    | none=>rfl
    | some ob'=>
     exfalso;have e:500+i-500=i:=by omega
     obtain⟨_,_,g1,_,_,g4,g5,_⟩:=BC (500+i) ob' (by omega) (by grind);have:=R.bZ.inj (500+i) o ob' bA b g1 ho (by grind) hb;rw[this]at g4;exact g4 (aBx.2 ⟨some o,azO F7,rfl⟩)
  grind
 ·have e:500+i-500=i:=by omega
  obtain⟨bA,g0,g1,_,g3,_,g5,g6,_,g8⟩:=BC (500+i) ob' (by omega) (by grind);rw[e]at g0;rw[hi]at g0;cases g0;refine⟨g3,by show(if 500≤500+i then β (500+i)else _)=_;rw[azE (by omega)];exact g5,fun b cur hb hc=>?_⟩;have hq:(v8 ls β0).q (500+i):=⟨i,ob,rfl,hi⟩;have hp:=(R.pin (500+i) ob' hq g1).2 (by grind[v8]);grind
theorem NB{P:Program}{f:FuncId}{fn:Func}{c:Code}{args:List V}{ls:List Ob}{Pd:List RD→List (Option (List (List V)))→Prop}(hf:P.funcs[f]? = some fn)(hb:fn.body=some c)(hn:args.length≤fn.ntmps)(h5:fn.ntmps≤500)(hls:ls.length≤500)
  (aO:∀rds outs,Pd rds outs→∀rd∈rds,rd.ok=true)
  (h:∀w0 β0 A0 a w,RR w0 (v8 ls β0) A0 fn.ntmps (El args ls) a w→c.wp P (fun e a' w'=>(e=.normal∨e=.ret)∧∃s',(∃rds outs,Pd rds outs∧GM P fn.results.toList ls rds outs s')∧RR w0 (v8 ls β0) A0 fn.ntmps s' a' w') a w):FnL P f args ls Pd:=by
 refine⟨aO,fun w A β0 vs H tL hrel=>calls_of_wp hf hb ?_⟩;have R:=RB.El (n:=fn.ntmps) H hn tL h5 hls hrel;refine wp_mono (h w β0 A _ w ⟨_,_,R⟩) ?_;rintro e a' w' ⟨he,s',⟨rds,outs,xP,Kh,hr⟩,β',A',R'⟩;have fin:a'.defers=[]∧∃v,(results fn a'.tmps).run P w'=.ok v w'∧∃rds outs us β' A',Pd rds outs∧Ending.returned v=.returned (jE us)∧CG w A ls β0 rds outs w' us β' A':=by
  obtain⟨xs,us,⟨k1,k2,k3,k4⟩,hl,Em,iX⟩:=oq R' fn _ hr;obtain⟨β2,A2,hp⟩:=R'.yI H hl Em Kh k1 k2 k3 k4;exact⟨R'.defers,_,iX,rds,outs,us,β2,A2,xP,rfl,hp⟩
 rcases he with rfl | rfl<;>exact fin
def dR(two:Bool)(ty es:Nat)(τ:List Ty)(ad:List AK)(l l2:List (aA τ))(a:dA ad):br:=
 ⟨fun i=>FQ (.ref 500 0::(vm ad a++(bif two then[.ref 501 0]else[]))) i,
  fun p=>bif Nat.beq p 500 then some (.t 0 ty es τ l)else bif two&&Nat.beq p 501 then some (.t 0 ty es τ l2)else none,1⟩
def dK(two:Bool)(ty es:Nat)(rows rows2:List (List V)):List Ob:=⟨ty,es,false,rows⟩::(bif two then[⟨ty,es,false,rows2⟩]else[])
def gn(two:Bool)(cG:List V)(rows rows2:List (List V)):List V:=.ref 500 rows.length::(cG++(bif two then[.ref 501 rows2.length]else[]))
theorem TJ(two:Bool)(ty es:Nat){τ:List Ty}(ad:List AK)(l l2:List (aA τ))(a:dA ad)(cG:List V)(rows rows2:List (List V))(hr:bD τ l rows)(F5:two=true→bD τ l2 rows2)(h:bY ad a cG):
  RS (dR two ty es τ ad l l2 a) (El (gn two cG rows rows2) (dK two ty es rows rows2)):=by
 have h0:cV (dK two ty es rows rows2) 500=some ⟨ty,es,false,rows⟩:=by simp[cV,dK]
 have h1:two=true→cV (dK two ty es rows rows2) 501=some ⟨ty,es,false,rows2⟩:=fun e=>by subst e;simp[cV,dK]
 have hx0:(dR two ty es τ ad l l2 a).h 500=some (.t 0 ty es τ l):=rfl;refine⟨fun i=>?_,fun o bn ho=>?_⟩
 ·show XV ⟨1,(dR two ty es τ ad l l2 a).h,cV (dK two ty es rows rows2)⟩ (FQ (.ref 500 0::(vm ad a++(bif two then[.ref 501 0]else[]))) i) (((gn two cG rows rows2)[i]?).getD (.kI []))
  have hv:aW ⟨1,(dR two ty es τ ad l l2 a).h,cV (dK two ty es rows rows2)⟩ (.ref 500 0::(vm ad a++(bif two then[.ref 501 0]else[]))) (gn two cG rows rows2):=by
   have hA:=CB (H:=⟨1,(dR two ty es τ ad l l2 a).h,cV (dK two ty es rows rows2)⟩) ad a cG h;have hE:aW ⟨1,(dR two ty es τ ad l l2 a).h,cV (dK two ty es rows rows2)⟩ (bif two then[.ref 501 0]else[]) (bif two then[.ref 501 rows2.length]else[]):=by
    cases two with
    | false=>simp only[azI,aW]
    | true=>
     simp only[azH,aW];grind[XV]
   have aum:∀{xs ys:List X} {vs ws:List V} {H:jg},aW H xs vs→aW H ys ws→aW H (xs++ys) (vs++ws):=by
    intro xs;induction xs with
    | nil=>grind[aW]
    | cons x xs ih=>
     intro ys vs ws H h1 h2;simp only[aW]at h1;obtain⟨v,r,rfl,h3,h4⟩:=h1;simp only[aAS,aW];grind
   simp only[gn,aW];grind[XV]
  rw[FP];cases hi:(X.ref 500 0::(vm ad a++(bif two then[.ref 501 0]else[])))[i]? with
  | none=>
   have hl:=hv.len;have:(gn two cG rows rows2)[i]? = none:=by
    grind
   rw[this];simp only[aB1,XV];grind[aW]
  | some x=>
   obtain⟨v,e1,e2⟩:=hv.at i x hi;grind
 ·simp only[dR]at ho
  cases hb:Nat.beq o 500 with
  | true=>
   have:=azV hb;subst this;rw[hb]at ho;cases ho;exact⟨Nat.one_pos,_,h0,rfl,rfl,rfl,hr⟩
  | false=>
   rw[hb]at ho;simp only[azI]at ho;cases nC:(two&&Nat.beq o 501)with
   | false=>grind
   | true=>
    obtain⟨ht,h5⟩:=aAk.1 nC;have:=azV h5;subst this;rw[nC]at ho;cases ho;exact⟨Nat.one_pos,_,h1 ht,rfl,rfl,rfl,F5 ht⟩
def obD(ty es:Nat)(τ:List Ty):du→Option (List (aA τ))
 | .t _ j8 j7 σ l=>if hτ:eh σ τ=true then bif Nat.beq j8 ty&&Nat.beq j7 es then some (iP l hτ)else none else none
 | .u _ j8 j7 imp rows=>bif Nat.beq j8 ty&&Nat.beq j7 es&&!imp then jz τ rows else none
def cO(P:Program)(ty es:Nat)(τ:List Ty)(rs:List ResultVar)(rk:List RK)(s:br):Option (eC rk×List (aA τ)):=match kh P s rs with
 | some xs=>match Xw s.h rk xs with
  | some (r,f,own)=>bif sT own&&f.isEmpty&&!M6 500 own then(match s.h 500 with
   | some ob=>(match obD ty es τ ob with
    | some l=>some (r,l)
    | none=>none)
   | none=>none)else none
  | none=>none
 | none=>none
theorem Td:∀(ks:List RK) (r:eC ks) (rds:List RD),cf ks r rds→rds.length=ks.length:=by
 have key:∀(ks:List RK) {A:Type} (Q:A→RD→Prop) (x:eC.jV A ks) (rds:List RD),df Q ks x rds→rds.length=ks.length+1:=by
  intro ks;induction ks with
  | nil=>grind[df]
  | cons k ks ih=>
   intro A Q x rds h;simp only[df]at h;grind
 intro ks r rds h;cases ks with
 | nil=>grind[cf]
 | cons k ks=>grind[cf]
section
variable {xs:br} {s:St}
theorem ala{H:jg}{ty es:Nat}{τ:List Ty}{bn:du}{ob:Ob}{l:List (aA τ)}(h:obD ty es τ bn=some l)(hx:fT H bn ob):ob.ty=ty∧ob.es=es∧ob.imp=false∧bD τ l ob.rows:=by
 cases bn with
 | t aU j8 j7 σ l'=>
  simp only[obD]at h
  split at h<;>try trivial
  rename_i hτ;obtain⟨hb,h⟩:=aS h;cases az9 h;obtain⟨h1,h2,h3,h4⟩:=hx;obtain⟨b1,b2⟩:=aAk.1 hb;exact⟨h1.trans (azV b1),h2.trans (azV b2),h3,(cg _ hτ _).2 h4⟩
 | u aU j8 j7 imp rows=>
  simp only[obD]at h;obtain⟨hb,h⟩:=aS h;simp only[azF,aAi]at hb;obtain⟨h1,h2,h3,h4⟩:=hx;exact⟨h1.trans (azV hb.1.1),h2.trans (azV hb.1.2),by rw[h3];exact hb.2,dq h h4⟩
theorem acB{P:Program}{ty es:Nat}{τ:List Ty}(R:RS xs s){rs:List ResultVar}{rk:List RK}{r:eC rk}{l':List (aA τ)}(h:cO P ty es τ rs rk xs=some (r,l'))(hk:rk.length≤500){rows:List (List V)}(hlen:l'.length=rows.length):
  ∃rds bq,cf rk r rds∧bD τ l' bq∧bq.length=rows.length∧GM P rs [⟨ty,es,false,rows⟩] rds [some bq] s:=by
 unfold cO at h
 split at h<;>try trivial
 rename_i l hl
 split at h<;>try trivial
 rename_i r' f own hg;obtain⟨hb,h⟩:=aS h
 split at h<;>try trivial
 rename_i bn hxo
 split at h<;>try trivial
 rename_i l2 Db;have:=az9 h;simp only[azY]at this;obtain⟨rfl,rfl⟩:=this;simp only[azF,aAi]at hb;have hf:f=[]:=by grind
 subst hf;obtain⟨_,ob,ho,cR⟩:=R.h 500 bn hxo;obtain⟨e1,e2,e3,e4⟩:=ala Db cR;have hle:ob.rows.length=rows.length:=by rw[← e4.len];exact hlen
 have att:ob=⟨ty,es,false,ob.rows⟩:=by cases ob;grind
 have h1:=jC R rs l hl (fun vs=>∃rds,cf rk r' rds∧(yI s.h vs rds∧((gj vs rds).filterMap id).Nodup∧s7 vs rds=[]∧MS s.h [⟨ty,es,false,rows⟩] [some ob.rows] ((gj vs rds).filterMap id))) (fun vs tL=>by
  obtain⟨rds,k1,k2,k3,k4⟩:=JG R rk l r' [] own vs hg tL;refine⟨rds,k1,k2,(lu hb.1.1).sublist k4,List.eq_nil_iff_forall_not_mem.2 fun o ho=>by simpa using k3 o ho,fun i bA ob' hi hoo=>?_⟩;cases i with
  | zero=>
   simp at hi;subst hi;simp[ik]at hoo;subst hoo;refine⟨by rw[aBF,ho,att],rfl,hle,fun hm=>?_⟩;have:=oG.2 (k4.subset hm);grind
  | succ i=>grind)
 obtain⟨rds,h2⟩:=zy rs _ h1;obtain⟨h3,h4⟩:=uU rs _ h2;exact⟨rds,ob.rows,h3,e4,hle,by rw[Td _ _ _ h3];exact hk,h4⟩
end
theorem agP{β:Type}{C:cX}{Lt:Nat→LD}{g:FuncId}{fn:Func}{c:Code}(two:Bool)(ty es:Nat){τ:List Ty}(ad:List AK)(hm:C.P.follows .mixedOrders=true)(bI:(∀e∈C.es,e.Ok C.P)∧(∀e∈C.el,e.Ok C.P)∧∀d∈C.inl,d.Ok C.P)(hz:C.fz=[]∧C.inl=[])
  (hL:∀b,(Lt b).ln=bif two then 2 else 1)
  (hf:C.P.funcs[g]? = some fn) (hb:fn.body=some c) (hn:fn.ntmps=C.n) (h5:C.n≤500) (hl:Nat.ble (ad.length+2) C.n=true) (hc:fe C.pm c=true)
  {K:br→Option β} {l l2:List (aA τ)} {a:dA ad} {r:β} (f:Nat) (h:aG C Lt K f [.code c] (dR two ty es τ ad l l2 a)=some r)
  {rows rows2:List (List V)} {cG:List V} (hr:bD τ l rows) (F5:two=true→bD τ l2 rows2) (hv:bY ad a cG)
  {Pd:List RD→List (Option (List (List V)))→Prop} (aO:∀rds outs,Pd rds outs→∀rd∈rds,rd.ok=true)
  (hK:∀xs s,RS xs s→K xs=some r→∃rds outs,Pd rds outs∧GM C.P fn.results.toList (dK two ty es rows rows2) rds outs s) :
  FnL C.P g (gn two cG rows rows2) (dK two ty es rows rows2) Pd:=by
 have hlen:(gn two cG rows rows2).length≤fn.ntmps:=by
  have h1:=xo ad a cG hv;have h2:=aBz hl;grind[gn]
 have Nn:(dK two ty es rows rows2).length=bif two then 2 else 1:=by cases two<;>rfl
 refine NB hf hb hlen (by grind) (by grind) aO (fun w0 β0 A0 a0 w hR=>?_);rw[hn]at hR ⊢;have hq:∀o,(v8 (dK two ty es rows rows2) β0).q o→500≤o∧o<500+(bif two then 2 else 1):=by
  rintro o ⟨i,ob,rfl,hi⟩;grind
 have h1:=sN (w0:=w0) (I:=v8 (dK two ty es rows rows2) β0) (A0:=A0) (Rt:=fun a' w'=>∃s',(∃rds outs,Pd rds outs∧GM C.P fn.results.toList (dK two ty es rows rows2) rds outs s')∧RR w0 (v8 (dK two ty es rows rows2) β0) A0 C.n s' a' w') (.inr hz.1) (.inl hz.2)
  (fun b=>.inr ⟨by rw[hL];cases two<;>decide,by rw[hL];exact hq⟩) hm bI
  (fun xs s R h a w hR=>⟨s,hK xs s R h,hR⟩) f [.code c] _ _ (TJ two ty es ad l l2 a cG rows rows2 hr F5 hv) ⟨hc,trivial⟩ trivial h a0 w hR
 refine wp_mono (show c.wp C.P _ a0 w from h1) ?_;intro e a' w' hq;rcases gx hq with rfl | rfl | ⟨id,rfl⟩
 ·exact⟨.inl rfl,hq⟩
 ·grind[tC]
 ·exact hq.elim
theorem dW.ok1{P:Program}{e:dW}(h:e.two=false)(H:∀l a,e.pre l [] a=true→∀rows cG,bD e.τ l rows→bY e.ad a cG→
  FnL P e.g (.ref 500 rows.length::cG) [⟨e.ty,e.es,false,rows⟩] (e.Pd l [] a rows)):e.Ok P:=by
 grind[dW.Ok]
theorem dW.of1{P:Program}{e:dW}(h:e.two=false)(H:e.Ok P):∀l a,e.pre l [] a=true→∀rows cG,bD e.τ l rows→bY e.ad a cG→
  FnL P e.g (.ref 500 rows.length::cG) [⟨e.ty,e.es,false,rows⟩] (e.Pd l [] a rows):=by
 grind[dW.Ok]
section
variable {C:cX} {Lt:Nat→LD} {fn:Func} {c:Code} {rs:List ResultVar}
theorem fJ(e:dW)(P:Program)(hP:C.P=P)(hmv:e.mv=false)(TR:e.two=false)(hm:C.P.follows .mixedOrders=true)(bI:(∀e∈C.es,e.Ok C.P)∧(∀e∈C.el,e.Ok C.P)∧∀d∈C.inl,d.Ok C.P)(hz:C.fz=[]∧C.inl=[])
  (hL:∀b,(Lt b).ln=1) (hf:C.P.funcs[e.g]? = some fn) (hb:fn.body=some c) (hn:fn.ntmps=C.n) (hr:fn.results.toList=rs) (h5:C.n≤500) (hl:Nat.ble (e.ad.length+2) C.n=true) (hc:fe C.pm c=true) (hk:e.rk.length≤500)
  (h:∀l a,e.pre l [] a=true→(e.fn l [] a).2.length=l.length∧∃f,aG C Lt (cO C.P e.ty e.es e.τ rs e.rk) f [.code c] (dR false e.ty e.es e.τ e.ad l [] a)=some (e.fn l [] a)):e.Ok P:=by
 subst hP hr;unfold dW.Ok;rw[azD (by grind)];intro l a hp rows cG bF hv;obtain⟨hlen,f,hf'⟩:=h l a hp;have Db:rows.length=l.length:=bF.len.symm;have:=agP false e.ty e.es e.ad hm bI hz hL hf hb hn h5 hl hc f hf' (rows2:=[]) bF (fun h=>by cases h) hv (Pd:=e.Pd l [] a rows) (fun rds outs h=>XC e.rk _ rds h.1)
  (fun xs s R h=>by
   obtain⟨rds,bq,k1,k2,k3,k4⟩:=acB R h hk (by rw[hlen,Db]);refine⟨rds,[some bq],⟨k1,?_⟩,k4⟩;rw[azD (by grind),azD (by grind)];exact⟨bq,rfl,k2,k3⟩)
 grind[gn,dK]
end
end Go.AL
namespace Go.AL
section
variable {α:Type} {lt:α→α→Bool}
structure qt (lt:α→α→Bool):Prop where
 asymm:∀a b,lt a b=true→lt b a=false
 ntrans:∀a b c,lt b a=false→lt c b=false→lt c a=false
theorem qt.irrefl(O:qt lt)(a:α):lt a a=false:=by
 cases h:lt a a
 ·rfl
 ·have:=O.asymm a a h;grind
theorem qt.ahZ(O:qt lt){a b c:α}(h1:lt a b=true)(h2:lt c b=false):lt a c=true:=by
 cases h:lt a c
 ·have:=O.ntrans b c a h2 h;grind
 ·rfl
theorem qt.ah1(O:qt lt){a b c:α}(h1:lt b a=false)(h2:lt b c=true):lt a c=true:=by
 cases h:lt a c
 ·have:=O.ntrans c a b h h1;grind
 ·rfl
def dD(lt:α→α→Bool)(s:List α):Prop:=s.Pairwise (fun a b=>lt b a=false)
def cA(lt:α→α→Bool)(x:α):List α→List α
 | []=>[x]
 | y::r=>bif lt x y then x::y::r else y::cA lt x r
def ca(lt:α→α→Bool)(l:List α):List α:=l.foldl (fun s x=>cA lt x s) []
def fN(lt:α→α→Bool):List α→List α→List α
 | [],v=>v
 | u,[]=>u
 | a::u,b::v=>bif lt b a then b::fN lt (a::u) v else a::fN lt u (b::v)
termination_by u v=>u.length+v.length
theorem fb(u:List α):fN lt u []=u:=by grind[fN]
theorem fp(v:List α):fN lt [] v=v:=by simp[fN]
theorem dF(a b:α)(u v:List α):fN lt (a::u) (b::v)=bif lt b a then b::fN lt (a::u) v else a::fN lt u (b::v):=by rw[fN]
theorem Bn{x z:α}:∀{s:List α},z∈cA lt x s↔z=x∨z∈s
 | []=>by simp[cA]
 | y::r=>by
  simp only[cA];cases lt x y
  ·simp only[azI,azW,Bn (s:=r)]
   grind
  ·simp
theorem oJ(x:α):∀s:List α,(cA lt x s).length=s.length+1
 | []=>rfl
 | y::r=>by simp only[cA];cases lt x y<;>simp[oJ x r]
theorem D7(x:α):∀s:List α,(cA lt x s).Perm (x::s)
 | []=>.refl _
 | y::r=>by
  simp only[cA];cases lt x y
  ·exact((D7 x r).cons y).trans (.swap x y r)
  simp_all
theorem kP(O:qt lt){x:α}:∀{s:List α},dD lt s→dD lt (cA lt x s)
 | [],_=>by simp[cA,dD]
 | y::r,h=>by
  have h':=aAq.1 h;simp only[cA];cases hx:lt x y
  ·refine aAq.2 ⟨fun z hz=>?_,kP O h'.2⟩
   rcases Bn.1 hz with rfl | hz
   all_goals grind
  ·refine aAq.2 ⟨fun z hz=>?_,h⟩
   rcases azW.1 hz with rfl | hz
   ·exact O.asymm _ _ hx
   ·exact O.ntrans x y z (O.asymm _ _ hx) (h'.1 z hz)
theorem BS(O:qt lt):∀(l s:List α),dD lt s→dD lt (l.foldl (fun s x=>cA lt x s) s)
 | [],s,h=>h
 | x::l,s,h=>BS O l _ (kP O h)
theorem jy(O:qt lt)(l:List α):dD lt (ca lt l):=BS O l [] .nil
theorem BT:∀(l s:List α),(l.foldl (fun s x=>cA lt x s) s).Perm (s++l)
 | [],s=>by simp
 | x::l,s=>(BT l _).trans (((D7 x s).append_right l).trans (by
   show(x::(s++l)).Perm (s++x::l);exact List.perm_middle.symm))
theorem lb(l:List α):(ca lt l).Perm l:=BT (lt:=lt) l []
theorem bh(l:List α):(ca lt l).length=l.length:=(lb l).length_eq
theorem uC:∀(u v:List α),(fN lt u v).length=u.length+v.length
 | [],v=>by simp[fp]
 | a::u,[]=>by simp[fb]
 | a::u,b::v=>by
  rw[dF];cases lt b a
  ·simp only[azI,azL,uC u (b::v)];omega
  ·simp only[azH,azL,uC (a::u) v];omega
termination_by u v=>u.length+v.length
theorem uz(O:qt lt)(x:α):∀(s t:List α),dD lt s→dD lt t→fN lt s (cA lt x t)=cA lt x (fN lt s t)
 | [],t,_,_=>by simp[fp]
 | a::s,[],hs,_=>by
  rw[fb];simp only[cA,dF,fb];cases hx:lt x a
  ·have:=uz O x s [] (aAq.1 hs).2 .nil
   simp only[cA,fb]at this;grind
  ·rfl
 | a::s,b::t,hs,ht=>by
  have F3:=aAq.1 hs;have ht':=aAq.1 ht;have i1:=uz O x s (b::t) F3.2 ht;have i2:=uz O x (a::s) t hs ht'.2;cases P9:lt x b
  ·have e:cA lt x (b::t)=b::cA lt x t:=by grind[cA]
   rw[e]at i1 ⊢;rw[dF,dF];cases hba:lt b a
   ·have Qa:lt x a=false:=O.ntrans a b x hba P9
    simp only[azI,cA,Qa,i1]
   ·simp only[azH,cA,P9,azI,i2]
  ·have e:cA lt x (b::t)=x::b::t:=by grind[cA]
   rw[e]at i1 ⊢;rw[dF (lt:=lt) a x s (b::t),dF a b s t];cases hba:lt b a
   ·cases Qa:lt x a
    ·simp only[azI,cA,Qa,i1]
    ·simp only[azI,azH,cA,Qa]
   ·have Qa:lt x a=true:=by
     cases h:lt x a
     ·have:=O.ntrans b a x (O.asymm _ _ hba) h;grind
     ·rfl
    simp only[Qa,azH,cA,P9]
termination_by s t=>s.length+t.length
theorem Bm(O:qt lt){s:List α}(hs:dD lt s):∀(v t:List α),dD lt t→fN lt s (v.foldl (fun s x=>cA lt x s) t)=v.foldl (fun s x=>cA lt x s) (fN lt s t)
 | [],t,ht=>rfl
 | x::v,t,ht=>by
  simp only[aAN];rw[Bm O hs v _ (kP O ht),uz O x s t hs ht]
theorem JY(O:qt lt)(u v:List α):fN lt (ca lt u) (ca lt v)=ca lt (u++v):=by
 have:=Bm O (jy O u) v [] .nil;rw[fb]at this;unfold ca at *;grind
theorem er:∀(u1 v1 u2 v2:List α),(∀p∈u2,∀q∈v1,lt q p=true)→(∀p∈u1,∀q∈v2,lt q p=false)→fN lt (u1++u2) (v1++v2)=fN lt u1 v1++fN lt u2 v2
 | [],[],u2,v2,_,_=>by simp[fp]
 | [],q::v1,[],v2,h1,h2=>by simp[fp]
 | [],q::v1,p::u2,v2,h1,h2=>by
  have i:=er [] v1 (p::u2) v2 (fun a ha b hb=>h1 a ha b (az6 _ hb)) h2;simp only[aAs,aAS,fp]at i ⊢;rw[dF,h1 p (az1 ..) q (az1 ..),azH,i]
 | p::u1,[],u2,[],h1,h2=>by simp[fb]
 | p::u1,[],u2,q::v2,h1,h2=>by
  have i:=er u1 [] u2 (q::v2) h1 (fun a ha b hb=>h2 a (az6 _ ha) b hb);simp only[aAs,aAS,fb]at i ⊢;rw[dF,h2 p (az1 ..) q (az1 ..),azI,i]
 | p::u1,q::v1,u2,v2,h1,h2=>by
  have i1:=er (p::u1) v1 u2 v2 (fun a ha b hb=>h1 a ha b (az6 _ hb)) h2;have i2:=er u1 (q::v1) u2 v2 h1 (fun a ha b hb=>h2 a (az6 _ ha) b hb);simp only[aAS]at i1 i2 ⊢;grind[dF]
termination_by u1 v1=>u1.length+v1.length
theorem Fz{x q y:List α}{p r:α}{i j:Nat}(hi:i=x.length)(hj:j=x.length+1+q.length):((x++p::(q++r::y)).set i r).set j p=x++r::(q++p::y):=by
 subst hi hj;grind
theorem tU{x q y:List α}{p r:α}{i j:Nat}(hi:i=x.length)(hj:j=x.length+1+q.length):((x++p::(q++r::y)).set j p).set i r=x++r::(q++p::y):=by
 rw[List.set_comm _ _ (by omega)];grind[Fz]
theorem jN{x q y:List α}{p r z:α}{i:Nat}(hi:i=x.length):(x++p::y).getD i z=p:=by
 grind
theorem lC{x q y:List α}{p r z:α}{j:Nat}(hj:j=x.length+1+q.length):(x++p::(q++r::y)).getD j z=r:=by
 grind
end
end Go.AL
