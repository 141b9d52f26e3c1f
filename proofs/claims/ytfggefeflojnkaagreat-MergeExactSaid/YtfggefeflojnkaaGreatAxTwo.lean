/- AI. -/
import Derived.Test.YtfggefeflojnkaaGreatAxAuto
namespace Go.AL
def afq(h:Nat→Option du)(τ:List Ty):List (Nat×Nat×Nat)→List X→Option (List X)
 | [],row=>some row
 | (j,ty,es)::js,row=>match afq h τ js row with
  | some dX=>match Na h ty es τ[j]? row[j]? with
   | some (ce,_)=>some (dX.set j ce)
   | none=>none
  | none=>none
def yC(P:Program)(rs:List ResultVar)(τ:List Ty)(js:List (Nat×Nat×Nat))(s:br):Option (aA τ):=match kh P s rs with
 | some [.agg true cs]=>match afq s.h τ js cs with
  | some eL=>wE τ eL
  | none=>none
 | _=>none
def OwC(h:Nat→Option Ob)(js:List (Nat×Nat×Nat))(v0:Option V)(i:Nat)(v:V):Prop:=
 (i∉js.map (·.1)∧v0=some v)∨∃ty es rows,(i,ty,es)∈js∧v=.sl rows∧((v0=some .nil∧rows=[])∨∃p,v0=some (.ref p rows.length)∧h p=some ⟨ty,es,false,rows⟩)
theorem Pw{xs:br}{s:St}(R:RS xs s){τ:List Ty}{row:List X}{vs:List V}(h0:aW ⟨xs.c,xs.h,s.h⟩ row vs):∀(js:List (Nat×Nat×Nat)) {dX:List X},afq xs.h τ js row=some dX→
  ∃bS,aW ⟨xs.c,xs.h,s.h⟩ dX bS∧bS.length=vs.length∧∀(i:Nat) (v:V),bS[i]? = some v→OwC s.h js vs[i]? i v
 | [],dX,h=>by
  cases h
  exact⟨vs,h0,rfl,fun i v hv=>.inl ⟨by simp,hv⟩⟩
 | (j,ty,es)::js,dX,h=>by
  unfold afq at h
  split at h<;>try (cases h;done)
  rename_i akF h1
  split at h<;>try (cases h;done)
  rename_i ce src hc;cases h;obtain⟨vs1,g1,g2,g3⟩:=Pw R h0 js h1;obtain⟨b,bE,b1,b2,b3,b4,⟨σ,l,rfl,b5⟩,b6⟩:=zo R hc h0;refine⟨vs1.set j (.sl bE.rows),iS g1 (by grind[XV]),by rw[azX,g2],fun i v hv=>?_⟩;by_cases hi:j=i
  ·subst hi
   have hv:v=.sl bE.rows:=by
    grind
   refine .inr ⟨ty,es,bE.rows,az1 ..,hv,?_⟩;rcases b6 with⟨p2,_,rfl,b7⟩ | ⟨_,rfl,b7⟩
   ·refine .inr ⟨p2,b1,?_⟩
    rw[b7];obtain⟨t2,e2,i2,r2⟩:=bE;grind
   grind
  ·rw[aBc hi]at hv
   rcases g3 i v hv with⟨k1,k2⟩ | ⟨j8,j7,rows,k1,k2⟩
   ·exact .inl ⟨by simp only[aAy,azW,not_or];exact⟨fun e=>hi e.symm,k1⟩,k2⟩
   ·exact .inr ⟨j8,j7,rows,az6 _ k1,k2⟩
def FnW(P:Program)(f:FuncId)(args:List V)(τ:List Ty)(js:List (Nat×Nat×Nat))(r:aA τ):Prop:=
 ∀(w:World) (A:Nat→Prop) (vs:Array Value),(∀b,A b→b<w.heap.size)→vs.size=args.length→
  (∀(i:Nat) (x:V),args[i]? = some x→∃u,vs[i]? = some u∧Rel ⟨w,A,fB,iE⟩ x u)→
  Calls P f vs w fun e w'=>∃(us:Array Value) (qR bS:List V) (h:Nat→Option Ob) (β':Nat→Option Nat) (A':Nat→Prop),e=.returned (.agg us)∧us.size=qR.length∧bS.length=qR.length∧bW τ r bS∧(∀(i:Nat) (v:V),bS[i]? = some v→OwC h js qR[i]? i v)∧
   (∀(i:Nat) (x:V),qR[i]? = some x→∃u,us[i]? = some u∧u.oneCell'=true∧bw ⟨w',A',h,β'⟩ x u)∧bU ⟨w',A',h,β'⟩∧(∀b,b<w.heap.size→A b→A' b)∧Ev w w' (fun _=>False)∧∀o ob b,h o=some ob→β' o=some b→w.heap.size≤b
theorem amv{C:cX}{Lt:Nat→LD}{g:FuncId}{fn:Func}{c:Code}{rs:List ResultVar}(ad:List AK)(τ:List Ty)(js:List (Nat×Nat×Nat))(hm:C.P.follows .mixedOrders=true)(bI:(∀e∈C.es,e.Ok C.P)∧(∀e∈C.el,e.Ok C.P)∧∀d∈C.inl,d.Ok C.P)
  (hf:C.P.funcs[g]? = some fn) (hb:fn.body=some c) (hn:fn.ntmps=C.n) (hr:fn.results.toList=rs) (hl:Nat.ble ad.length C.n=true) (hc:fe C.pm c=true)
  {a:dA ad} {r:aA τ} (f:Nat) (h:aG C Lt (yC C.P rs τ js) f [.code c] (aQ ad a)=some r) (args:List V) (hv:bY ad a args):FnW C.P g args τ js r:=by
 subst hr;intro w A vs hA tL hrel;refine calls_of_wp hf hb ?_;have F9:args.length≤fn.ntmps:=by rw[xo ad a args hv,hn];exact aBz hl
 have R:RB w zl A fn.ntmps (jJ args) {tmps:=vs++Array.replicate (fn.ntmps-vs.size) undef,defers:=[] } w iE A:=by
  refine⟨rfl,by simp;omega,fun i=>?_,⟨fun o ob ho=>by simp[jJ,fB]at ho,fun o o' ob ob' b ho=>by simp[jJ,fB]at ho,hA⟩,fun b _ h=>h,⟨rfl,rfl,rfl,azJ _,fun _ _ _=>rfl⟩,fun o ob b ho=>by simp[jJ,fB]at ho,fun o hq=>hq.elim,fun o ob hq=>hq.elim⟩;rw[show zl.sv=fun _=>undef from rfl,kS];simp only[jJ];cases hi:args[i]? with
  | some x=>
   obtain⟨u,h1,h2⟩:=hrel i x hi;have bO:i<vs.size:=by grind
   simp only[aAK];rw[aAw,aAZ bO,h1];exact h2
  | none=>
   have Ga:vs.size≤i:=by grind
   simp only[aB1];rw[aAw,aBv Ga];have:((Array.replicate (fn.ntmps-vs.size) undef)[i-vs.size]?).getD undef=undef:=by
    grind
   rw[this];exact qW
 have R0:RR w zl A C.n (jJ args) {tmps:=vs++Array.replicate (fn.ntmps-vs.size) undef,defers:=[] } w:=by rw[← hn];exact⟨_,_,R⟩
 have h1:=sN (w0:=w) (I:=zl) (A0:=A) (Rt:=fun a' w'=>∃s',wY C.P s' fn.results.toList (fun xs=>∃qR bS,xs=[.eA qR]∧bS.length=qR.length∧bW τ r bS∧∀(i:Nat) (v:V),bS[i]? = some v→OwC s'.h js qR[i]? i v)∧RR w zl A C.n s' a' w') (.inl fun _ h=>h) (.inr ⟨fun _ h=>h,fun _ h=>h⟩) (fun _=>.inl ⟨fun _ h=>h,fun _ h=>h⟩) hm bI
  (fun xs s R h a w hR=>by
   unfold yC at h
   split at h<;>try (cases h;done)
   rename_i cs uR
   split at h<;>try (cases h;done)
   rename_i eL hw;refine⟨s,jC R fn.results.toList _ uR _ (fun vl hvl=>?_),hR⟩;simp only[aW,XV]at hvl;obtain⟨v,q,rfl,⟨qR,rfl,hx⟩,rfl⟩:=hvl;obtain⟨bS,k1,k2,k3⟩:=Pw R hx js hw;exact⟨qR,bS,rfl,k2,gh τ _ _ _ h k1,k3⟩) f [.code c] _ _ (Kb ad a args hv) ⟨hc,trivial⟩ trivial h _ w R0
 refine wp_mono (show c.wp C.P _ _ w from h1) ?_;intro e a' w' hq;have fin:∀{a' w'},(∃s',wY C.P s' fn.results.toList (fun xs=>∃qR bS,xs=[.eA qR]∧bS.length=qR.length∧bW τ r bS∧∀(i:Nat) (v:V),bS[i]? = some v→OwC s'.h js qR[i]? i v)∧RR w zl A C.n s' a' w')→a'.defers=[]∧∃v,(results fn a'.tmps).run C.P w'=.ok v w'∧∃(us:Array Value) (qR bS:List V) (h:Nat→Option Ob) (β':Nat→Option Nat) (A':Nat→Prop),Ending.returned v=.returned (.agg us)∧us.size=qR.length∧bS.length=qR.length∧bW τ r bS∧(∀(i:Nat) (v:V),bS[i]? = some v→OwC h js qR[i]? i v)∧
   (∀(i:Nat) (x:V),qR[i]? = some x→∃u,us[i]? = some u∧u.oneCell'=true∧bw ⟨w',A',h,β'⟩ x u)∧bU ⟨w',A',h,β'⟩∧(∀b,b<w.heap.size→A b→A' b)∧Ev w w' (fun _=>False)∧∀o ob b,h o=some ob→β' o=some b→w.heap.size≤b:=by
  rintro a' w' ⟨s',Zt,β',A',R'⟩;obtain⟨xs,us,⟨qR,bS,rfl,e1,e2,e3⟩,hul,L3,iX⟩:=oq R' fn _ Zt;obtain⟨u,hu,s5⟩:=L3 0 _ rfl;obtain⟨us0,rfl,k1,k2⟩:=(show ∃vs,u=.agg vs∧vs.size=qR.length∧∀(i:Nat) (x:V),qR[i]? = some x→∃u,vs[i]? = some u∧u.oneCell'=true∧bw ⟨w',A',s'.h,β'⟩ x u from s5);have gV:us=[.agg us0]:=by
   match us,hul,hu with
   | [q],_,hu=>simp at hu;rw[hu]
  subst gV;exact⟨R'.defers,_,iX,us0,qR,bS,s'.h,β',A',rfl,k1,e1,e2,e3,k2,R'.bZ,R'.a0,R'.ev,fun o ob b h1 h2=>(R'.own o ob b h1 h2).resolve_right (fun h=>h)⟩
 rcases gx hq with rfl | rfl | ⟨id,rfl⟩
 ·exact fin hq
 ·rw[tC]at hq;exact fin hq
 ·exact hq.elim
