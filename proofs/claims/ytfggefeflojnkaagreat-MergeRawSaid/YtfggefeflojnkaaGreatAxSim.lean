/- By an AI agent. -/
import Derived.Test.YtfggefeflojnkaaGreatAxOp
set_option linter.unusedSectionVars false
set_option linter.unusedSimpArgs false
set_option linter.unusedVariables false
namespace Go.AL
def sP(H:jR):IP→AR→Prop
 | .val c x,r=>c=true→∃p v,r=.val p v∧p∧XV H x v
 | .new c ob b,r=>c=true→∃p ob',r=.new p ob' b∧p∧fV H ob ob'∧(b=false→0<ob'.rows.length)
 | .H7 c o ob,r=>c=true→∃p ob',r=.H7 p o ob'∧p∧fV H ob ob'∧∃IY bG,H.x o=some IY∧ob.bf=IY.bf∧H.v o=some bG∧ob'.rows.length=bG.rows.length
 | .app c o ob,r=>c=true→∃p ob',r=.app p o ob'∧p∧fV H ob ob'
 | .call g args,r=>∃vs,r=.call g vs∧bj H args vs
 | .bad,_=>True
def Od(P:Program)(h:Nat→Option Ob)(t:TypeId)(v iv:V):AR:=match v with
 | .ref ..=>dL P h t v iv
 | .ptr ..=>eo P h t v iv
 | _=>dx P t v iv
section
variable {P:Program} {H:jR}
theorem bj.len:∀{xs:List X} {vs:List V},bj H xs vs→vs.length=xs.length
 | [],vs,h=>by simp only[bj]at h;subst h;rfl
 | x::xs,vs,h=>by
  simp only[bj]at h;obtain⟨v,r,rfl,_,h3⟩:=h;simp[bj.len h3]
theorem bj.at:∀{xs:List X} {vs:List V},bj H xs vs→∀(j:Nat) (x:X),xs[j]? = some x→∃v,vs[j]? = some v∧XV H x v
 | [],vs,h,j,x,hx=>by simp at hx
 | x::xs,vs,h,0,y,hy=>by
  simp only[bj]at h;obtain⟨v,r,rfl,h2,h3⟩:=h;simp at hy;subst hy;exact⟨v,rfl,h2⟩
 | x::xs,vs,h,j+1,y,hy=>by
  simp only[bj]at h;obtain⟨v,r,rfl,h2,h3⟩:=h;exact bj.at h3 j y (by simpa using hy)
theorem bj.take:∀(n:Nat) {xs:List X} {vs:List V},bj H xs vs→bj H (xs.take n) (vs.take n)
 | 0,xs,vs,h=>by simp[bj]
 | n+1,[],vs,h=>by simp only[bj]at h;subst h;simp[bj]
 | n+1,x::xs,vs,h=>by
  simp only[bj]at h;obtain⟨v,r,rfl,h2,h3⟩:=h;simp only[List.take_succ_cons,bj];exact⟨v,_,rfl,h2,bj.take n h3⟩
theorem bj.drop:∀(n:Nat) {xs:List X} {vs:List V},bj H xs vs→bj H (xs.drop n) (vs.drop n)
 | 0,xs,vs,h=>by simpa using h
 | n+1,[],vs,h=>by simp only[bj]at h;subst h;simp[bj]
 | n+1,x::xs,vs,h=>by
  simp only[bj]at h;obtain⟨v,r,rfl,h2,h3⟩:=h;simpa only[List.drop_succ_cons]using bj.drop n h3
theorem bj.app:∀{xs:List X} {vs:List V} {ys:List X} {us:List V},bj H xs vs→bj H ys us→bj H (xs++ys) (vs++us)
 | [],vs,ys,us,h,h'=>by simp only[bj]at h;subst h;simpa using h'
 | x::xs,vs,ys,us,h,h'=>by
  simp only[bj]at h;obtain⟨v,r,rfl,h2,h3⟩:=h;simp only[aDC,bj];exact⟨v,_,rfl,h2,bj.app h3 h'⟩
theorem bj.cut{xs:List X}{vs:List V}(h:bj H xs vs)(j n:Nat):bj H (apK xs j n) (cut vs j n):=(h.drop j).take n
theorem bj.putAt{xs ys:List X}{vs us:List V}(h:bj H xs vs)(h':bj H ys us)(j:Nat):bj H (ZK xs j ys) (putAt vs j us):=by
 unfold ZK AL.putAt;rw[h'.len];exact((h.take j).app h').app (h.drop _)
theorem EM(v:Value):XV H (X.de v) (V.de v):=by
 unfold X.de V.de
 split<;>(try simp only[XV])
 split<;>simp only[XV]
theorem Ab:∀(l:List Value),bj H (l.map X.de) (l.map V.de)
 | []=>by simp[bj]
 | v::l=>by
  simp only[aDh,bj];exact⟨_,_,rfl,EM v,Ab l⟩
theorem amp(v:Value):XV H (X.oT v) (V.oT v):=by
 have h0:=EM (H:=H) v;cases v with
 | agg cs=>
  simp only[X.oT,V.oT]
  split
  ·simp only[XV];exact⟨_,rfl,Ab _⟩
  ·simp only[XV]
 | _=>exact h0
theorem RS.ev{xs:bF}{s:St}(R:RS xs s)(x:Operand):XV ⟨xs.c,xs.h,s.h⟩ (xs.ev x) (s.ev x):=by
 cases x with
 | tmp i=>
  show XV _ (bif Nat.blt i 100000 then xs.t i else .dead) (if i<100000 then s.t i else .dead);cases hb:Nat.blt i 100000 with
  | true=>rw[aCr (by simpa [Nat.blt_eq]using hb)];exact R.t i
  | false=>simp only[aCq,XV]
 | const v=>exact amp v
 | func f=>
  simp only[bF.ev,St.ev,XV];exact⟨fun x hx=>(by cases hx),fun _=>⟨[],rfl,by simp[bj]⟩⟩
 | global g=>simp only[bF.ev,XV]
theorem s5{t:TypeId}{z:List X}(h:IT P t=some z):∃z',eW P t=some z'∧bj H z z':=by
 unfold IT at h;unfold eW
 split at h<;>try (cases h;done)
 rename_i v hv;rw[hv];simp only
 split at h<;>try (cases h;done)
 rename_i hc;rw[aCr hc];cases h;exact⟨_,rfl,Ab _⟩
variable (aZ:∀o bD,H.x o=some bD→bD.bf<H.c∧∃ob,H.v o=some ob∧fV H bD ob)
include aZ
theorem cQ{o bf:Nat}{v:V}(hx:XV H (.ref o bf) v)(hc:dv H.x o bf=true):∃bD ob,H.x o=some bD∧bD.bf=bf∧H.v o=some ob∧fV H bD ob∧v=.ref o ob.rows.length:=by
 unfold dv at hc
 split at hc<;>try (cases hc;done)
 rename_i bD ho;have hv:bD.bf=bf:=aCI hc;simp only[XV]at hx;obtain⟨ob,h1,h2⟩:=hx.2 bD ho hv;obtain⟨_,ob',h3,h4⟩:=aZ o bD ho;rw[h1]at h3;cases h3;exact⟨bD,ob,ho,hv,h1,h4,h2⟩
theorem ed{o bf i j:Nat}{v:V}(hx:XV H (.ptr o bf i j) v)(hc:dv H.x o bf=true):∃bD ob,H.x o=some bD∧bD.bf=bf∧H.v o=some ob∧fV H bD ob∧i<ob.rows.length∧v=.ptr o ob.rows.length i j:=by
 unfold dv at hc
 split at hc<;>try (cases hc;done)
 rename_i bD ho;have hv:bD.bf=bf:=aCI hc;simp only[XV]at hx;obtain⟨ob,h1,h5,h2⟩:=hx.2 bD ho hv;obtain⟨_,ob',h3,h4⟩:=aZ o bD ho;rw[h1]at h3;cases h3;exact⟨bD,ob,ho,hv,h1,h4,h5,h2⟩
theorem iL{x:X}{v:V}(hx:XV H x v)(hs:x.fB H.x=true):v.fB H.v∧v.pure=x.pure∧bj H x.cells v.cells:=by
 cases x<;>simp only[X.fB]at hs<;>try (cases hs;done)
 case ref o bf=>
  obtain⟨bD,ob,h1,h2,h3,h4,rfl⟩:=cQ aZ hx hs;refine⟨⟨ob,h3,rfl⟩,rfl,?_⟩;simp only[X.cells,V.cells,bj];exact⟨_,_,rfl,hx,rfl⟩
 case ptr o bf i j=>
  obtain⟨bD,ob,h1,h2,h3,h4,h5,rfl⟩:=ed aZ hx hs;refine⟨⟨ob,h3,rfl⟩,rfl,?_⟩;simp only[X.cells,V.cells,bj];exact⟨_,_,rfl,hx,rfl⟩
 case agg imp cs=>
  simp only[XV]at hx;obtain⟨vs,rfl,h2⟩:=hx;cases imp
  ·exact⟨trivial,rfl,h2⟩
  ·exact⟨trivial,rfl,h2⟩
 case sl τ l=>
  have sG:=hx;simp only[XV]at sG;rcases sG with⟨_,rfl⟩ | ⟨rows,rfl,_⟩
  all_goals
   refine⟨trivial,rfl,?_⟩;simp only[X.cells,V.cells,bj];exact⟨_,_,rfl,hx,rfl⟩
 case rd τ l=>
  have sG:=hx;simp only[XV]at sG;obtain⟨rows,rfl,_⟩:=sG;refine⟨trivial,rfl,?_⟩;simp only[X.cells,V.cells,bj];exact⟨_,_,rfl,hx,rfl⟩
 all_goals
  have sG:=hx;simp only[XV]at sG;subst sG;refine⟨trivial,rfl,?_⟩;simp only[X.cells,V.cells,bj];exact⟨_,_,rfl,hx,rfl⟩
theorem DB{x:X}(h:x.pure=true):x.fB H.x=true:=by
 cases x<;>first | rfl | (simp[X.pure]at h;done)
theorem ZY{v ty es:Nat}{τ:List Ty}{l:List (az τ)}{ob:Ob}(h:fV H (.t v ty es τ l) ob){i:Nat}(hi:i<ob.rows.length):∃row,ob.rows[i]? = some row∧cD τ (l.getD i (E9 τ)) row:=by
 obtain⟨_,_,_,h4⟩:=h;have hl:=aP.len h4;obtain⟨row,h5,h6⟩:=aP.get h4 i (l[i]'(by omega)) (aCF (by omega));refine⟨row,h5,?_⟩;have:l.getD i (E9 τ)=l[i]'(by omega):=by simp[List.getD,aCF (show i<l.length by omega)]
 rw[this];exact h6
theorem Db(t:TypeId){x:X}{v:V}(hx:XV H x v):sP H (Qf P H.x t x) (ic P H.v t v):=by
 have hR:∀(imp:Bool) (row:List X) (gk:List V) (j:Nat) (p:Prop),p→bj H row gk→sP H (Ac P t imp row j) (fD P t p imp gk j):=by
  intro imp row gk j p hp hr;unfold Ac fD
  split
  ·intro hc
   exact⟨_,_,rfl,⟨hp,by rw[hr.len];exact aCE hc⟩,by simp only[XV];exact⟨_,rfl,hr.cut j _⟩⟩
  ·split
   ·cases hj:row[j]? with
    | none=>trivial
    | some y=>
     obtain⟨u,h1,h2⟩:=hr.at j y hj;simp only[h1]
     split
     ·rename_i hip
      intro _;have:imp=true∨u.pure=true:=by
       cases imp
       ·simp at hip
        exact .inr (by rw[(iL aZ h2 (DB aZ hip)).2.1];exact hip)
       ·exact .inl rfl
      rw[aCr this];exact⟨_,_,rfl,hp,h2⟩
     ·trivial
   ·trivial
 unfold Qf
 split
 ·rename_i o bf i j
  split
  ·rename_i v' ty es τ l ho
   split<;>try trivial
   rename_i hv;obtain⟨bD,ob,h1,h2,h3,h4,h5,rfl⟩:=ed aZ hx (by unfold dv;rw[ho];exact hv);rw[ho]at h1;cases h1;obtain⟨row,h6,h7⟩:=ZY aZ h4 h5;obtain⟨_,_,himp,_⟩:=h4;simp only[ic,h3,h6,himp];exact hR false _ _ _ _ trivial (eO τ _ row h7)
  ·rename_i v' ty es imp rows ho
   split<;>try trivial
   rename_i hv
   split<;>try trivial
   rename_i row aO;obtain⟨bD,ob,h1,h2,h3,h4,h5,rfl⟩:=ed aZ hx (by unfold dv;rw[ho];exact hv);rw[ho]at h1;cases h1;obtain⟨_,_,himp,h8⟩:=h4;obtain⟨gk,h6,h7⟩:=aP.get h8 i row aO;simp only[ic,h3,h6,himp];exact hR imp _ _ _ _ trivial h7
  ·trivial
 ·rename_i row j
  simp only[XV]at hx;obtain⟨vs,rfl,h2⟩:=hx;exact hR false _ _ _ _ trivial h2
 ·trivial
theorem My(t:TypeId){x y:X}{v u:V}(hx:XV H x v)(hy:XV H y u):sP H (Mz P H.x t x y) (fg P H.v t v u):=by
 unfold Mz
 split<;>try trivial
 rename_i o bf i j
 split
 ·rename_i v' ty es τ l ho
  split<;>try trivial
  rename_i hv;simp only[aCs]at hv
  split<;>try trivial
  rename_i r hr;obtain⟨bD,ob,h1,h2,h3,h4,h5,rfl⟩:=ed aZ hx (by unfold dv;rw[ho];exact hv.1);rw[ho]at h1;cases h1;obtain⟨row,h6,h7⟩:=ZY aZ h4 h5;obtain⟨rS,bQ,himp,h8⟩:=h4;obtain⟨s1,s2,s3⟩:=iL aZ hy (DB aZ hv.2);intro hc;simp only[aCs,aCy]at hc;simp only[fg,h3,h6];have aO:=eO (H:=H) τ _ row h7;have xh:=gO τ _ r _ hr (aO.putAt s3 j);have hlen:row.length=τ.length:=by
   rw[aO.len];have:∀(A:Type) (f:A→X) (σ:List Ty) (z:cN A σ),(lb f σ z).length=σ.length+1:=by
    intro A f σ;induction σ generalizing A f with
    | nil=>intro z;rfl
    | cons t σ ih=>intro z;simp only[lb,aCv];rw[ih]
   cases τ with
   | nil=>rfl
   | cons t σ=>simp only[iw,aCv];exact this _ _ _ _
  refine⟨_,_,rfl,⟨trivial,s1,by rw[s3.len];exact hc.1,by rw[s3.len,hlen];exact hc.2⟩,⟨rS,bQ,?_,?_⟩,_,ob,ho,rfl,rfl,by simp⟩
  ·simp only[himp,s2,hv.2];rfl
  ·exact aP.set xh i h8
 ·rename_i v' ty es imp rows ho
  split<;>try trivial
  rename_i hv
  split<;>try trivial
  rename_i row aO;obtain⟨bD,ob,h1,h2,h3,h4,h5,rfl⟩:=ed aZ hx (by unfold dv;rw[ho];exact hv);rw[ho]at h1;cases h1;obtain⟨rS,bQ,himp,h8⟩:=h4;obtain⟨gk,h6,h7⟩:=aP.get h8 i row aO;intro hc;simp only[aCs,aCy]at hc;obtain⟨s1,s2,s3⟩:=iL aZ hy hc.1.1;simp only[fg,h3,h6];refine⟨_,_,rfl,⟨trivial,s1,by rw[s3.len];exact hc.1.2,by rw[s3.len,h7.len];exact hc.2⟩,⟨rS,bQ,?_,?_⟩,_,ob,ho,rfl,rfl,by simp⟩
  ·simp only[himp,s2]
  ·exact aP.set (h7.putAt s3 j) i h8
 ·trivial
theorem KS(place:Nat→Option (Nat×Nat))(e:Operand→X)(ev:Operand→V)(he:∀x,XV H (e x) (ev x)):∀(l:List (Nat×Operand)) (cs:List X) (fj:List V) (r:List X),(∀q∈l,(e q.2).fB H.x=true)→bj H cs fj→
  KT place cs (l.map fun q=>(q.1,e q.2))=some r→∃r',lK place fj (l.map fun q=>(q.1,ev q.2))=some r'∧bj H r r'
 | [],cs,fj,r,_,h,hf=>by simp only[aDR,KT]at hf;cases hf;exact⟨fj,rfl,h⟩
 | (i,x)::l,cs,fj,r,hs,h,hf=>by
  simp only[aDh,KT]at hf;simp only[aDh,lK]
  split at hf<;>try (cases hf;done)
  rename_i off size hp
  split at hf<;>try (cases hf;done)
  rename_i hc;obtain⟨s1,s2,s3⟩:=iL aZ (he x) (hs _ (aCK ..));simp only[hp];rw[aCr (by rw[s3.len,h.len];exact hc)];exact KS place e ev he l _ _ r (fun q hq=>hs q (aCQ _ hq)) (h.putAt s3 off) hf
theorem th(e:Operand→X)(ev:Operand→V)(he:∀x,XV H (e x) (ev x)):∀(l:List (Nat×Operand)),(∀q∈l,(e q.2).fB H.x=true)→(l.map fun q=>(q.1,ev q.2)).all (·.2.pure)=(l.map fun q=>(q.1,e q.2)).all (·.2.pure)
 | [],_=>rfl
 | (i,x)::l,hs=>by
  simp only[aDh,aEy];rw[(iL aZ (he x) (hs _ (aCK ..))).2.1,th e ev he l (fun q hq=>hs q (aCQ _ hq))]
theorem MG(t:TypeId)(e:Operand→X)(ev:Operand→V)(he:∀x,XV H (e x) (ev x))(l:List (Nat×Operand)):
  sP H (MH P H.x t (l.map fun q=>(q.1,e q.2))) (iD P H.v t (l.map fun q=>(q.1,ev q.2))):=by
 unfold MH iD
 split<;>try trivial
 split<;>try trivial
 rename_i z hz
 split<;>try trivial
 rename_i cs xj;intro hc;have hs:∀q∈l,(e q.2).fB H.x=true:=fun q hq=>aCG.1 hc (q.1,e q.2) (aCN.2 ⟨q,hq,rfl⟩)
 obtain⟨z',h1,h2⟩:=s5 (H:=H) hz;obtain⟨r',h3,h4⟩:=KS aZ _ e ev he l z z' cs hs h2 xj;simp only[h1,h3];refine⟨_,_,rfl,fun q hq=>?_,?_⟩
 ·obtain⟨p,hp,rfl⟩:=aCN.1 hq
  exact(iL aZ (he p.2) (hs p hp)).1
 ·rw[th aZ e ev he l hs]
  simp only[XV];exact⟨_,rfl,h4⟩
omit aZ in
theorem N5{A:Type}{a:Option A}{b:Option (List A)}{l:List A}(h:abY a b=some l):∃x r,a=some x∧b=some r∧l=x::r:=by
 unfold abY at h
 split at h<;>try (cases h;done)
 split at h<;>try (cases h;done)
 cases h
 exact⟨_,_,rfl,rfl,rfl⟩
omit aZ in
theorem dq{τ:List Ty}:∀{rows:List (List X)} {bE:List (List V)} {l:List (az τ)},jm τ rows=some l→aP (bj H) rows bE→bK τ l bE
 | [],[],l,h,_=>by cases h;trivial
 | row::rows,gk::bE,l,h,h2=>by
  obtain⟨r,l',h1,h3,rfl⟩:=N5 h;exact⟨gO τ row r gk h1 h2.1,dq h3 h2.2⟩
 | [],_::_,_,_,h2=>h2.elim
 | _::_,[],_,_,h2=>h2.elim
omit aZ in
theorem Z8{c e:Nat}{imp:Bool}{rows:List (List X)}{bE:List (List V)}(h:aP (bj H) rows bE):fV H (an6 P c e imp rows) ⟨e,aB P e,imp,bE⟩:=by
 unfold an6
 split
 ·exact⟨rfl,rfl,rfl,h⟩
 ·split
  ·split
   ·rename_i τ _ l hl
    exact⟨rfl,rfl,rfl,dq hl h⟩
   ·exact⟨rfl,rfl,rfl,h⟩
  ·exact⟨rfl,rfl,rfl,h⟩
omit aZ in
theorem DJ:∀{a b:List Nat},Ft a b=true→a=b
 | [],[],_=>rfl
 | a::as,b::bs,h=>by
  simp only[Ft,aCs]at h;rw[aCI h.1,DJ h.2]
 | [],_::_,h=>by cases h
 | _::_,[],h=>by cases h
theorem yN(t:TypeId)(len:Nat)(c:Nat)(e:Operand→X)(ev:Operand→V)(he:∀x,XV H (e x) (ev x))(l:List (Nat×Operand)):
  sP H (oH P H.x c t len (l.map fun q=>(q.1,e q.2))) (cY P H.v t len (l.map fun q=>(q.1,ev q.2))):=by
 unfold oH
 split<;>try trivial
 rename_i el sW
 split<;>try trivial
 rename_i sX;simp only[aCs,aCy]at sX;intro hc;unfold cY;simp only[sW];have hq:∀q∈l,(e q.2).fB H.x=true∧(e q.2).cells.length=aB P el:=fun q hq=>by
  have:=aCG.1 hc (q.1,e q.2) (aCN.2 ⟨q,hq,rfl⟩);simpa using this
 have aa0:(l.map fun q=>(q.1,ev q.2)).map (·.1)=(l.map fun q=>(q.1,e q.2)).map (·.1):=by simp
 have bS:∀l':List (Nat×Operand),(∀q∈l',(e q.2).fB H.x=true)→aP (bj H) ((l'.map fun q=>(q.1,e q.2)).map (·.2.cells)) ((l'.map fun q=>(q.1,ev q.2)).map (·.2.cells)):=by
  intro l';induction l' with
  | nil=>intro _;trivial
  | cons q l' ih=>intro h;exact⟨(iL aZ (he q.2) (h q (aCK ..))).2.2,ih (fun p hp=>h p (aCQ _ hp))⟩
 rw[aCr ⟨by rw[aa0];exact DJ sX.1.1.1,sX.1.1.2,sX.1.2,sX.2⟩];refine⟨_,_,rfl,fun q NC=>?_,?_,fun h=>by cases h⟩
 ·obtain⟨p,hp,rfl⟩:=aCN.1 NC
  obtain⟨s1,_,s3⟩:=iL aZ (he p.2) (hq p hp).1;exact⟨s1,by rw[s3.len];exact(hq p hp).2⟩
 ·rw[th aZ e ev he l (fun q NC=>(hq q NC).1)]
  exact Z8 (bS l (fun q NC=>(hq q NC).1))
theorem Ae(t:TypeId)(f:Nat){x:X}{v:V}(hx:XV H x v):sP H (s7 P H.x t f x) (df P H.v t f v):=by
 unfold s7
 split
 ·rename_i o bf i j
  split<;>try trivial
  rename_i off ft hf;intro hc;obtain⟨bD,ob,h1,h2,h3,h4,h5,rfl⟩:=ed aZ hx hc;simp only[df,h3,hf];refine⟨_,_,rfl,trivial,?_⟩;simp only[XV]at hx ⊢;refine⟨hx.1,fun cS h6 h7=>?_⟩;obtain⟨ob',h8,h9,_⟩:=hx.2 cS h6 h7;rw[h3]at h8;cases h8;exact⟨ob,h3,h9,rfl⟩
 ·rename_i row j
  split<;>try trivial
  rename_i off ft hf;intro _;simp only[XV]at hx;obtain⟨vs,rfl,h2⟩:=hx;simp only[df,hf];refine⟨_,_,rfl,trivial,?_⟩;simp only[XV];exact⟨vs,rfl,h2⟩
 ·trivial
theorem ME(t:TypeId)(f:Nat){x:X}{v:V}(hx:XV H x v):sP H (MF P t f x) (kN P t f v):=by
 unfold MF
 split<;>try trivial
 rename_i cs;simp only[XV]at hx;obtain⟨vs,rfl,h2⟩:=hx
 split<;>try trivial
 rename_i off ft hf;simp only[ke,kN,hf]
 split
 ·intro hc
  exact⟨_,_,rfl,by rw[h2.len];exact aCE hc,by simp only[XV];exact⟨_,rfl,h2.cut off _⟩⟩
 ·split
  ·cases hj:cs[off]? with
   | none=>trivial
   | some y=>
    obtain⟨u,h3,h4⟩:=h2.at off y hj;simp only[h3];intro _;exact⟨_,_,rfl,trivial,h4⟩
  ·trivial
omit aZ in
theorem FN{τ:List Ty}{l:List (az τ)}{rows:List (List V)}(h:bK τ l rows){i:Nat}(hi:i<l.length):∃row,rows[i]? = some row∧cD τ (l.getD i (E9 τ)) row∧row.length=τ.length:=by
 obtain⟨row,h5,h6⟩:=aP.get h i (l[i]'hi) (aCF hi);have e:l.getD i (E9 τ)=l[i]'hi:=by simp[List.getD,aCF hi]
 refine⟨row,h5,by rw[e];exact h6,?_⟩;have h7:=(eO (H:=⟨0,fun _=>none,fun _=>none⟩) τ _ row h6).len;rw[h7];have:∀(A:Type) (f:A→X) (σ:List Ty) (z:cN A σ),(lb f σ z).length=σ.length+1:=by
  intro A f σ;induction σ generalizing A f with
  | nil=>intro z;rfl
  | cons t σ ih=>intro z;simp only[lb,aCv];rw[ih]
 cases τ with
 | nil=>rfl
 | cons t σ=>simp only[iw,aCv];exact this _ _ _ _
omit aZ in
theorem jn{τ:List Ty}{x:az τ}{row:List V}(h:cD τ x row):row.length=τ.length:=by
 obtain⟨gk,h1,_,h3⟩:=FN (l:=[x]) (rows:=[row]) ⟨h,trivial⟩ (i:=0) (by simp);simp at h1;rw[h1];exact h3
theorem Ad(t:TypeId){x ix:X}{v iv:V}(hx:XV H x v)(hi:XV H ix iv):
  sP H (s6 P H.x t x ix) (Od P H.v t v iv):=by
 unfold s6 Od
 split<;>try trivial
 rename_i e k i he;simp only[XV]at hi;subst hi
 split<;>try trivial
 rename_i hz
 split
 ·rename_i τ l
  intro hc;simp only[aCs,aCy]at hc;obtain⟨c3,c1,c2⟩:=hc;simp only[XV]at hx;rcases hx with⟨rfl,_⟩ | ⟨rows,rfl,hr⟩
  ·simp at c2;omega
  ·obtain⟨row,h5,h6,h7⟩:=FN hr (i:=i.toNat) (by omega)
   simp only[dx,he,h5,hz,aC4];refine⟨_,_,rfl,⟨c1,by rw[h7];exact c3⟩,?_⟩;simp only[XV];exact⟨_,rfl,eO τ _ row h6⟩
 ·rename_i τ l
  intro hc;simp only[aCs,aCy]at hc;obtain⟨c3,c1,c2⟩:=hc;simp only[XV]at hx;obtain⟨rows,rfl,hr⟩:=hx;obtain⟨row,h5,h6,h7⟩:=FN hr (i:=i.toNat) (by omega);simp only[dx,he,h5,hz,aC4];refine⟨_,_,rfl,⟨c1,by rw[h7];exact c3⟩,?_⟩;simp only[XV];exact⟨_,rfl,eO τ _ row h6⟩
 ·rename_i o bf
  split<;>try trivial
  ·rename_i v' ty es τ l ho
   intro hc;simp only[aCs,aCy]at hc;obtain⟨c0,c3,c1,c2⟩:=hc;obtain⟨bD,ob,h1,h2,h3,h4,rfl⟩:=cQ aZ hx (by unfold dv;rw[ho];exact c0);rw[ho]at h1;cases h1;obtain⟨_,bQ,_,h8⟩:=h4;have hl:=aP.len h8;simp only[dL,he,h3,hz,aC4];refine⟨_,_,rfl,⟨c1,by omega,trivial,by rw[bQ];exact c3⟩,?_⟩;simp only[XV]at hx ⊢;refine⟨hx.1,fun cS h6 h7=>?_⟩;exact⟨ob,h3,by omega,rfl⟩
  ·rename_i v' ty es imp rows ho
   intro hc;simp only[aCs,aCy]at hc;obtain⟨c0,c3,c1,c2⟩:=hc;obtain⟨bD,ob,h1,h2,h3,h4,rfl⟩:=cQ aZ hx (by unfold dv;rw[ho];exact c0);rw[ho]at h1;cases h1;obtain⟨_,bQ,_,h8⟩:=h4;have hl:=aP.len h8;simp only[dL,he,h3,hz,aC4];refine⟨_,_,rfl,⟨c1,by omega,trivial,by rw[bQ];exact c3⟩,?_⟩;simp only[XV]at hx ⊢;refine⟨hx.1,fun cS h6 h7=>?_⟩;exact⟨ob,h3,by omega,rfl⟩
 ·trivial
theorem CL(t:TypeId){x ix:X}{v iv:V}(hx:XV H x v)(hi:XV H ix iv):
  sP H (wM P H.x t x ix) (Od P H.v t v iv):=by
 unfold wM
 split<;>try trivial
 rename_i m e k i he;simp only[XV]at hi;subst hi
 split<;>try trivial
 rename_i hz
 split<;>try trivial
 rename_i o bf
 split<;>try trivial
 rename_i v' ty es τ l ho;intro hc;simp only[aCs,aCy]at hc;obtain⟨c0,c3,c4,c1,c2⟩:=hc;obtain⟨bD,ob,h1,h2,h3,h4,h5,rfl⟩:=ed aZ hx (by unfold dv;rw[ho];exact c0);rw[ho]at h1;cases h1;obtain⟨_,bQ,_,h8⟩:=h4;have hl:=aP.len h8;have c5:=aCI c4;simp only[Od,eo,he,h3,hz,aC4];refine⟨_,_,rfl,⟨c1,by omega,by omega,trivial,by rw[bQ];exact c3⟩,?_⟩;simp only[XV]at hx ⊢;refine⟨hx.1,fun cS h6 h7=>?_⟩;exact⟨ob,h3,by omega,rfl⟩
theorem Xv(t:TypeId){x ix:X}{v iv:V}(hx:XV H x v)(hi:XV H ix iv):
  sP H (amq P H.x t x ix) (Od P H.v t v iv):=by
 unfold amq
 split
 ·exact CL aZ t hx hi
 ·exact Ad aZ t hx hi
omit aZ in
theorem Lx(es:Nat):∀(m:Nat) {z:List X} {z':List V},bj H z z'→aP (bj H) (cP es m z) (cP es m z')
 | 0,z,z',h=>trivial
 | m+1,z,z',h=>⟨h.take es,Lx es m (h.drop es)⟩
omit aZ in
theorem MI(c:Nat)(t:TypeId):sP H (MJ P c t) (nB P t):=by
 unfold MJ nB
 split<;>try trivial
 rename_i z hz;obtain⟨z',h1,h2⟩:=s5 (H:=H) hz;rw[h1];simp only
 split
 ·rename_i m e he
  rw[he]
  split<;>try trivial
  rename_i τ hτ
  split<;>try trivial
  rename_i l hl
  split<;>try trivial
  rename_i hc;intro _;simp only[aCr (show 0<m∧0<aB P e∧z'.length=m*aB P e by rw[h2.len];exact hc)];refine⟨_,_,rfl,trivial,⟨rfl,rfl,rfl,dq hl (Lx _ m h2)⟩,fun _=>?_⟩;have:∀(m:Nat) (w:List V),(cP (aB P e) m w).length=m:=fun m=>by
   induction m with
   | zero=>intro w;rfl
   | succ m ih=>intro w;simp[cP,ih]
  rw[this];exact hc.1
 ·rename_i he
  rw[he];intro _;exact⟨_,_,rfl,trivial,⟨rfl,rfl,rfl,⟨h2,trivial⟩⟩,fun _=>by simp⟩
omit aZ in
theorem amo{k:IntKind}{n:Int}{v:V}(h:XV H (.int k n) v):v=.int k n:=by simpa only[XV]using h
omit aZ in
theorem uN{e:Operand→X}{ev:Operand→V}(he:∀x,XV H (e x) (ev x)){o:Option Operand}{r:Option Int}(h:aar (o.map e)=some r):
  (o=none∧r=none)∨∃x k n,o=some x∧ev x=.int k n∧r=some n:=by
 cases o with
 | none=>simp[aar]at h;exact .inl ⟨rfl,h.symm⟩
 | some x=>
  simp only[aCU]at h;have hx:=he x;generalize e x=y at h hx;cases y<;>simp[aar]at h
  exact .inr ⟨x,_,_,rfl,amo hx,h.symm⟩
omit aZ in
theorem MB(t:TypeId){x:X}{v:V}(hx:XV H x v)(e:Operand→X)(ev:Operand→V)(he:∀x,XV H (e x) (ev x))(lo hi:Option Operand):
  sP H (MC P t x (lo.map e) (hi.map e)) (eH P t v (lo.map ev) (hi.map ev)):=by
 unfold MC
 split<;>try trivial
 rename_i el sW
 split<;>try trivial
 rename_i hz
 split<;>try trivial
 rename_i a b ha hb;have rl:∀{τ:List Ty} {l:List (az τ)} {rows:List (List V)},bK τ l rows→τ.length=aB P el→∀r∈rows,r.length=aB P el:=by
  intro τ l rows hr hτ r hm;obtain⟨i,kh⟩:=aDf hm;obtain⟨y,_,hy⟩:=aP.uZ hr i r kh;rw[jn hy,hτ]
 unfold aq2
 split<;>try trivial
 ·rename_i τ l
  simp only[XV]at hx;rcases uN he ha with⟨rfl,rfl⟩ | ⟨xa,ka,na,rfl,ea,rfl⟩<;>rcases uN he hb with⟨rfl,rfl⟩ | ⟨xb,kb,nb,rfl,eb,rfl⟩<;>try trivial
  all_goals
   intro hc;simp only[aCs,aCy]at hc;rcases hx with⟨rfl,rfl⟩ | ⟨rows,rfl,hr⟩
  ·simp only[eH,sW,hz,aC4,aD6,aCU,eb]
   refine⟨_,_,rfl,by simp at hc;omega,?_⟩;simp only[XV];exact .inl ⟨by simp,trivial⟩
  ·have hl:=aP.len hr
   simp only[eH,sW,hz,aC4,aD6,aCU,eb];refine⟨_,_,rfl,⟨hc.1,by omega⟩,?_⟩;simp only[XV];exact .inr ⟨_,rfl,aP.take _ hr⟩
  ·simp only[eH,sW,hz,aC4,aD6,aCU,ea]
   refine⟨_,_,rfl,by simp at hc;omega,?_⟩;simp only[XV];exact .inl ⟨by simp,trivial⟩
  ·have hl:=aP.len hr
   simp only[eH,sW,hz,aC4,aD6,aCU,ea];refine⟨_,_,rfl,⟨hc.2.1,by omega,rl hr hc.1⟩,?_⟩;simp only[XV];exact .inr ⟨_,rfl,aP.drop _ hr⟩
  ·simp only[eH,sW,hz,aC4,aD6,aCU,ea,eb]
   refine⟨_,_,rfl,by simp at hc;omega,?_⟩;simp only[XV];exact .inl ⟨by simp,trivial⟩
  ·have hl:=aP.len hr
   simp only[eH,sW,hz,aC4,aD6,aCU,ea,eb];refine⟨_,_,rfl,⟨hc.2.1,hc.2.2.1,by omega,rl hr hc.1⟩,?_⟩;simp only[XV];exact .inr ⟨_,rfl,aP.drop _ (aP.take _ hr)⟩
 ·rename_i τ l
  simp only[XV]at hx;obtain⟨rows,rfl,hr⟩:=hx;have hl:=aP.len hr;rcases uN he ha with⟨rfl,rfl⟩ | ⟨xa,ka,na,rfl,ea,rfl⟩<;>rcases uN he hb with⟨rfl,rfl⟩ | ⟨xb,kb,nb,rfl,eb,rfl⟩<;>try trivial
  all_goals
   intro hc;simp only[aCs,aCy]at hc
  ·simp only[eH,sW,hz,aC4,aD6,aCU,eb]
   refine⟨_,_,rfl,⟨hc.1,by omega⟩,?_⟩;simp only[XV];exact⟨_,rfl,aP.take _ hr⟩
  ·simp only[eH,sW,hz,aC4,aD6,aCU,ea]
   refine⟨_,_,rfl,⟨hc.2.1,by omega,rl hr hc.1⟩,?_⟩;simp only[XV];exact⟨_,rfl,aP.drop _ hr⟩
  ·simp only[eH,sW,hz,aC4,aD6,aCU,ea,eb]
   refine⟨_,_,rfl,⟨hc.2.1,hc.2.2.1,by omega,rl hr hc.1⟩,?_⟩;simp only[XV];exact⟨_,rfl,aP.drop _ (aP.take _ hr)⟩
omit aZ in
theorem Bs:∀{xs ys:List X} {us vs:List V} {b:Bool},bj H xs us→bj H ys vs→u7 xs ys=some b→eT us vs=some b∧us.filterMap fE=xs.filterMap Q0
 | [],[],us,vs,b,h1,h2,h=>by
  simp only[bj]at h1 h2;subst h1 h2;simp only[u7]at h;cases h;exact⟨rfl,rfl⟩
 | x::xs,y::ys,us,vs,b,h1,h2,h=>by
  simp only[bj]at h1 h2;obtain⟨u,Ah,rfl,hu,ja⟩:=h1;obtain⟨v,cI,rfl,hv,xg⟩:=h2;cases x<;>cases y<;>simp only[u7]at h<;>try (cases h;done)
  ·rename_i k a k' c
   simp only[XV]at hu hv;subst hu hv
   split at h<;>try (cases h;done)
   rename_i hk;cases hr:u7 xs ys with
   | none=>simp[hr]at h
   | some r=>
    simp[hr]at h;obtain⟨e1,e2⟩:=Bs ja xg hr;simp only[eT,aCr hk,e1,aCU,aEg,fE,Q0,e2];simp[h]
  ·rename_i a c
   simp only[XV]at hu hv;subst hu hv;cases hr:u7 xs ys with
   | none=>simp[hr]at h
   | some r=>
    simp[hr]at h;obtain⟨e1,e2⟩:=Bs ja xg hr;simp only[eT,e1,aCU,aEg,fE,Q0,e2];simp[h]
 | [],_::_,_,_,_,_,_,h=>by simp[u7]at h
 | _::_,[],_,_,_,_,_,h=>by cases ‹X›<;>simp[u7]at h
omit aZ in
theorem A8:∀{a b:List Bool},zj a b=true→a=b
 | [],[],_=>rfl
 | a::as,b::bs,h=>by
  simp only[zj,aCs,aDI]at h;rw[h.1,A8 h.2]
 | [],_::_,h=>by cases h
 | _::_,[],h=>by cases h
omit aZ in
theorem AS{op:BinOp}{t:TypeId}{q b:Bool}{Q:Prop}(hq:q=true→Q){c:Bool}{r:X}(h:Z2 P op t q b=some (c,r))(hc:c=true):∃p w,uF P op t Q b=some (p,w)∧p∧XV H r w:=by
 unfold Z2 at h;unfold uF
 split at h<;>try (cases h;done)
 ·simp only[aCA,aCH]at h
  obtain⟨rfl,rfl⟩:=h;rw[aCs]at hc;exact⟨_,_,rfl,⟨hq hc.1,hc.2⟩,by simp only[XV]⟩
 ·simp only[aCA,aCH]at h
  obtain⟨rfl,rfl⟩:=h;rw[aCs]at hc;exact⟨_,_,rfl,⟨hq hc.1,hc.2⟩,by simp only[XV]⟩
omit aZ in
theorem acd(op:BinOp)(t:TypeId){x y:X}{u v:V}(hx:XV H x u)(hy:XV H y v){c:Bool}{r:X}(h:ap7 P op t x y=some (c,r))(hc:c=true):∃p w,Gn P op t u v=some (p,w)∧p∧XV H r w:=by
 unfold ap7 at h
 split at h
 ·rename_i k a k' b
  simp only[XV]at hx hy;subst hx hy;simp only[Gn]
  split at h
  ·rename_i hs
   rw[aCr hs];cases op<;>simp[Yz]at h<;>try (cases h;done)
   all_goals
    obtain⟨rfl,rfl⟩:=h;refine⟨_,_,rfl,aCE hc,by simp only[XV]⟩
  ·rename_i hs
   rw[aCo hs]
   split at h<;>try (cases h;done)
   rename_i hk;rw[aCr hk];cases op<;>simp only[asp]at h<;>try (cases h;done)
   all_goals
    cases h
    first
     | exact⟨_,_,rfl,trivial,by simp only[XV]⟩
     | exact⟨_,_,rfl,by simpa using hc,by simp only[XV]⟩
 ·rename_i a b
  simp only[XV]at hx hy;subst hx hy;have hb:∀t,zk P t=true→P.underlying t=some .bool:=by
   intro t ht;unfold zk at ht
   split at ht
   ·assumption
   ·cases ht
  split at h<;>try (cases h;done)
  ·cases h
   exact⟨_,_,rfl,hb t hc,by simp only[XV]⟩
  ·cases h
   exact⟨_,_,rfl,hb t hc,by simp only[XV]⟩
 ·rename_i xs ys
  simp only[XV,ke]at hx hy;obtain⟨us,rfl,h1⟩:=hx;obtain⟨vs,rfl,h2⟩:=hy;have key:∀b,u7 xs ys=some b→(cK P t&&Ry P t xs)=true→eT us vs=some b∧cK P t=true∧UY P t=some (us.filterMap fE):=by
   intro b hb iu;simp only[aCs]at iu;obtain⟨e1,e2⟩:=Bs h1 h2 hb;refine⟨e1,iu.1,?_⟩;have h5:=iu.2;unfold Ry at h5
   split at h5<;>try (cases h5;done)
   rename_i m hm;rw[hm,e2,A8 h5]
  split at h<;>try (cases h;done)
  ·cases hr:u7 xs ys with
   | none=>simp[hr]at h
   | some b=>
    simp only[hr,aCU,aCA,aCH]at h;obtain⟨rfl,rfl⟩:=h;obtain⟨e1,e2,e3⟩:=key b hr hc;simp only[Gn,e1,aCU];exact⟨_,_,rfl,⟨e2,e3⟩,by simp only[XV]⟩
  ·cases hr:u7 xs ys with
   | none=>simp[hr]at h
   | some b=>
    simp only[hr,aCU,aCA,aCH]at h;obtain⟨rfl,rfl⟩:=h;obtain⟨e1,e2,e3⟩:=key b hr hc;simp only[Gn,e1,aCU];exact⟨_,_,rfl,⟨e2,e3⟩,by simp only[XV]⟩
 ·simp only[XV]at hx hy
  subst hx hy;exact AS (fun _=>trivial) h hc
 ·simp only[XV]at hx hy
  obtain⟨rows,rfl,hr⟩:=hx;subst hy;refine AS (fun hl e=>?_) h hc;subst e;rename_i τ l;cases l with
  | nil=>simp at hl
  | cons a l=>exact hr.elim
 ·simp only[XV]at hx hy
  subst hx hy;exact AS (fun _=>trivial) h hc
 ·cases h
theorem TX{e:TypeId}{x:X}{v:V}{τ:List Ty}{l:List (az τ)}(hx:XV H x v)(h:YW P e H.x x=some ⟨τ,l⟩):∃rows,rowsOf H.v v=some rows∧bK τ l rows:=by
 unfold YW at h
 split at h
 ·simp only[XV]at hx
  subst hx;cases hr:gj P 8 e with
  | none=>simp[hr]at h
  | some σ=>
   simp only[hr,aCU,aCA]at h;cases h;exact⟨[],rfl,trivial⟩
 ·simp only[XV]at hx
  subst hx;cases hr:gj P 8 e with
  | none=>simp[hr]at h
  | some σ=>
   simp only[hr,aCU,aCA]at h;cases h;exact⟨[],rfl,trivial⟩
 ·cases h
  simp only[XV]at hx;rcases hx with⟨rfl,rfl⟩ | ⟨rows,rfl,hr⟩
  ·exact⟨[],rfl,trivial⟩
  ·exact⟨rows,rfl,hr⟩
 ·cases h
  simp only[XV]at hx;obtain⟨rows,rfl,hr⟩:=hx;exact⟨rows,rfl,hr⟩
 ·rename_i o bf
  split at h<;>try (cases h;done)
  ·rename_i v' ty es σ l' ho
   split at h<;>try (cases h;done)
   rename_i hv;cases h;obtain⟨bD,ob,h1,h2,h3,h4,rfl⟩:=cQ aZ hx (by unfold dv;rw[ho];exact hv);rw[ho]at h1;cases h1;obtain⟨_,_,himp,h8⟩:=h4;exact⟨ob.rows,by simp[rowsOf,h3,himp],h8⟩
  ·rename_i v' ty es imp rows ho
   split at h<;>try (cases h;done)
   rename_i hv;simp only[aCs,aDe]at hv
   split at h<;>try (cases h;done)
   rename_i σ hσ;cases hl:jm σ rows with
   | none=>simp[hl]at h
   | some l'=>
    simp only[hl,aCU,aCA]at h;cases h;obtain⟨bD,ob,h1,h2,h3,h4,rfl⟩:=cQ aZ hx (by unfold dv;rw[ho];exact hv.1);rw[ho]at h1;cases h1;obtain⟨_,_,himp,h8⟩:=h4;exact⟨ob.rows,by simp[rowsOf,h3,himp,hv.2],dq hl h8⟩
 ·cases h
omit aZ in
theorem tf{τ:List Ty}{l:List (az τ)}{rows:List (List V)}(hr:bK τ l rows){n:Nat}(hτ:τ.length=n):∀r∈rows,r.length=n:=by
 intro r hm;obtain⟨i,kh⟩:=aDf hm;obtain⟨y,_,hy⟩:=aP.uZ hr i r kh;rw[jn hy,hτ]
omit aZ in
theorem mR{n b:Nat}(h1:1≤b)(h:n*b≤140737488355328):n≤maxLen:=by
 have:n*1≤n*b:=Nat.mul_le_mul_left n h1;unfold maxLen;omega
theorem IZ(t:TypeId){x y:X}{u v:V}(c:Nat)(hx:XV H x u)(hy:XV H y v):sP H (EN P H.x c t x y) (dQ P H.v t u v):=by
 unfold EN
 split<;>try trivial
 rename_i e he
 split<;>try trivial
 rename_i σ new xh;obtain⟨rows,bS,hr⟩:=TX aZ hy xh;have hln:=aP.len hr
 split<;>try trivial
 rename_i hz
 split<;>try trivial
 ·simp only[XV]at hx
  subst hx;intro hc;simp only[aCs,aCy]at hc;simp only[dQ,he,bS,aCo hz];exact⟨_,_,rfl,⟨tf hr hc.1,by rw[← hln];exact hc.2.2,by rw[← hln];exact mR hc.2.1 hc.2.2⟩,⟨rfl,rfl,rfl,hr⟩,fun h=>by cases h⟩
 ·rename_i o bf
  split<;>try trivial
  ·rename_i v' ty es τ l ho
   split<;>try trivial
   rename_i hτ;intro hc;simp only[aCs,aCy]at hc;obtain⟨c1,c2,c3,c4,c6,c5⟩:=hc;obtain⟨bD,ob,h1,h2,h3,h4,rfl⟩:=cQ aZ hx (by unfold dv;rw[ho];exact c1);rw[ho]at h1;cases h1;obtain⟨rS,bQ,himp,h8⟩:=h4;have UI:=aP.len h8;simp only[dQ,he,bS,aCo hz,h3];exact⟨_,_,rfl,⟨trivial,by rw[rS];exact c2,by rw[bQ];exact c3,tf hr c4,by rw[← hln,← UI];exact c5,by rw[← hln,← UI];exact mR c6 c5⟩,⟨rS,bQ,himp,aP.app ((cC new hτ rows).2 hr) h8⟩⟩
  ·rename_i v' ty es imp rws ho
   split<;>try trivial
   rename_i as7
   split<;>try trivial
   rename_i l hl;intro hc;simp only[aCs,aCy]at hc;obtain⟨c1,c2,c3,c4,c6,c5⟩:=hc;obtain⟨bD,ob,h1,h2,h3,h4,rfl⟩:=cQ aZ hx (by unfold dv;rw[ho];exact c1);rw[ho]at h1;cases h1;obtain⟨rS,bQ,himp,h8⟩:=h4;have h9:=dq hl h8;have UI:=aP.len h9;simp only[dQ,he,bS,aCo hz,h3];exact⟨_,_,rfl,⟨trivial,by rw[rS];exact c2,by rw[bQ];exact c3,tf hr c4,by rw[← hln,← UI];exact c5,by rw[← hln,← UI];exact mR c6 c5⟩,⟨rS,bQ,by rw[himp];simpa using as7,aP.app hr h9⟩⟩
theorem aal{x:X}{v:V}{n:Nat}(hx:XV H x v)(h:aoa H.x x=some n):lenOf v=some n∧v.live H.v∧∀s,v ≠ .str s:=by
 unfold aoa at h
 split at h
 ·cases h
  simp only[XV]at hx;subst hx;exact⟨rfl,trivial,fun s h=>by cases h⟩
 ·cases h
  simp only[XV]at hx;rcases hx with⟨rfl,rfl⟩ | ⟨rows,rfl,hr⟩
  ·exact⟨rfl,trivial,fun s h=>by cases h⟩
  ·exact⟨by simp[lenOf,aP.len hr],trivial,fun s h=>by cases h⟩
 ·cases h
  simp only[XV]at hx;obtain⟨rows,rfl,hr⟩:=hx;exact⟨by simp[lenOf,aP.len hr],trivial,fun s h=>by cases h⟩
 ·rename_i o bf
  split at h<;>try (cases h;done)
  ·rename_i v' ty es σ l' ho
   split at h<;>try (cases h;done)
   rename_i hv;cases h;obtain⟨bD,ob,h1,h2,h3,h4,rfl⟩:=cQ aZ hx (by unfold dv;rw[ho];exact hv);rw[ho]at h1;cases h1;obtain⟨_,_,himp,h8⟩:=h4;exact⟨by simp[lenOf,aP.len h8],⟨ob,h3,rfl⟩,fun s h=>by cases h⟩
  ·rename_i v' ty es imp rows ho
   split at h<;>try (cases h;done)
   rename_i hv;cases h;obtain⟨bD,ob,h1,h2,h3,h4,rfl⟩:=cQ aZ hx (by unfold dv;rw[ho];exact hv);rw[ho]at h1;cases h1;obtain⟨_,_,himp,h8⟩:=h4;exact⟨by simp[lenOf,aP.len h8],⟨ob,h3,rfl⟩,fun s h=>by cases h⟩
 ·cases h
omit aZ in
theorem bj.Nv{e:Operand→X}{ev:Operand→V}(he:∀x,XV H (e x) (ev x)):∀(l:List Operand),bj H (l.map e) (l.map ev)
 | []=>by simp[bj]
 | x::l=>by simp only[aDh,bj];exact⟨_,_,rfl,he x,bj.Nv he l⟩
theorem ajT{x:X}{v:V}(hx:XV H x v)(h:X.Vi H.x x=true):x.FR H∧x.FV H.c∧v.K4=true:=by
 cases x<;>simp only[X.Vi]at h<;>try (cases h;done)
 case ptr o bf i j=>
  obtain⟨bD,ob,h1,h2,h3,h4,h5,rfl⟩:=ed aZ hx h;simp only[XV]at hx;exact⟨⟨bD,h1,h2⟩,hx.1,rfl⟩
 case sl τ l=>
  simp only[XV]at hx;rcases hx with⟨_,rfl⟩ | ⟨rows,rfl,_⟩<;>exact⟨trivial,trivial,rfl⟩
 case cp row j=>
  simp only[XV]at hx;obtain⟨vs,rfl,_⟩:=hx;exact⟨trivial,trivial,rfl⟩
 all_goals
  simp only[XV]at hx;subst hx;exact⟨trivial,trivial,rfl⟩
theorem K3:∀{xs:List X} {vs:List V},bj H xs vs→xs.all (X.Vi H.x)=true→(∀x∈xs,x.FR H∧x.FV H.c)∧vs.all V.K4=true
 | [],vs,h,_=>by simp only[bj]at h;subst h;exact⟨fun x hx=>(by cases hx),rfl⟩
 | x::xs,vs,h,ha=>by
  simp only[bj]at h;obtain⟨v,r,rfl,h2,h3⟩:=h;simp only[aEy,aCs]at ha;obtain⟨a1,a2,a3⟩:=ajT aZ h2 ha.1;obtain⟨b1,b2⟩:=K3 h3 ha.2;refine⟨fun y hy=>?_,by simp[a3,b2]⟩;rcases aCJ.1 hy with rfl | hy
  ·exact⟨a1,a2⟩
  ·exact b1 y hy
theorem Tl(e:Operand→X)(ev:Operand→V)(he:∀x,XV H (e x) (ev x))(c:Nat)(cl:Call):sP H (Xw P e H.x c cl) (fh P ev H.v cl):=by
 obtain⟨callee,args,argTypes⟩:=cl;unfold Xw;simp only
 split
 ·rename_i f
  have hf:=he f
  split<;>try trivial
  rename_i g bZ hg
  split<;>try trivial
  rename_i hc;simp only[aCs]at hc;rw[hg]at hf;simp only[XV]at hf;obtain⟨hg1,hf⟩:=hf;have fw:∀x∈bZ,x.FR H:=by
   intro x hx;have h1:=aCG.1 hc.2 x hx;cases x<;>simp only[X.at3,X.Vi]at h1<;>try (cases h1;done)
   all_goals first | trivial | skip
   unfold dv at h1
   split at h1<;>try (cases h1;done)
   rename_i bD ho;exact⟨bD,ho,aCI h1⟩
  obtain⟨vs,h1,h2⟩:=hf fw;refine⟨_,?_,(bj.Nv he args.toList).app h2⟩;simp only[fh,h1,aCr hc.1]
 ·split<;>try trivial
  rename_i x t dd UF;have hx:=he x
  split
  ·rename_i s hs
   intro hc;rw[hs]at hx;simp only[XV]at hx;have ht:P.underlying t=some .string:=by
    unfold aaq at hc
    split at hc
    ·assumption
    ·cases hc
   simp only[fh,dd,hx,UF,aDh,aDR,ht];exact⟨_,_,rfl,trivial,by simp only[XV]⟩
  ·split<;>try trivial
   rename_i n hn;intro hc;obtain⟨e1,e2,e3⟩:=aal aZ hx hn;simp only[fh,dd];generalize ev x=u at e1 e2 e3 ⊢;cases u<;>first | exact absurd rfl (e3 _) | (simp only[e1];exact⟨_,_,rfl,⟨e2,by simp[UF,hc]⟩,by simp only[XV]⟩)
 ·split<;>try trivial
  rename_i x y t t' dd UF
  split<;>try trivial
  rename_i ht;simp only[fh,dd,UF,aCr ht];exact IZ aZ t c (he x) (he y)
 ·split<;>try trivial
  rename_i v hv;intro _;unfold aq1 at hv
  split at hv<;>try (cases hv;done)
  rename_i k a k' b hl
  split at hv<;>try (cases hv;done)
  rename_i hk;cases hv;have hm:=bj.Nv he args.toList;rw[hl]at hm;simp only[bj,XV]at hm;obtain⟨v1,r1,h1,rfl,v2,r2,rfl,rfl,rfl⟩:=hm;simp only[fh,h1,aj5,aCr hk];exact⟨_,_,rfl,trivial,by simp only[XV]⟩
 ·split<;>try trivial
  rename_i v hv;intro _;unfold aq0 at hv
  split at hv<;>try (cases hv;done)
  rename_i k a k' b hl
  split at hv<;>try (cases hv;done)
  rename_i hk;cases hv;have hm:=bj.Nv he args.toList;rw[hl]at hm;simp only[bj,XV]at hm;obtain⟨v1,r1,h1,rfl,v2,r2,rfl,rfl,rfl⟩:=hm;simp only[fh,h1,aj4,aCr hk];exact⟨_,_,rfl,trivial,by simp only[XV]⟩
 ·trivial
omit aZ in
theorem Dp{τ:List Ty}{r:az τ}{row:List V}(h:cD τ r row):∀n:Nat,bK τ (List.replicate n r) (List.replicate n row)
 | 0=>trivial
 | n+1=>⟨h,Dp h n⟩
theorem Tk(c:Nat)(t:TypeId){x y:X}{x' y':V}(hx:XV H x x')(hy:XV H y y'):sP H (Xu P c t x y) (nY P t x' y'):=by
 unfold Xu
 split<;>try trivial
 rename_i e he
 split<;>try trivial
 rename_i k l
 split<;>try trivial
 rename_i k2 m
 split<;>try trivial
 rename_i z hz
 split<;>try trivial
 rename_i τ hτ
 split<;>try trivial
 rename_i r hr
 split<;>try trivial
 rename_i dD;intro hc;simp only[aCs,aCy]at hc;obtain⟨z',h1,h2⟩:=s5 (H:=H) hz;simp only[XV]at hx hy;subst hx;subst hy;unfold nY;simp only[he,h1,aCr dD];exact⟨_,_,rfl,⟨hc.1,hc.2.1,hc.2.2.1,hc.2.2.2⟩,⟨rfl,rfl,rfl,Dp (gO τ z r z' hr h2) _⟩,fun h=>by cases h⟩
theorem za(o:Oper)(e:Operand→X)(ev:Operand→V)(he:∀x,XV H (e x) (ev x))(c:Nat):sP H (Xa P o e H.x c) (gF P o ev H.v):=by
 obtain⟨dst,op,ty,pos,after,guard⟩:=o;unfold Xa;simp only
 split
 ·exact fun _=>⟨_,_,rfl,trivial,he _⟩
 ·exact fun _=>⟨_,_,rfl,trivial,he _⟩
 ·rename_i c' a b
  have hc:=he c'
  split<;>try trivial
  rename_i t ht;rw[ht]at hc;simp only[XV]at hc
  split
  ·intro _;simp only[gF,hc];exact⟨_,_,rfl,trivial,he _⟩
  ·intro _;simp only[gF,hc];exact⟨_,_,rfl,trivial,he _⟩
 ·exact MI c _
 ·rename_i t x
  intro hc;simp only[aCs,aCy]at hc;obtain⟨s1,s2,s3⟩:=iL aZ (he x) hc.1;simp only[gF];exact⟨_,_,rfl,⟨s1,by rw[s3.len];exact hc.2⟩,⟨rfl,rfl,by simp[s2],⟨s3,trivial⟩⟩,fun _=>by simp⟩
 ·exact MG aZ _ e ev he _
 ·exact yN aZ _ _ c e ev he _
 ·split<;>try trivial
  rename_i h;simp only[gF,aCr h];exact Db aZ _ (he _)
 ·split<;>try trivial
  rename_i h;simp only[gF,aCr h];exact My aZ _ (he _) (he _)
 ·split<;>try trivial
  rename_i h;intro hc;obtain⟨p,w,h1,h2,h3⟩:=acd _ _ (he _) (he _) h hc;simp only[gF,h1];exact⟨_,_,rfl,h2,h3⟩
 ·rename_i x
  have hx:=he x
  split<;>try trivial
  rename_i b hb;rw[hb]at hx;simp only[XV]at hx;intro _;simp only[gF,hx];exact⟨_,_,rfl,trivial,by simp only[XV]⟩
 ·rename_i x
  have hx:=he x
  split<;>try trivial
  rename_i k n hb;rw[hb]at hx;simp only[XV]at hx;intro _;simp only[gF,hx];exact⟨_,_,rfl,trivial,by simp only[XV]⟩
 ·rename_i src aBl x
  have hx:=he x
  split<;>try trivial
  rename_i k n hb;rw[hb]at hx;simp only[XV]at hx
  split<;>try trivial
  rename_i h1 h2;intro _;simp only[gF,hx,h1,h2];exact⟨_,_,rfl,trivial,by simp only[XV]⟩
 ·exact MB _ (he _) e ev he _ _
 ·exact Ae aZ _ _ (he _)
 ·exact ME aZ _ _ (he _)
 ·rename_i t x i
  have:gF P ⟨dst,.indexAddr t x i,ty,pos,after,guard⟩ ev H.v=Od P H.v t (ev x) (ev i):=by
   simp only[gF,Od];cases ev x<;>rfl
  rw[this];exact Xv aZ _ (he _) (he _)
 ·rename_i x i
  have hx:=he x
  split<;>try trivial
  rename_i vs xg
  split<;>try trivial
  rename_i v hv;rw[xg]at hx;simp only[XV]at hx;obtain⟨ws,h1,h2⟩:=hx;obtain⟨w,h3,h4⟩:=h2.at i v hv;intro _;simp only[gF,h1,h3];exact⟨_,_,rfl,trivial,h4⟩
 ·rename_i f first bZ
  split<;>try trivial
  rename_i hc;simp only[aCs,List.isEmpty_iff]at hc;obtain⟨h1,h2⟩:=K3 aZ (bj.Nv he bZ.toList) hc.2;intro _;simp only[gF,hc.1,h2];refine⟨_,_,rfl,trivial,?_⟩;simp only[XV];exact⟨fun x hx=>(h1 x hx).2,fun _=>⟨_,rfl,bj.Nv he bZ.toList⟩⟩
 ·rename_i x
  have hx:=he x
  split<;>try trivial
  rename_i o bf i j hp;rw[hp]at hx;intro hc;obtain⟨bD,ob,h1,h2,h3,h4,h5,h6⟩:=ed aZ hx hc;simp only[gF,h6];refine⟨_,_,rfl,⟨ob,h3,rfl⟩,?_⟩;rw[h6]at hx;exact hx
 ·exact Tl aZ e ev he c _
 ·exact Tk aZ c _ (he _) (he _)
 ·trivial
end
end Go.AL
