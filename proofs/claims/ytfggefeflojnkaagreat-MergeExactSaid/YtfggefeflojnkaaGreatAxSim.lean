/- AI. -/
import Derived.Test.YtfggefeflojnkaaGreatAxOp
set_option linter.unusedVariables false
set_option linter.unusedSectionVars false
namespace Go.AL
def sh(H:jg):Ip→AR→Prop
 | .val c x,r=>c=true→∃p v,r=.val p v∧p∧XV H x v
 | .new c ob b,r=>c=true→∃p ob',r=.new p ob' b∧p∧fT H ob ob'∧(b=false→0<ob'.rows.length)
 | .H3 c o ob,r=>c=true→∃p ob',r=.H3 p o ob'∧p∧fT H ob ob'∧∃Ix bA,H.x o=some Ix∧ob.aU=Ix.aU∧H.v o=some bA∧ob'.rows.length=bA.rows.length
 | .app c o ob,r=>c=true→∃p ob',r=.app p o ob'∧p∧fT H ob ob'
 | .call g args,r=>∃vs,r=.call g vs∧aW H args vs
 | .bad,_=>True
def NV(P:Program)(h:Nat→Option Ob)(t:TypeId)(v iv:V):AR:=match v with
 | .ref ..=>dG P h t v iv
 | .ptr ..=>dZ P h t v iv
 | _=>dy P t v iv
section
variable {P:Program} {H:jg}
theorem aW.len:∀{xs:List X} {vs:List V},aW H xs vs→vs.length=xs.length
 | [],vs,h=>by grind[aW]
 | x::xs,vs,h=>by
  simp only[aW]at h;obtain⟨v,r,rfl,_,h3⟩:=h;simp[aW.len h3]
theorem aW.at:∀{xs:List X} {vs:List V},aW H xs vs→∀(j:Nat) (x:X),xs[j]? = some x→∃v,vs[j]? = some v∧XV H x v
 | [],vs,h,j,x,hx=>by simp at hx
 | x::xs,vs,h,0,y,hy=>by
  grind[aW]
 | x::xs,vs,h,j+1,y,hy=>by
  simp only[aW]at h;obtain⟨v,r,rfl,h2,h3⟩:=h;exact aW.at h3 j y (by grind)
theorem aW.take:∀(n:Nat) {xs:List X} {vs:List V},aW H xs vs→aW H (xs.take n) (vs.take n)
 | 0,xs,vs,h=>by simp[aW]
 | n+1,[],vs,h=>by grind[aW]
 | n+1,x::xs,vs,h=>by
  simp only[aW]at h;obtain⟨v,r,rfl,h2,h3⟩:=h;simp only[List.take_succ_cons,aW];exact⟨v,_,rfl,h2,aW.take n h3⟩
theorem aW.drop:∀(n:Nat) {xs:List X} {vs:List V},aW H xs vs→aW H (xs.drop n) (vs.drop n)
 | 0,xs,vs,h=>by grind
 | n+1,[],vs,h=>by grind[aW]
 | n+1,x::xs,vs,h=>by
  simp only[aW]at h;obtain⟨v,r,rfl,h2,h3⟩:=h;simpa only[List.drop_succ_cons]using aW.drop n h3
theorem aW.app:∀{xs:List X} {vs:List V} {ys:List X} {us:List V},aW H xs vs→aW H ys us→aW H (xs++ys) (vs++us)
 | [],vs,ys,us,h,h'=>by grind[aW]
 | x::xs,vs,ys,us,h,h'=>by
  simp only[aW]at h;obtain⟨v,r,rfl,h2,h3⟩:=h;simp only[aAS,aW];exact⟨v,_,rfl,h2,aW.app h3 h'⟩
theorem aW.cut{xs:List X}{vs:List V}(h:aW H xs vs)(j n:Nat):aW H (amM xs j n) (cut vs j n):=(h.drop j).take n
theorem aW.putAt{xs ys:List X}{vs us:List V}(h:aW H xs vs)(h':aW H ys us)(j:Nat):aW H (XM xs j ys) (putAt vs j us):=by
 unfold XM AL.putAt;rw[h'.len];exact((h.take j).app h').app (h.drop _)
theorem Fi(v:Value):XV H (X.db v) (V.db v):=by
 unfold X.db V.db
 grind[XV]
theorem AF:∀(l:List Value),aW H (l.map X.db) (l.map V.db)
 | []=>by simp[aW]
 | v::l=>by
  simp only[aAy,aW];exact⟨_,_,rfl,Fi v,AF l⟩
theorem aj4(v:Value):XV H (X.oD v) (V.oD v):=by
 have h0:=Fi (H:=H) v;cases v with
 | agg cs=>
  simp only[X.oD,V.oD]
  split
  ·simp only[XV];exact⟨_,rfl,AF _⟩
  grind[XV]
 | _=>exact h0
theorem RS.ev{xs:br}{s:St}(R:RS xs s)(x:Operand):XV ⟨xs.c,xs.h,s.h⟩ (xs.ev x) (s.ev x):=by
 cases x with
 | tmp i=>
  show XV _ (bif Nat.blt i 100000 then xs.t i else .dead) (if i<100000 then s.t i else .dead);cases hb:Nat.blt i 100000 with
  | true=>rw[azE (by simp_all)];exact R.t i
  | false=>simp only[azI,XV]
 | const v=>exact aj4 v
 | func f=>
  grind[br.ev,St.ev,XV,aW]
 | global g=>grind[br.ev,XV]
theorem sy{t:TypeId}{z:List X}(h:Is P t=some z):∃z',eX P t=some z'∧aW H z z':=by
 unfold Is at h;unfold eX
 split at h<;>try trivial
 rename_i v hv;rw[hv];simp only
 split at h<;>try trivial
 rename_i hc;rw[azE hc];grind[AF]
variable (aP:∀o bn,H.x o=some bn→bn.aU<H.c∧∃ob,H.v o=some ob∧fT H bn ob)
include aP
theorem cM{o aU:Nat}{v:V}(hx:XV H (.ref o aU) v)(hc:dt H.x o aU=true):∃bn ob,H.x o=some bn∧bn.aU=aU∧H.v o=some ob∧fT H bn ob∧v=.ref o ob.rows.length:=by
 unfold dt at hc
 split at hc<;>try (cases hc;done)
 rename_i bn ho;have hv:bn.aU=aU:=azV hc;grind[XV]
theorem dL{o aU i j:Nat}{v:V}(hx:XV H (.ptr o aU i j) v)(hc:dt H.x o aU=true):∃bn ob,H.x o=some bn∧bn.aU=aU∧H.v o=some ob∧fT H bn ob∧i<ob.rows.length∧v=.ptr o ob.rows.length i j:=by
 unfold dt at hc
 split at hc<;>try (cases hc;done)
 rename_i bn ho;have hv:bn.aU=aU:=azV hc;grind[XV]
theorem iT{x:X}{v:V}(hx:XV H x v)(hs:x.fC H.x=true):v.fC H.v∧v.pure=x.pure∧aW H x.cells v.cells:=by
 cases x<;>simp only[X.fC]at hs<;>try (cases hs;done)
 case ref o aU=>
  obtain⟨bn,ob,h1,h2,h3,h4,rfl⟩:=cM aP hx hs;refine⟨⟨ob,h3,rfl⟩,rfl,?_⟩;grind[X.cells,V.cells,aW]
 case ptr o aU i j=>
  obtain⟨bn,ob,h1,h2,h3,h4,h5,rfl⟩:=dL aP hx hs;refine⟨⟨ob,h3,rfl⟩,rfl,?_⟩;grind[X.cells,V.cells,aW]
 case agg imp cs=>
  simp only[XV]at hx;obtain⟨vs,rfl,h2⟩:=hx;cases imp
  ·exact⟨trivial,rfl,h2⟩
  ·exact⟨trivial,rfl,h2⟩
 case sl τ l=>
  have hx':=hx;simp only[XV]at hx';rcases hx' with⟨_,rfl⟩ | ⟨rows,rfl,_⟩
  all_goals
   refine⟨trivial,rfl,?_⟩;simp only[X.cells,V.cells,aW];exact⟨_,_,rfl,hx,rfl⟩
 case rd τ l=>
  have hx':=hx;simp only[XV]at hx';obtain⟨rows,rfl,_⟩:=hx';refine⟨trivial,rfl,?_⟩;grind[X.cells,V.cells,aW]
 all_goals
  have hx':=hx;simp only[XV]at hx';subst hx';refine⟨trivial,rfl,?_⟩;simp only[X.cells,V.cells,aW];exact⟨_,_,rfl,hx,rfl⟩
theorem D6{x:X}(h:x.pure=true):x.fC H.x=true:=by
 cases x<;>first | rfl | (simp[X.pure]at h;done)
theorem X3{v ty es:Nat}{τ:List Ty}{l:List (aA τ)}{ob:Ob}(h:fT H (.t v ty es τ l) ob){i:Nat}(hi:i<ob.rows.length):∃row,ob.rows[i]? = some row∧bW τ (l.getD i (FE τ)) row:=by
 obtain⟨_,_,_,h4⟩:=h;have hl:=aJ.len h4;obtain⟨row,h5,h6⟩:=aJ.get h4 i (l[i]'(by omega)) (azS (by omega));grind
theorem DG(t:TypeId){x:X}{v:V}(hx:XV H x v):sh H (Pg P H.x t x) (iy P H.v t v):=by
 have hR:∀(imp:Bool) (row:List X) (dX:List V) (j:Nat) (p:Prop),p→aW H row dX→sh H (AG P t imp row j) (fF P t p imp dX j):=by
  intro imp row dX j p hp hr;unfold AG fF
  split
  ·intro hc
   exact⟨_,_,rfl,⟨hp,by rw[hr.len];exact azZ hc⟩,by simp only[XV];exact⟨_,rfl,hr.cut j _⟩⟩
  ·split
   ·cases hj:row[j]? with
    | none=>trivial
    | some y=>
     obtain⟨u,h1,h2⟩:=hr.at j y hj;simp only[h1]
     split
     ·rename_i hip
      intro _;have:imp=true∨u.pure=true:=by
       cases imp
       ·simp at hip
        exact .inr (by rw[(iT aP h2 (D6 aP hip)).2.1];exact hip)
       grind
      rw[azE this];grind
     ·trivial
   ·trivial
 unfold Pg
 split
 ·rename_i o aU i j
  split
  ·rename_i v' ty es τ l ho
   split<;>try trivial
   rename_i hv;obtain⟨bn,ob,h1,h2,h3,h4,h5,rfl⟩:=dL aP hx (by unfold dt;rw[ho];exact hv);rw[ho]at h1;cases h1;obtain⟨row,h6,h7⟩:=X3 aP h4 h5;obtain⟨_,_,himp,_⟩:=h4;grind[iy,eo]
  ·rename_i v' ty es imp rows ho
   split<;>try trivial
   rename_i hv
   split<;>try trivial
   rename_i row aK;obtain⟨bn,ob,h1,h2,h3,h4,h5,rfl⟩:=dL aP hx (by unfold dt;rw[ho];exact hv);rw[ho]at h1;cases h1;obtain⟨_,_,himp,h8⟩:=h4;obtain⟨dX,h6,h7⟩:=aJ.get h8 i row aK;grind[iy]
  ·trivial
 ·rename_i row j
  simp only[XV]at hx;obtain⟨vs,rfl,h2⟩:=hx;exact hR false _ _ _ _ trivial h2
 ·trivial
theorem L8(t:TypeId){x y:X}{v u:V}(hx:XV H x v)(hy:XV H y u):sh H (L9 P H.x t x y) (fh P H.v t v u):=by
 unfold L9
 split<;>try trivial
 rename_i o aU i j
 split
 ·rename_i v' ty es τ l ho
  split<;>try trivial
  rename_i hv;simp only[azF]at hv
  split<;>try trivial
  rename_i r hr;obtain⟨bn,ob,h1,h2,h3,h4,h5,rfl⟩:=dL aP hx (by unfold dt;rw[ho];exact hv.1);rw[ho]at h1;cases h1;obtain⟨row,h6,h7⟩:=X3 aP h4 h5;obtain⟨qZ,bI,himp,h8⟩:=h4;obtain⟨s1,s2,s3⟩:=iT aP hy (D6 aP hv.2);intro hc;simp only[azF,azM]at hc;simp only[fh,h3,h6];have aK:=eo (H:=H) τ _ row h7;have wT:=gh τ _ r _ hr (aK.putAt s3 j);have hlen:row.length=τ.length:=by
   rw[aK.len];have:∀(A:Type) (f:A→X) (σ:List Ty) (z:cI A σ),(kU f σ z).length=σ.length+1:=by
    intro A f σ;induction σ generalizing A f with
    | nil=>intro z;rfl
    | cons t σ ih=>intro z;simp only[kU,azL];rw[ih]
   cases τ with
   | nil=>rfl
   | cons t σ=>simp only[iF,azL];grind
  refine⟨_,_,rfl,⟨trivial,s1,by rw[s3.len];exact hc.1,by rw[s3.len,hlen];exact hc.2⟩,⟨qZ,bI,?_,?_⟩,_,ob,ho,rfl,rfl,by simp⟩
  ·grind
  ·exact aJ.set wT i h8
 ·rename_i v' ty es imp rows ho
  split<;>try trivial
  rename_i hv
  split<;>try trivial
  rename_i row aK;obtain⟨bn,ob,h1,h2,h3,h4,h5,rfl⟩:=dL aP hx (by unfold dt;rw[ho];exact hv);rw[ho]at h1;cases h1;obtain⟨qZ,bI,himp,h8⟩:=h4;obtain⟨dX,h6,h7⟩:=aJ.get h8 i row aK;intro hc;simp only[azF,azM]at hc;obtain⟨s1,s2,s3⟩:=iT aP hy hc.1.1;simp only[fh,h3,h6];refine⟨_,_,rfl,⟨trivial,s1,by rw[s3.len];exact hc.1.2,by rw[s3.len,h7.len];exact hc.2⟩,⟨qZ,bI,?_,?_⟩,_,ob,ho,rfl,rfl,by simp⟩
  ·grind
  ·exact aJ.set (h7.putAt s3 j) i h8
 ·trivial
theorem KE(place:Nat→Option (Nat×Nat))(e:Operand→X)(ev:Operand→V)(he:∀x,XV H (e x) (ev x)):∀(l:List (Nat×Operand)) (cs:List X) (eL:List V) (r:List X),(∀q∈l,(e q.2).fC H.x=true)→aW H cs eL→
  KF place cs (l.map fun q=>(q.1,e q.2))=some r→∃r',lE place eL (l.map fun q=>(q.1,ev q.2))=some r'∧aW H r r'
 | [],cs,eL,r,_,h,hf=>by simp only[aBq,KF]at hf;cases hf;exact⟨eL,rfl,h⟩
 | (i,x)::l,cs,eL,r,hs,h,hf=>by
  simp only[aAy,KF]at hf;simp only[aAy,lE]
  split at hf<;>try (cases hf;done)
  rename_i off size hp
  split at hf<;>try (cases hf;done)
  rename_i hc;obtain⟨s1,s2,s3⟩:=iT aP (he x) (hs _ (az1 ..));simp only[hp];rw[azE (by rw[s3.len,h.len];exact hc)];exact KE place e ev he l _ _ r (fun q hq=>hs q (az6 _ hq)) (h.putAt s3 off) hf
theorem sR(e:Operand→X)(ev:Operand→V)(he:∀x,XV H (e x) (ev x)):∀(l:List (Nat×Operand)),(∀q∈l,(e q.2).fC H.x=true)→(l.map fun q=>(q.1,ev q.2)).all (·.2.pure)=(l.map fun q=>(q.1,e q.2)).all (·.2.pure)
 | [],_=>rfl
 | (i,x)::l,hs=>by
  simp only[aAy,aBJ];rw[(iT aP (he x) (hs _ (az1 ..))).2.1,sR e ev he l (fun q hq=>hs q (az6 _ hq))]
theorem Mg(t:TypeId)(e:Operand→X)(ev:Operand→V)(he:∀x,XV H (e x) (ev x))(l:List (Nat×Operand)):
  sh H (Mh P H.x t (l.map fun q=>(q.1,e q.2))) (iL P H.v t (l.map fun q=>(q.1,ev q.2))):=by
 unfold Mh iL
 split<;>try trivial
 split<;>try trivial
 rename_i z hz
 split<;>try trivial
 rename_i cs uR;intro hc;have hs:∀q∈l,(e q.2).fC H.x=true:=fun q hq=>azU.1 hc (q.1,e q.2) (az4.2 ⟨q,hq,rfl⟩)
 obtain⟨z',h1,h2⟩:=sy (H:=H) hz;obtain⟨r',h3,h4⟩:=KE aP _ e ev he l z z' cs hs h2 uR;simp only[h1,h3];refine⟨_,_,rfl,fun q hq=>?_,?_⟩
 ·obtain⟨p,hp,rfl⟩:=az4.1 hq
  exact(iT aP (he p.2) (hs p hp)).1
 ·rw[sR aP e ev he l hs]
  grind[XV]
omit aP in
theorem NP{A:Type}{a:Option A}{b:Option (List A)}{l:List A}(h:aae a b=some l):∃x r,a=some x∧b=some r∧l=x::r:=by
 unfold aae at h
 grind
omit aP in
theorem dq{τ:List Ty}:∀{rows:List (List X)} {bq:List (List V)} {l:List (aA τ)},jz τ rows=some l→aJ (aW H) rows bq→bD τ l bq
 | [],[],l,h,_=>by cases h;trivial
 | row::rows,dX::bq,l,h,h2=>by
  obtain⟨r,l',h1,h3,rfl⟩:=NP h;exact⟨gh τ row r dX h1 h2.1,dq h3 h2.2⟩
 | [],_::_,_,_,h2=>h2.elim
 | _::_,[],_,_,h2=>h2.elim
omit aP in
theorem Yt{c e:Nat}{imp:Bool}{rows:List (List X)}{bq:List (List V)}(h:aJ (aW H) rows bq):fT H (aln P c e imp rows) ⟨e,aq P e,imp,bq⟩:=by
 unfold aln
 split
 ·exact⟨rfl,rfl,rfl,h⟩
 ·split
  ·split
   ·rename_i τ _ l hl
    exact⟨rfl,rfl,rfl,dq hl h⟩
   ·exact⟨rfl,rfl,rfl,h⟩
  ·exact⟨rfl,rfl,rfl,h⟩
omit aP in
theorem Ee:∀{a b:List Nat},FT a b=true→a=b
 | [],[],_=>rfl
 | a::as,b::bs,h=>by
  simp only[FT,azF]at h;rw[azV h.1,Ee h.2]
 | [],_::_,h=>by cases h
 | _::_,[],h=>by cases h
theorem yF(t:TypeId)(len:Nat)(c:Nat)(e:Operand→X)(ev:Operand→V)(he:∀x,XV H (e x) (ev x))(l:List (Nat×Operand)):
  sh H (nX P H.x c t len (l.map fun q=>(q.1,e q.2))) (cW P H.v t len (l.map fun q=>(q.1,ev q.2))):=by
 unfold nX
 split<;>try trivial
 rename_i el sq
 split<;>try trivial
 rename_i su;simp only[azF,azM]at su;intro hc;unfold cW;simp only[sq];have hq:∀q∈l,(e q.2).fC H.x=true∧(e q.2).cells.length=aq P el:=fun q hq=>by
  have:=azU.1 hc (q.1,e q.2) (az4.2 ⟨q,hq,rfl⟩);grind
 have Zr:(l.map fun q=>(q.1,ev q.2)).map (·.1)=(l.map fun q=>(q.1,e q.2)).map (·.1):=by simp
 have bF:∀l':List (Nat×Operand),(∀q∈l',(e q.2).fC H.x=true)→aJ (aW H) ((l'.map fun q=>(q.1,e q.2)).map (·.2.cells)) ((l'.map fun q=>(q.1,ev q.2)).map (·.2.cells)):=by
  intro l';induction l' with
  | nil=>intro _;trivial
  | cons q l' ih=>intro h;exact⟨(iT aP (he q.2) (h q (az1 ..))).2.2,ih (fun p hp=>h p (az6 _ hp))⟩
 rw[azE ⟨by rw[Zr];exact Ee su.1.1.1,su.1.1.2,su.1.2,su.2⟩];refine⟨_,_,rfl,fun q Ni=>?_,?_,fun h=>by cases h⟩
 ·obtain⟨p,hp,rfl⟩:=az4.1 Ni
  obtain⟨s1,_,s3⟩:=iT aP (he p.2) (hq p hp).1;exact⟨s1,by rw[s3.len];exact(hq p hp).2⟩
 ·rw[sR aP e ev he l (fun q Ni=>(hq q Ni).1)]
  grind[Yt]
theorem AI(t:TypeId)(f:Nat){x:X}{v:V}(hx:XV H x v):sh H (sB P H.x t f x) (dd P H.v t f v):=by
 unfold sB
 split
 ·rename_i o aU i j
  split<;>try trivial
  rename_i off ft hf;intro hc;obtain⟨bn,ob,h1,h2,h3,h4,h5,rfl⟩:=dL aP hx hc;simp only[dd,h3,hf];grind[XV]
 ·rename_i row j
  split<;>try trivial
  rename_i off ft hf;intro _;simp only[XV]at hx;obtain⟨vs,rfl,h2⟩:=hx;simp only[dd,hf];grind[XV]
 ·trivial
theorem Me(t:TypeId)(f:Nat){x:X}{v:V}(hx:XV H x v):sh H (Mf P t f x) (kH P t f v):=by
 unfold Mf
 split<;>try trivial
 rename_i cs;simp only[XV]at hx;obtain⟨vs,rfl,h2⟩:=hx
 split<;>try trivial
 rename_i off ft hf;simp only[np,kH,hf]
 split
 ·intro hc
  exact⟨_,_,rfl,by rw[h2.len];exact azZ hc,by simp only[XV];exact⟨_,rfl,h2.cut off _⟩⟩
 ·split
  ·cases hj:cs[off]? with
   | none=>trivial
   | some y=>
    obtain⟨u,h3,h4⟩:=h2.at off y hj;simp only[h3];intro _;grind
  ·trivial
omit aP in
theorem Gf{τ:List Ty}{l:List (aA τ)}{rows:List (List V)}(h:bD τ l rows){i:Nat}(hi:i<l.length):∃row,rows[i]? = some row∧bW τ (l.getD i (FE τ)) row∧row.length=τ.length:=by
 obtain⟨row,h5,h6⟩:=aJ.get h i (l[i]'hi) (azS hi);have e:l.getD i (FE τ)=l[i]'hi:=by grind
 refine⟨row,h5,by rw[e];exact h6,?_⟩;have h7:=(eo (H:=⟨0,fun _=>none,fun _=>none⟩) τ _ row h6).len;rw[h7];have:∀(A:Type) (f:A→X) (σ:List Ty) (z:cI A σ),(kU f σ z).length=σ.length+1:=by
  intro A f σ;induction σ generalizing A f with
  | nil=>intro z;rfl
  | cons t σ ih=>intro z;simp only[kU,azL];rw[ih]
 cases τ with
 | nil=>rfl
 | cons t σ=>simp only[iF,azL];grind
omit aP in
theorem ib{τ:List Ty}{x:aA τ}{row:List V}(h:bW τ x row):row.length=τ.length:=by
 obtain⟨dX,h1,_,h3⟩:=Gf (l:=[x]) (rows:=[row]) ⟨h,trivial⟩ (i:=0) (by simp);grind
theorem AH(t:TypeId){x ix:X}{v iv:V}(hx:XV H x v)(hi:XV H ix iv):
  sh H (sA P H.x t x ix) (NV P H.v t v iv):=by
 unfold sA NV
 split<;>try trivial
 rename_i e k i he;simp only[XV]at hi;subst hi
 split<;>try trivial
 rename_i hz
 split
 ·rename_i τ l
  intro hc;simp only[azF,azM]at hc;obtain⟨c3,c1,c2⟩:=hc;simp only[XV]at hx;rcases hx with⟨rfl,_⟩ | ⟨rows,rfl,hr⟩
  ·grind
  ·obtain⟨row,h5,h6,h7⟩:=Gf hr (i:=i.toNat) (by omega)
   simp only[dy,he,h5,hz,aAd];refine⟨_,_,rfl,⟨c1,by rw[h7];exact c3⟩,?_⟩;grind[XV,eo]
 ·rename_i τ l
  intro hc;simp only[azF,azM]at hc;obtain⟨c3,c1,c2⟩:=hc;simp only[XV]at hx;obtain⟨rows,rfl,hr⟩:=hx;obtain⟨row,h5,h6,h7⟩:=Gf hr (i:=i.toNat) (by omega);simp only[dy,he,h5,hz,aAd];refine⟨_,_,rfl,⟨c1,by rw[h7];exact c3⟩,?_⟩;grind[XV,eo]
 ·rename_i o aU
  split<;>try trivial
  ·rename_i v' ty es τ l ho
   intro hc;simp only[azF,azM]at hc;obtain⟨c0,c3,c1,c2⟩:=hc;obtain⟨bn,ob,h1,h2,h3,h4,rfl⟩:=cM aP hx (by unfold dt;rw[ho];exact c0);rw[ho]at h1;cases h1;obtain⟨_,bI,_,h8⟩:=h4;have hl:=aJ.len h8;simp only[dG,he,h3,hz,aAd];refine⟨_,_,rfl,⟨c1,by omega,trivial,by rw[bI];exact c3⟩,?_⟩;grind[XV]
  ·rename_i v' ty es imp rows ho
   intro hc;simp only[azF,azM]at hc;obtain⟨c0,c3,c1,c2⟩:=hc;obtain⟨bn,ob,h1,h2,h3,h4,rfl⟩:=cM aP hx (by unfold dt;rw[ho];exact c0);rw[ho]at h1;cases h1;obtain⟨_,bI,_,h8⟩:=h4;have hl:=aJ.len h8;simp only[dG,he,h3,hz,aAd];refine⟨_,_,rfl,⟨c1,by omega,trivial,by rw[bI];exact c3⟩,?_⟩;grind[XV]
 ·trivial
theorem Di(t:TypeId){x ix:X}{v iv:V}(hx:XV H x v)(hi:XV H ix iv):
  sh H (wy P H.x t x ix) (NV P H.v t v iv):=by
 unfold wy
 split<;>try trivial
 rename_i m e k i he;simp only[XV]at hi;subst hi
 split<;>try trivial
 rename_i hz
 split<;>try trivial
 rename_i o aU
 split<;>try trivial
 rename_i v' ty es τ l ho;intro hc;simp only[azF,azM]at hc;obtain⟨c0,c3,c4,c1,c2⟩:=hc;obtain⟨bn,ob,h1,h2,h3,h4,h5,rfl⟩:=dL aP hx (by unfold dt;rw[ho];exact c0);rw[ho]at h1;cases h1;obtain⟨_,bI,_,h8⟩:=h4;have hl:=aJ.len h8;have c5:=azV c4;simp only[NV,dZ,he,h3,hz,aAd];refine⟨_,_,rfl,⟨c1,by omega,by omega,trivial,by rw[bI];exact c3⟩,?_⟩;grind[XV]
theorem Wj(t:TypeId){x ix:X}{v iv:V}(hx:XV H x v)(hi:XV H ix iv):
  sh H (aj5 P H.x t x ix) (NV P H.v t v iv):=by
 unfold aj5
 grind[Di,AH]
omit aP in
theorem Lh(es:Nat):∀(m:Nat) {z:List X} {z':List V},aW H z z'→aJ (aW H) (cL es m z) (cL es m z')
 | 0,z,z',h=>trivial
 | m+1,z,z',h=>⟨h.take es,Lh es m (h.drop es)⟩
omit aP in
theorem Mi(c:Nat)(t:TypeId):sh H (Mj P c t) (mY P t):=by
 unfold Mj mY
 split<;>try trivial
 rename_i z hz;obtain⟨z',h1,h2⟩:=sy (H:=H) hz;rw[h1];simp only
 split
 ·rename_i m e he
  rw[he]
  split<;>try trivial
  rename_i τ hτ
  split<;>try trivial
  rename_i l hl
  split<;>try trivial
  rename_i hc;intro _;simp only[azE (show 0<m∧0<aq P e∧z'.length=m*aq P e by rw[h2.len];exact hc)];refine⟨_,_,rfl,trivial,⟨rfl,rfl,rfl,dq hl (Lh _ m h2)⟩,fun _=>?_⟩;have:∀(m:Nat) (w:List V),(cL (aq P e) m w).length=m:=fun m=>by
   induction m with
   | zero=>intro w;rfl
   | succ m ih=>grind[cL]
  grind
 ·rename_i he
  rw[he];intro _;exact⟨_,_,rfl,trivial,⟨rfl,rfl,rfl,⟨h2,trivial⟩⟩,fun _=>by simp⟩
omit aP in
theorem aj3{k:IntKind}{n:Int}{v:V}(h:XV H (.int k n) v):v=.int k n:=by grind[XV]
omit aP in
theorem uF{e:Operand→X}{ev:Operand→V}(he:∀x,XV H (e x) (ev x)){o:Option Operand}{r:Option Int}(h:YT (o.map e)=some r):
  (o=none∧r=none)∨∃x k n,o=some x∧ev x=.int k n∧r=some n:=by
 cases o with
 | none=>grind[YT]
 | some x=>
  simp only[az7]at h;have hx:=he x;generalize e x=y at h hx;cases y<;>simp[YT]at h
  exact .inr ⟨x,_,_,rfl,aj3 hx,h.symm⟩
omit aP in
theorem Mb(t:TypeId){x:X}{v:V}(hx:XV H x v)(e:Operand→X)(ev:Operand→V)(he:∀x,XV H (e x) (ev x))(lo hi:Option Operand):
  sh H (Mc P t x (lo.map e) (hi.map e)) (ez P t v (lo.map ev) (hi.map ev)):=by
 unfold Mc
 split<;>try trivial
 rename_i el sq
 split<;>try trivial
 rename_i hz
 split<;>try trivial
 rename_i a b ha hb;have rl:∀{τ:List Ty} {l:List (aA τ)} {rows:List (List V)},bD τ l rows→τ.length=aq P el→∀r∈rows,r.length=aq P el:=by
  intro τ l rows hr hτ r hm;obtain⟨i,j5⟩:=aAr hm;obtain⟨y,_,hy⟩:=aJ.uS hr i r j5;grind[ib]
 unfold an8
 split<;>try trivial
 ·rename_i τ l
  simp only[XV]at hx;rcases uF he ha with⟨rfl,rfl⟩ | ⟨xa,ka,na,rfl,ea,rfl⟩<;>rcases uF he hb with⟨rfl,rfl⟩ | ⟨xb,kb,nb,rfl,eb,rfl⟩<;>try trivial
  all_goals
   intro hc;simp only[azF,azM]at hc;rcases hx with⟨rfl,rfl⟩ | ⟨rows,rfl,hr⟩
  ·simp only[ez,sq,hz,aAd,aBg,az7,eb]
   grind[XV]
  ·have hl:=aJ.len hr
   simp only[ez,sq,hz,aAd,aBg,az7,eb];refine⟨_,_,rfl,⟨hc.1,by omega⟩,?_⟩;simp only[XV];exact .inr ⟨_,rfl,aJ.take _ hr⟩
  ·simp only[ez,sq,hz,aAd,aBg,az7,ea]
   grind[XV]
  ·have hl:=aJ.len hr
   simp only[ez,sq,hz,aAd,aBg,az7,ea];refine⟨_,_,rfl,⟨hc.2.1,by omega,rl hr hc.1⟩,?_⟩;simp only[XV];exact .inr ⟨_,rfl,aJ.drop _ hr⟩
  ·simp only[ez,sq,hz,aAd,az7,ea,eb]
   grind[XV]
  ·have hl:=aJ.len hr
   simp only[ez,sq,hz,aAd,az7,ea,eb];refine⟨_,_,rfl,⟨hc.2.1,hc.2.2.1,by omega,rl hr hc.1⟩,?_⟩;simp only[XV];exact .inr ⟨_,rfl,aJ.drop _ (aJ.take _ hr)⟩
 ·rename_i τ l
  simp only[XV]at hx;obtain⟨rows,rfl,hr⟩:=hx;have hl:=aJ.len hr;rcases uF he ha with⟨rfl,rfl⟩ | ⟨xa,ka,na,rfl,ea,rfl⟩<;>rcases uF he hb with⟨rfl,rfl⟩ | ⟨xb,kb,nb,rfl,eb,rfl⟩<;>try trivial
  all_goals
   intro hc;simp only[azF,azM]at hc
  ·simp only[ez,sq,hz,aAd,aBg,az7,eb]
   refine⟨_,_,rfl,⟨hc.1,by omega⟩,?_⟩;simp only[XV];exact⟨_,rfl,aJ.take _ hr⟩
  ·simp only[ez,sq,hz,aAd,aBg,az7,ea]
   refine⟨_,_,rfl,⟨hc.2.1,by omega,rl hr hc.1⟩,?_⟩;simp only[XV];exact⟨_,rfl,aJ.drop _ hr⟩
  ·simp only[ez,sq,hz,aAd,az7,ea,eb]
   refine⟨_,_,rfl,⟨hc.2.1,hc.2.2.1,by omega,rl hr hc.1⟩,?_⟩;simp only[XV];exact⟨_,rfl,aJ.drop _ (aJ.take _ hr)⟩
omit aP in
theorem BX:∀{xs ys:List X} {us vs:List V} {b:Bool},aW H xs us→aW H ys vs→uV xs ys=some b→eV us vs=some b∧us.filterMap fG=xs.filterMap P1
 | [],[],us,vs,b,h1,h2,h=>by
  simp only[aW]at h1 h2;subst h1 h2;simp only[uV]at h;cases h;exact⟨rfl,rfl⟩
 | x::xs,y::ys,us,vs,b,h1,h2,h=>by
  simp only[aW]at h1 h2;obtain⟨u,AM,rfl,hu,gV⟩:=h1;obtain⟨v,bS,rfl,hv,tL⟩:=h2;cases x<;>cases y<;>simp only[uV]at h<;>try trivial
  ·rename_i k a k' c
   simp only[XV]at hu hv;subst hu hv
   split at h<;>try trivial
   rename_i hk;cases hr:uV xs ys with
   | none=>grind
   | some r=>
    simp[hr]at h;obtain⟨e1,e2⟩:=BX gV tL hr;simp only[eV,azE hk,e1,az7,aBn,fG,P1,e2];simp[h]
  ·rename_i a c
   simp only[XV]at hu hv;subst hu hv;cases hr:uV xs ys with
   | none=>grind
   | some r=>
    simp[hr]at h;obtain⟨e1,e2⟩:=BX gV tL hr;simp only[eV,e1,az7,aBn,fG,P1,e2];simp[h]
 | [],_::_,_,_,_,_,_,h=>by grind[uV]
 | _::_,[],_,_,_,_,_,h=>by grind[uV]
omit aP in
theorem BE:∀{a b:List Bool},zq a b=true→a=b
 | [],[],_=>rfl
 | a::as,b::bs,h=>by
  simp only[zq,azF,aAO]at h;rw[h.1,BE h.2]
 | [],_::_,h=>by cases h
 | _::_,[],h=>by cases h
omit aP in
theorem Bl{op:BinOp}{t:TypeId}{q b:Bool}{Q:Prop}(hq:q=true→Q){c:Bool}{r:X}(h:X9 P op t q b=some (c,r))(hc:c=true):∃p w,uw P op t Q b=some (p,w)∧p∧XV H r w:=by
 unfold X9 at h;unfold uw
 split at h<;>try trivial
 ·simp only[azN,azY]at h
  obtain⟨rfl,rfl⟩:=h;rw[azF]at hc;grind[XV]
 ·simp only[azN,azY]at h
  obtain⟨rfl,rfl⟩:=h;rw[azF]at hc;grind[XV]
omit aP in
theorem aar(op:BinOp)(t:TypeId){x y:X}{u v:V}(hx:XV H x u)(hy:XV H y v){c:Bool}{r:X}(h:am9 P op t x y=some (c,r))(hc:c=true):∃p w,GA P op t u v=some (p,w)∧p∧XV H r w:=by
 unfold am9 at h
 split at h
 ·rename_i k a k' b
  simp only[XV]at hx hy;subst hx hy;simp only[GA]
  split at h
  ·rename_i hs
   rw[azE hs];cases op<;>simp[Xc]at h<;>try trivial
   all_goals
    obtain⟨rfl,rfl⟩:=h;refine⟨_,_,rfl,azZ hc,by simp only[XV]⟩
  ·rename_i hs
   rw[azD hs]
   split at h<;>try trivial
   rename_i hk;rw[azE hk];cases op<;>simp only[apv]at h<;>try trivial
   all_goals
    cases h
    first
     | exact⟨_,_,rfl,trivial,by simp only[XV]⟩
     | exact⟨_,_,rfl,by simpa using hc,by simp only[XV]⟩
 ·rename_i a b
  simp only[XV]at hx hy;subst hx hy;have hb:∀t,zr P t=true→P.underlying t=some .bool:=by
   grind[zr]
  split at h<;>try trivial
  ·cases h
   exact⟨_,_,rfl,hb t hc,by simp only[XV]⟩
  ·cases h
   exact⟨_,_,rfl,hb t hc,by simp only[XV]⟩
 ·rename_i xs ys
  simp only[XV,np]at hx hy;obtain⟨us,rfl,h1⟩:=hx;obtain⟨vs,rfl,h2⟩:=hy;have key:∀b,uV xs ys=some b→(cE P t&&Qw P t xs)=true→eV us vs=some b∧cE P t=true∧T7 P t=some (us.filterMap fG):=by
   intro b hb j6;simp only[azF]at j6;grind[BX,Qw,BE]
  split at h<;>try trivial
  ·cases hr:uV xs ys with
   | none=>grind
   | some b=>
    simp only[hr,az7,azN,azY]at h;obtain⟨rfl,rfl⟩:=h;obtain⟨e1,e2,e3⟩:=key b hr hc;simp only[GA,e1,az7];grind[XV]
  ·cases hr:uV xs ys with
   | none=>grind
   | some b=>
    simp only[hr,az7,azN,azY]at h;obtain⟨rfl,rfl⟩:=h;obtain⟨e1,e2,e3⟩:=key b hr hc;simp only[GA,e1,az7];grind[XV]
 ·simp only[XV]at hx hy
  subst hx hy;exact Bl (fun _=>trivial) h hc
 ·simp only[XV]at hx hy
  obtain⟨rows,rfl,hr⟩:=hx;subst hy;refine Bl (fun hl e=>?_) h hc;subst e;rename_i τ l;cases l with
  | nil=>simp at hl
  | cons a l=>exact hr.elim
 ·simp only[XV]at hx hy
  subst hx hy;exact Bl (fun _=>trivial) h hc
 ·cases h
theorem S4{e:TypeId}{x:X}{v:V}{τ:List Ty}{l:List (aA τ)}(hx:XV H x v)(h:Xm P e H.x x=some ⟨τ,l⟩):∃rows,rowsOf H.v v=some rows∧bD τ l rows:=by
 unfold Xm at h
 split at h
 ·simp only[XV]at hx
  subst hx;cases hr:gf P 8 e with
  | none=>grind
  | some σ=>
   simp only[hr,az7,azN]at h;cases h;exact⟨[],rfl,trivial⟩
 ·simp only[XV]at hx
  subst hx;cases hr:gf P 8 e with
  | none=>grind
  | some σ=>
   simp only[hr,az7,azN]at h;cases h;exact⟨[],rfl,trivial⟩
 ·cases h
  simp only[XV]at hx;rcases hx with⟨rfl,rfl⟩ | ⟨rows,rfl,hr⟩
  ·exact⟨[],rfl,trivial⟩
  ·exact⟨rows,rfl,hr⟩
 ·cases h
  simp only[XV]at hx;obtain⟨rows,rfl,hr⟩:=hx;exact⟨rows,rfl,hr⟩
 ·rename_i o aU
  split at h<;>try trivial
  ·rename_i v' ty es σ l' ho
   split at h<;>try trivial
   rename_i hv;cases h;obtain⟨bn,ob,h1,h2,h3,h4,rfl⟩:=cM aP hx (by unfold dt;rw[ho];exact hv);rw[ho]at h1;cases h1;obtain⟨_,_,himp,h8⟩:=h4;grind[rowsOf]
  ·rename_i v' ty es imp rows ho
   split at h<;>try trivial
   rename_i hv;simp only[azF,aAi]at hv
   split at h<;>try trivial
   rename_i σ hσ;cases hl:jz σ rows with
   | none=>grind
   | some l'=>
    simp only[hl,az7,azN]at h;cases h;obtain⟨bn,ob,h1,h2,h3,h4,rfl⟩:=cM aP hx (by unfold dt;rw[ho];exact hv.1);rw[ho]at h1;cases h1;obtain⟨_,_,himp,h8⟩:=h4;exact⟨ob.rows,by simp[rowsOf,h3,himp,hv.2],dq hl h8⟩
 ·cases h
omit aP in
theorem sO{τ:List Ty}{l:List (aA τ)}{rows:List (List V)}(hr:bD τ l rows){n:Nat}(hτ:τ.length=n):∀r∈rows,r.length=n:=by
 intro r hm;obtain⟨i,j5⟩:=aAr hm;obtain⟨y,_,hy⟩:=aJ.uS hr i r j5;grind[ib]
omit aP in
theorem mo{n b:Nat}(h1:1≤b)(h:n*b≤140737488355328):n≤maxLen:=by
 have:n*1≤n*b:=Nat.mul_le_mul_left n h1;unfold maxLen;omega
theorem Iy(t:TypeId){x y:X}{u v:V}(c:Nat)(hx:XV H x u)(hy:XV H y v):sh H (Fj P H.x c t x y) (dM P H.v t u v):=by
 unfold Fj
 split<;>try trivial
 rename_i e he
 split<;>try trivial
 rename_i σ new wT;obtain⟨rows,bF,hr⟩:=S4 aP hy wT;have hln:=aJ.len hr
 split<;>try trivial
 rename_i hz
 split<;>try trivial
 ·simp only[XV]at hx
  subst hx;intro hc;simp only[azF,azM]at hc;simp only[dM,he,bF,azD hz];exact⟨_,_,rfl,⟨sO hr hc.1,by rw[← hln];exact hc.2.2,by rw[← hln];exact mo hc.2.1 hc.2.2⟩,⟨rfl,rfl,rfl,hr⟩,fun h=>by cases h⟩
 ·rename_i o aU
  split<;>try trivial
  ·rename_i v' ty es τ l ho
   split<;>try trivial
   rename_i hτ;intro hc;simp only[azF,azM]at hc;obtain⟨c1,c2,c3,c4,c6,c5⟩:=hc;obtain⟨bn,ob,h1,h2,h3,h4,rfl⟩:=cM aP hx (by unfold dt;rw[ho];exact c1);rw[ho]at h1;cases h1;obtain⟨qZ,bI,himp,h8⟩:=h4;have TU:=aJ.len h8;simp only[dM,he,bF,azD hz,h3];exact⟨_,_,rfl,⟨trivial,by rw[qZ];exact c2,by rw[bI];exact c3,sO hr c4,by rw[← hln,← TU];exact c5,by rw[← hln,← TU];exact mo c6 c5⟩,⟨qZ,bI,himp,aJ.app ((cg new hτ rows).2 hr) h8⟩⟩
  ·rename_i v' ty es imp rws ho
   split<;>try trivial
   rename_i aqg
   split<;>try trivial
   rename_i l hl;intro hc;simp only[azF,azM]at hc;obtain⟨c1,c2,c3,c4,c6,c5⟩:=hc;obtain⟨bn,ob,h1,h2,h3,h4,rfl⟩:=cM aP hx (by unfold dt;rw[ho];exact c1);rw[ho]at h1;cases h1;obtain⟨qZ,bI,himp,h8⟩:=h4;have h9:=dq hl h8;have TU:=aJ.len h9;simp only[dM,he,bF,azD hz,h3];exact⟨_,_,rfl,⟨trivial,by rw[qZ];exact c2,by rw[bI];exact c3,sO hr c4,by rw[← hln,← TU];exact c5,by rw[← hln,← TU];exact mo c6 c5⟩,⟨qZ,bI,by rw[himp];simpa using aqg,aJ.app hr h9⟩⟩
theorem YM{x:X}{v:V}{n:Nat}(hx:XV H x v)(h:alv H.x x=some n):lenOf v=some n∧v.live H.v∧∀s,v ≠ .str s:=by
 unfold alv at h
 split at h
 ·cases h
  simp only[XV]at hx;subst hx;exact⟨rfl,trivial,fun s h=>by cases h⟩
 ·cases h
  simp only[XV]at hx;rcases hx with⟨rfl,rfl⟩ | ⟨rows,rfl,hr⟩
  ·exact⟨rfl,trivial,fun s h=>by cases h⟩
  ·exact⟨by simp[lenOf,aJ.len hr],trivial,fun s h=>by cases h⟩
 ·cases h
  simp only[XV]at hx;obtain⟨rows,rfl,hr⟩:=hx;exact⟨by simp[lenOf,aJ.len hr],trivial,fun s h=>by cases h⟩
 ·rename_i o aU
  split at h<;>try trivial
  ·rename_i v' ty es σ l' ho
   split at h<;>try trivial
   rename_i hv;cases h;obtain⟨bn,ob,h1,h2,h3,h4,rfl⟩:=cM aP hx (by unfold dt;rw[ho];exact hv);rw[ho]at h1;cases h1;obtain⟨_,_,himp,h8⟩:=h4;exact⟨by simp[lenOf,aJ.len h8],⟨ob,h3,rfl⟩,fun s h=>by cases h⟩
  ·rename_i v' ty es imp rows ho
   split at h<;>try trivial
   rename_i hv;cases h;obtain⟨bn,ob,h1,h2,h3,h4,rfl⟩:=cM aP hx (by unfold dt;rw[ho];exact hv);rw[ho]at h1;cases h1;obtain⟨_,_,himp,h8⟩:=h4;exact⟨by simp[lenOf,aJ.len h8],⟨ob,h3,rfl⟩,fun s h=>by cases h⟩
 ·cases h
omit aP in
theorem aW.M7{e:Operand→X}{ev:Operand→V}(he:∀x,XV H (e x) (ev x)):∀(l:List Operand),aW H (l.map e) (l.map ev)
 | []=>by simp[aW]
 | x::l=>by simp only[aAy,aW];exact⟨_,_,rfl,he x,aW.M7 he l⟩
theorem ahb{x:X}{v:V}(hx:XV H x v)(h:X.Ut H.x x=true):x.Gl H∧x.Gn H.c∧v.KU=true:=by
 cases x<;>simp only[X.Ut]at h<;>try trivial
 case ptr o aU i j=>
  obtain⟨bn,ob,h1,h2,h3,h4,h5,rfl⟩:=dL aP hx h;simp only[XV]at hx;exact⟨⟨bn,h1,h2⟩,hx.1,rfl⟩
 case sl τ l=>
  simp only[XV]at hx;rcases hx with⟨_,rfl⟩ | ⟨rows,rfl,_⟩<;>exact⟨trivial,trivial,rfl⟩
 case cp row j=>
  simp only[XV]at hx;obtain⟨vs,rfl,_⟩:=hx;exact⟨trivial,trivial,rfl⟩
 all_goals
  simp only[XV]at hx;subst hx;exact⟨trivial,trivial,rfl⟩
theorem KT:∀{xs:List X} {vs:List V},aW H xs vs→xs.all (X.Ut H.x)=true→(∀x∈xs,x.Gl H∧x.Gn H.c)∧vs.all V.KU=true
 | [],vs,h,_=>by grind[aW]
 | x::xs,vs,h,ha=>by
  simp only[aW]at h;obtain⟨v,r,rfl,h2,h3⟩:=h;simp only[aBJ,azF]at ha;obtain⟨a1,a2,a3⟩:=ahb aP h2 ha.1;obtain⟨b1,b2⟩:=KT h3 ha.2;grind
theorem SD(e:Operand→X)(ev:Operand→V)(he:∀x,XV H (e x) (ev x))(c:Nat)(cl:Call):sh H (Wk P e H.x c cl) (fi P ev H.v cl):=by
 obtain⟨callee,args,argTypes⟩:=cl;unfold Wk;simp only
 split
 ·rename_i f
  have hf:=he f
  split<;>try trivial
  rename_i g aw hg
  split<;>try trivial
  rename_i hc;simp only[azF]at hc;rw[hg]at hf;simp only[XV]at hf;obtain⟨hg1,hf⟩:=hf;have fw:∀x∈aw,x.Gl H:=by
   intro x hx;have h1:=azU.1 hc.2 x hx;cases x<;>simp only[X.aq2,X.Ut]at h1<;>try (cases h1;done)
   all_goals first | trivial | skip
   unfold dt at h1
   split at h1<;>try (cases h1;done)
   rename_i bn ho;exact⟨bn,ho,azV h1⟩
  obtain⟨vs,h1,h2⟩:=hf fw;refine⟨_,?_,(aW.M7 he args.toList).app h2⟩;simp only[fi,h1,azE hc.1]
 ·split<;>try trivial
  rename_i x t cZ TQ;have hx:=he x
  split
  ·rename_i s hs
   intro hc;rw[hs]at hx;simp only[XV]at hx;have ht:P.underlying t=some .string:=by
    grind[YS]
   simp only[fi,cZ,hx,TQ,aAy,aBq,ht];grind[XV]
  ·split<;>try trivial
   rename_i n hn;intro hc;obtain⟨e1,e2,e3⟩:=YM aP hx hn;simp only[fi,cZ];generalize ev x=u at e1 e2 e3 ⊢;cases u<;>first | exact absurd rfl (e3 _) | (simp only[e1];exact⟨_,_,rfl,⟨e2,by simp[TQ,hc]⟩,by simp only[XV]⟩)
 ·split<;>try trivial
  rename_i x y t t' cZ TQ
  split<;>try trivial
  rename_i ht;simp only[fi,cZ,TQ,azE ht];grind[Iy]
 ·split<;>try trivial
  rename_i v hv;intro _;unfold an7 at hv
  split at hv<;>try (cases hv;done)
  rename_i k a k' b hl
  split at hv<;>try (cases hv;done)
  rename_i hk;cases hv;have hm:=aW.M7 he args.toList;rw[hl]at hm;simp only[aW,XV]at hm;obtain⟨v1,r1,h1,rfl,v2,r2,rfl,rfl,rfl⟩:=hm;simp only[fi,h1,ahq,azE hk];grind[XV]
 ·split<;>try trivial
  rename_i v hv;intro _;unfold an6 at hv
  split at hv<;>try (cases hv;done)
  rename_i k a k' b hl
  split at hv<;>try (cases hv;done)
  rename_i hk;cases hv;have hm:=aW.M7 he args.toList;rw[hl]at hm;simp only[aW,XV]at hm;obtain⟨v1,r1,h1,rfl,v2,r2,rfl,rfl,rfl⟩:=hm;simp only[fi,h1,ahp,azE hk];grind[XV]
 ·trivial
omit aP in
theorem DV{τ:List Ty}{r:aA τ}{row:List V}(h:bW τ r row):∀n:Nat,bD τ (List.replicate n r) (List.replicate n row)
 | 0=>trivial
 | n+1=>⟨h,DV h n⟩
theorem SC(c:Nat)(t:TypeId){x y:X}{x' y':V}(hx:XV H x x')(hy:XV H y y'):sh H (Wi P c t x y) (nu P t x' y'):=by
 unfold Wi
 split<;>try trivial
 rename_i e he
 split<;>try trivial
 rename_i k l
 split<;>try trivial
 rename_i k2 m
 split<;>try trivial
 rename_i z hz
 split<;>try trivial
 rename_i τ hτ
 split<;>try trivial
 rename_i r hr
 split<;>try trivial
 rename_i dr;intro hc;simp only[azF,azM]at hc;obtain⟨z',h1,h2⟩:=sy (H:=H) hz;simp only[XV]at hx hy;subst hx;subst hy;unfold nu;simp only[he,h1,azE dr];exact⟨_,_,rfl,⟨hc.1,hc.2.1,hc.2.2.1,hc.2.2.2⟩,⟨rfl,rfl,rfl,DV (gh τ z r z' hr h2) _⟩,fun h=>by cases h⟩
theorem ze(o:Oper)(e:Operand→X)(ev:Operand→V)(he:∀x,XV H (e x) (ev x))(c:Nat):sh H (Wg P o e H.x c) (gH P o ev H.v):=by
 obtain⟨dst,op,ty,pos,after,guard⟩:=o;unfold Wg;simp only
 split
 ·exact fun _=>⟨_,_,rfl,trivial,he _⟩
 ·exact fun _=>⟨_,_,rfl,trivial,he _⟩
 ·rename_i c' a b
  have hc:=he c'
  split<;>try trivial
  rename_i t ht;rw[ht]at hc;simp only[XV]at hc
  split
  ·intro _;simp only[gH,hc];grind
  ·intro _;simp only[gH,hc];grind
 ·exact Mi c _
 ·rename_i t x
  intro hc;simp only[azF,azM]at hc;obtain⟨s1,s2,s3⟩:=iT aP (he x) hc.1;simp only[gH];exact⟨_,_,rfl,⟨s1,by rw[s3.len];exact hc.2⟩,⟨rfl,rfl,by simp[s2],⟨s3,trivial⟩⟩,fun _=>by simp⟩
 ·exact Mg aP _ e ev he _
 ·exact yF aP _ _ c e ev he _
 ·split<;>try trivial
  rename_i h;simp only[gH,azE h];grind[DG]
 ·split<;>try trivial
  rename_i h;simp only[gH,azE h];grind[L8]
 ·split<;>try trivial
  rename_i h;intro hc;obtain⟨p,w,h1,h2,h3⟩:=aar _ _ (he _) (he _) h hc;simp only[gH,h1];grind
 ·rename_i x
  have hx:=he x
  split<;>try trivial
  rename_i b hb;rw[hb]at hx;simp only[XV]at hx;intro _;simp only[gH,hx];grind[XV]
 ·rename_i x
  have hx:=he x
  split<;>try trivial
  rename_i k n hb;rw[hb]at hx;simp only[XV]at hx;intro _;simp only[gH,hx];grind[XV]
 ·rename_i src ayD x
  have hx:=he x
  split<;>try trivial
  rename_i k n hb;rw[hb]at hx;simp only[XV]at hx
  split<;>try trivial
  rename_i h1 h2;intro _;simp only[gH,hx,h1,h2];grind[XV]
 ·exact Mb _ (he _) e ev he _ _
 ·exact AI aP _ _ (he _)
 ·exact Me aP _ _ (he _)
 ·rename_i t x i
  have:gH P ⟨dst,.indexAddr t x i,ty,pos,after,guard⟩ ev H.v=NV P H.v t (ev x) (ev i):=by
   grind[gH,NV]
  grind[Wj]
 ·rename_i x i
  have hx:=he x
  split<;>try trivial
  rename_i vs tL
  split<;>try trivial
  rename_i v hv;rw[tL]at hx;simp only[XV]at hx;obtain⟨ws,h1,h2⟩:=hx;obtain⟨w,h3,h4⟩:=h2.at i v hv;intro _;simp only[gH,h1,h3];grind
 ·rename_i f first aw
  split<;>try trivial
  rename_i hc;simp only[azF,List.isEmpty_iff]at hc;obtain⟨h1,h2⟩:=KT aP (aW.M7 he aw.toList) hc.2;intro _;simp only[gH,hc.1,h2];grind[XV,aW.M7]
 ·rename_i x
  have hx:=he x
  split<;>try trivial
  rename_i o aU i j hp;rw[hp]at hx;intro hc;obtain⟨bn,ob,h1,h2,h3,h4,h5,h6⟩:=dL aP hx hc;simp only[gH,h6];grind
 ·exact SD aP e ev he c _
 ·exact SC aP c _ (he _) (he _)
 ·trivial
end
end Go.AL
