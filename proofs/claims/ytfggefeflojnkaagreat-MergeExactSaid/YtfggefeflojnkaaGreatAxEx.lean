/- AI. -/
import Derived.Test.YtfggefeflojnkaaGreatAlPart
import Derived.Test.YtfggefeflojnkaaGreatAlDraw7
set_option linter.unusedVariables false
namespace Go.AL
inductive AK where
 | c (t:Ty)
 | g (τ:List Ty)
 | rd (τ:List Ty)
 | cp (τ:List Ty)
 | fn (f:FuncId) (aw:List (List Ty))
 | raw (v:Value)
def nj:List (List Ty)→Type
 | []=>Unit
 | τ::ts=>sx (aA τ) ts
where
 sx (A:Type):List (List Ty)→Type
 | []=>A
 | τ::ts=>A×sx (aA τ) ts
def AK.T:AK→Type
 | .c t=>t.T
 | .g τ=>aA τ
 | .rd τ=>List (aA τ)
 | .cp τ=>aA τ
 | .fn _ aw=>nj aw
 | .raw _=>Unit
def dA:List AK→Type
 | []=>Unit
 | k::ks=>ky k.T ks
where
 ky (A:Type):List AK→Type
 | []=>A
 | k::ks=>A×ky k.T ks
def qO{A:Type}(f:A→V→Prop):(ts:List (List Ty))→nj.sx A ts→List V→Prop
 | [],x,vs=>∃v,vs=[v]∧f x v
 | τ::ts,x,vs=>∃v r,vs=v::r∧f (Prod.fst x) v∧qO (fun(y:aA τ) v=>∃row,v=.cp row 0∧bW τ y row) ts (Prod.snd x) r
def DF:(ts:List (List Ty))→nj ts→List V→Prop
 | [],_,vs=>vs=[]
 | τ::ts,x,vs=>qO (fun(y:aA τ) v=>∃row,v=.cp row 0∧bW τ y row) ts x vs
def lZ:(k:AK)→k.T→V→Prop
 | .c t,x,v=>eM t x v
 | .g τ,x,v=>∃row,v=.agg row∧bW τ x row
 | .rd τ,l,v=>∃rows,v=.rd rows∧bD τ l rows
 | .cp τ,x,v=>∃row,v=.cp row 0∧bW τ x row
 | .fn f aw,x,v=>∃vs,v=.fn f vs∧DF aw x vs
 | .raw u,_,v=>v=V.db u
def ed{A:Type}(f:A→V→Prop):(ks:List AK)→dA.ky A ks→List V→Prop
 | [],x,vs=>∃v,vs=[v]∧f x v
 | k::ks,x,vs=>∃v r,vs=v::r∧f (Prod.fst x) v∧ed (lZ k) ks (Prod.snd x) r
def bY:(ks:List AK)→dA ks→List V→Prop
 | [],_,vs=>vs=[]
 | k::ks,x,vs=>ed (lZ k) ks x vs
def QD{τ σ:List Ty}(x:aA τ)(h:eh τ σ=true):aA σ:=(ju h)▸x
theorem Ur{τ σ:List Ty}(x:aA τ)(h:eh τ σ=true)(row:List V):bW σ (QD x h) row↔bW τ x row:=by
 have:=ju h;subst this;exact Iff.rfl
def cpD(h:Nat→Option du)(σ:List Ty):X→Option (aA σ)
 | .ptr o aU i j=>match h o with
  | some (.t v _ _ τ l)=>if hτ:eh τ σ=true then bif Nat.beq v aU&&Nat.beq j 0 then some (QD (l.getD i (FE τ)) hτ)else none else none
  | some (.u v _ _ imp rows)=>bif Nat.beq v aU&&Nat.beq j 0 then(match rows[i]? with
   | some row=>bif imp then wE σ (row.take σ.length)else wE σ row
   | none=>none)else none
  | none=>none
 | .cp row j=>bif Nat.beq j 0 then wE σ row else none
 | _=>none
def rdD(h:Nat→Option du)(σ:List Ty):X→Option (List (aA σ))
 | .nil=>some []
 | .sl τ l=>if hτ:eh τ σ=true then some (iP l hτ)else none
 | .rd τ l=>if hτ:eh τ σ=true then some (iP l hτ)else none
 | .ref o aU=>match h o with
  | some (.t v _ _ τ l)=>if hτ:eh τ σ=true then bif Nat.beq v aU then some (iP l hτ)else none else none
  | some (.u v _ _ imp rows)=>bif Nat.beq v aU&&!imp then jz σ rows else none
  | none=>none
 | _=>none
def QF{A:Type}(h:Nat→Option du)(f:X→Option A):(ts:List (List Ty))→List X→Option (nj.sx A ts)
 | []=>fun xs=>match xs with
  | [x]=>f x
  | _=>none
 | τ::ts=>fun xs=>match xs with
  | x::r=>lg (f x) (QF h (cpD h τ) ts r)
  | []=>none
def aq1(h:Nat→Option du):(ts:List (List Ty))→List X→Option (nj ts)
 | []=>fun xs=>match xs with
  | []=>some ()
  | _=>none
 | τ::ts=>fun xs=>QF h (cpD h τ) ts xs
def gD(σ:List Ty):X→Option (aA σ)
 | .agg false cs=>wE σ cs
 | _=>none
def fnD(h:Nat→Option du)(f:FuncId)(aw:List (List Ty)):X→Option (nj aw)
 | .fn g xs=>bif Nat.beq g f&&xs.all (X.aan h)then aq1 h aw xs else none
 | _=>none
where
 X.aan (h:Nat→Option du):X→Bool
 | .ptr o aU _ _=>dt h o aU
 | .cp _ _=>true
 | _=>false
def aaB(h:Nat→Option du)(k:AK)(x:X):Option k.T:=match k with
 | .c t=>EC t x
 | .g τ=>gD τ x
 | .rd τ=>rdD h τ x
 | .cp τ=>cpD h τ x
 | .fn f aw=>fnD h f aw x
 | .raw _=>none
def GF{A:Type}(h:Nat→Option du)(f:X→Option A):(ks:List AK)→List X→Option (dA.ky A ks)
 | []=>fun xs=>match xs with
  | [x]=>f x
  | _=>none
 | k::ks=>fun xs=>match xs with
  | x::r=>lg (f x) (GF h (aaB h k) ks r)
  | []=>none
def aay(h:Nat→Option du):(ks:List AK)→List X→Option (dA ks)
 | []=>fun xs=>match xs with
  | []=>some ()
  | _=>none
 | k::ks=>fun xs=>GF h (aaB h k) ks xs
theorem It{H:jg}:∀{xs:List X} {vs:List V},aW H xs vs→∀n:Nat,aW H (xs.take n) (vs.take n)
 | [],vs,h,n=>by grind[aW]
 | x::xs,vs,h,0=>by simp only[aBb,aW]
 | x::xs,vs,h,n+1=>by
  simp only[aW]at h;obtain⟨v,r,rfl,h1,h2⟩:=h;simp only[List.take_succ_cons,aW];exact⟨_,_,rfl,h1,It h2 n⟩
theorem Jm:∀(t:Ty) (x:t.T) (v:V),eM t x v→v.atom=true
 | .int k,x,v,h=>by simp only[eM]at h;subst h;rfl
 | .bool,x,v,h=>by simp only[eM]at h;subst h;rfl
 | .str,x,v,h=>by simp only[eM]at h;subst h;rfl
 | .sl cs,x,v,h=>by
  simp only[eM]at h;rcases h with⟨_,rfl⟩ | ⟨rows,rfl,_⟩<;>rfl
theorem A5{A:Type}:∀(τ:List Ty) (R:A→V→Prop),(∀x v,R x v→v.atom=true)→∀(x:cI A τ) (row:List V),dz R τ x row→∀y∈row,y.atom=true
 | [],R,hR,x,row,h,y,hy=>by
  grind[dz]
 | t::ts,R,hR,x,row,h,y,hy=>by
  simp only[dz]at h;obtain⟨v,r,rfl,hv,hr⟩:=h;rcases azW.1 hy with rfl | hy
  ·grind
  ·exact A5 ts (eM t) (fun x v=>Jm t x v) _ r hr y hy
theorem S5(τ:List Ty)(x:aA τ)(row:List V)(h:bW τ x row):∀y∈row,y.atom=true:=by
 cases τ with
 | nil=>grind[bW]
 | cons t ts=>grind[bW,A5,eM,Jm]
section
variable {H:jg} (aP:∀o bn,H.x o=some bn→bn.aU<H.c∧∃ob,H.v o=some ob∧fT H bn ob)
include aP
theorem NO{σ:List Ty}{x:X}{a:aA σ}{v:V}(h:cpD H.x σ x=some a)(hx:XV H x v):∃row,bW σ a row∧xj H.v v (.cp row 0)∧jU H.v v (.cp row 0):=by
 unfold cpD at h
 split at h
 ·rename_i o aU i j
  split at h
  ·rename_i v' ty es τ l ho
   split at h<;>try trivial
   rename_i hτ;cases hb:(Nat.beq v' aU&&Nat.beq j 0)with
   | false=>grind
   | true=>
    rw[hb]at h;simp only[azF]at hb;have hj:=azV hb.2;subst hj;have:=az9 h;subst this;obtain⟨bn,ob,h1,h2,h3,h4,h5,rfl⟩:=dL aP hx (by unfold dt;rw[ho];exact hb.1);rw[ho]at h1;cases h1;obtain⟨row,h6,h7⟩:=X3 aP h4 h5;obtain⟨_,_,himp,_⟩:=h4;exact⟨row,(Ur _ hτ row).2 h7,⟨ob,h3,rfl,.inl ⟨himp,h6⟩,rfl⟩,⟨ob,h3,rfl,.inl ⟨himp,h6⟩,rfl⟩⟩
  ·rename_i v' ty es imp rows ho
   cases hb:(Nat.beq v' aU&&Nat.beq j 0)with
   | false=>grind
   | true=>
    rw[hb]at h;simp only[azF]at hb;have hj:=azV hb.2;subst hj;simp only[azH]at h
    split at h<;>try trivial
    rename_i row aK;obtain⟨bn,ob,h1,h2,h3,h4,h5,rfl⟩:=dL aP hx (by unfold dt;rw[ho];exact hb.1);rw[ho]at h1;cases h1;obtain⟨_,_,himp,h8⟩:=h4;obtain⟨dX,h6,h7⟩:=aJ.get h8 i row aK;cases Qj:imp with
    | false=>
     rw[Qj]at h himp;exact⟨dX,gh σ row a dX h h7,⟨ob,h3,rfl,.inl ⟨himp,h6⟩,rfl⟩,⟨ob,h3,rfl,.inl ⟨himp,h6⟩,rfl⟩⟩
    | true=>
     rw[Qj]at h;have h9:aW H (row.take σ.length) (dX.take σ.length):=It h7 _;have hr:=gh σ _ a _ h h9;have fP:(dX.take σ.length).all V.atom=true:=azU.2 fun y hy=>S5 σ a _ hr y hy
     have he:dX.take σ.length=dX.take (dX.take σ.length).length:=by grind
     exact⟨_,hr,⟨ob,h3,rfl,.inr ⟨dX,h6,he,fP⟩,rfl⟩,⟨ob,h3,rfl,.inr ⟨dX,h6,he,fP⟩,rfl⟩⟩
  ·cases h
 ·rename_i row j
  simp only[XV]at hx;obtain⟨vs,rfl,h2⟩:=hx;cases hb:Nat.beq j 0 with
  | false=>grind
  | true=>
   rw[hb]at h;have hj:=azV hb;subst hj;exact⟨vs,gh σ row a vs h h2,⟨rfl,rfl⟩,⟨rfl,rfl⟩⟩
 ·cases h
theorem XF{σ:List Ty}{x:X}{a:List (aA σ)}{v:V}(h:rdD H.x σ x=some a)(hx:XV H x v):∃rows,bD σ a rows∧jU H.v v (.rd rows):=by
 unfold rdD at h
 split at h
 ·have:=az9 h
  subst this;simp only[XV]at hx;subst hx;exact⟨[],trivial,rfl⟩
 ·split at h<;>try trivial
  rename_i hτ;have:=az9 h;subst this;simp only[XV]at hx;rcases hx with⟨rfl,rfl⟩ | ⟨rows,rfl,hr⟩
  ·exact⟨[],(cg _ hτ []).2 trivial,rfl⟩
  ·exact⟨rows,(cg _ hτ rows).2 hr,rfl⟩
 ·split at h<;>try trivial
  rename_i hτ;have:=az9 h;subst this;simp only[XV]at hx;obtain⟨rows,rfl,hr⟩:=hx;exact⟨rows,(cg _ hτ rows).2 hr,rfl⟩
 ·rename_i o aU
  split at h
  ·rename_i v' ty es τ l ho
   split at h<;>try trivial
   rename_i hτ;cases hb:Nat.beq v' aU with
   | false=>grind
   | true=>
    rw[hb]at h;have:=az9 h;subst this;obtain⟨bn,ob,h1,h2,h3,h4,rfl⟩:=cM aP hx (by unfold dt;rw[ho];exact hb);rw[ho]at h1;cases h1;obtain⟨_,_,himp,h8⟩:=h4;exact⟨ob.rows,(cg _ hτ _).2 h8,⟨ob,h3,rfl,himp,rfl⟩⟩
  ·rename_i v' ty es imp rows ho
   cases hb:(Nat.beq v' aU&&!imp)with
   | false=>grind
   | true=>
    rw[hb]at h;simp only[azF,aAi]at hb;simp only[azH]at h;obtain⟨bn,ob,h1,h2,h3,h4,rfl⟩:=cM aP hx (by unfold dt;rw[ho];exact hb.1);rw[ho]at h1;cases h1;obtain⟨_,_,himp,h8⟩:=h4;exact⟨ob.rows,dq h h8,⟨ob,h3,rfl,by rw[himp];exact hb.2,rfl⟩⟩
  ·cases h
 ·cases h
theorem KX{A:Type}{f:X→Option A}{R:A→V→Prop}(hf:∀x a v,f x=some a→XV H x v→∃v',xj H.v v v'∧R a v'):∀(ts:List (List Ty)) (xs:List X) (a:nj.sx A ts) (vs:List V),QF H.x f ts xs=some a→aW H xs vs→
  ∃bS,mB H.v vs bS∧qO R ts a bS
 | [],xs,a,vs,h,hv=>by
  match xs,h,hv with
  | [x],h,hv=>
   have h:f x=some a:=h;simp only[aW]at hv;obtain⟨v,r,rfl,h1,rfl⟩:=hv;obtain⟨v',h2,h3⟩:=hf x a v h h1;simp only[qO];exact⟨[v'],⟨h2,trivial⟩,v',rfl,h3⟩
 | τ::ts,xs,a,vs,h,hv=>by
  match xs,h,hv with
  | x::r,h,hv=>
   have h:lg (f x) (QF H.x (cpD H.x τ) ts r)=some a:=h;obtain⟨ha,hr⟩:=gK h;simp only[aW]at hv;obtain⟨v,r',rfl,h1,h2⟩:=hv;obtain⟨v',h4,h5⟩:=hf x _ v ha h1;obtain⟨bS,h6,h7⟩:=KX (R:=fun(y:aA τ) v=>∃row,v=.cp row 0∧bW τ y row) (fun x a v Qa P8=>by
    obtain⟨row,e1,e2,_⟩:=NO aP Qa P8;exact⟨_,e2,row,rfl,e1⟩) ts r _ r' hr h2
   simp only[qO];exact⟨v'::bS,⟨h4,h6⟩,v',bS,rfl,h5,h7⟩
theorem ahc(ts:List (List Ty))(xs:List X)(a:nj ts)(vs:List V)(h:aq1 H.x ts xs=some a)(hv:aW H xs vs):∃bS,mB H.v vs bS∧DF ts a bS:=by
 cases ts with
 | nil=>
  match xs,h,hv with
  | [],h,hv=>simp only[aW]at hv;subst hv;exact⟨[],trivial,by simp only[DF]⟩
 | cons τ ts=>
  simp only[DF];exact KX aP (R:=fun(y:aA τ) v=>∃row,v=.cp row 0∧bW τ y row) (fun x a v Qa P8=>by
    grind[NO]) ts xs a vs h hv
omit aP in
theorem nZ:∀(t:Ty) (x:t.T) (v:V),eM t x v→v.pure=true∧∀cs,v ≠ .agg cs
 | .int k,x,v,h=>by simp only[eM]at h;subst h;exact⟨rfl,fun cs h=>by cases h⟩
 | .bool,x,v,h=>by simp only[eM]at h;subst h;exact⟨rfl,fun cs h=>by cases h⟩
 | .str,x,v,h=>by simp only[eM]at h;subst h;exact⟨rfl,fun cs h=>by cases h⟩
 | .sl cs,x,v,h=>by
  simp only[eM]at h;rcases h with⟨_,rfl⟩ | ⟨rows,rfl,_⟩<;>exact⟨rfl,fun cs h=>by cases h⟩
theorem GH(k:AK)(x:X)(a:k.T)(v:V)(h:aaB H.x k x=some a)(hx:XV H x v):∃v',jU H.v v v'∧lZ k a v':=by
 cases k with
 | c t=>
  have h1:=B6 t x a v h hx;refine⟨v,?_,h1⟩;obtain⟨hp,F9⟩:=nZ t a v h1;cases v<;>first | exact⟨rfl,hp⟩ | (simp[V.pure]at hp;done) | exact absurd rfl (F9 _)
 | g τ=>
  change gD τ x=some a at h
  unfold gD at h
  split at h<;>try trivial
  simp only[XV,np]at hx;obtain⟨vs,rfl,h2⟩:=hx;exact⟨.agg vs,(Or.inl rfl:vs=vs∨Ph vs vs),vs,rfl,gh τ _ a vs h h2⟩
 | rd τ=>
  obtain⟨rows,h1,h2⟩:=XF aP h hx;exact⟨_,h2,rows,rfl,h1⟩
 | cp τ=>
  obtain⟨row,h1,_,h2⟩:=NO aP h hx;exact⟨_,h2,row,rfl,h1⟩
 | fn f aw=>
  change fnD H.x f aw x=some a at h
  unfold fnD at h
  split at h<;>try trivial
  rename_i g xs;cases hb:(Nat.beq g f&&xs.all (fnD.X.aan H.x))with
  | false=>grind
  | true=>
   rw[hb]at h;simp only[azF]at hb;have hg:=azV hb.1;subst hg;simp only[XV]at hx;have fw:∀x∈xs,x.Gl H:=by
    intro x hx';have h1:=azU.1 hb.2 x hx';cases x<;>simp only[fnD.X.aan]at h1<;>try (cases h1;done)
    ·unfold dt at h1
     split at h1<;>try (cases h1;done)
     rename_i bn ho;exact⟨bn,ho,azV h1⟩
    ·trivial
   obtain⟨vs,rfl,h3⟩:=hx.2 fw;obtain⟨bS,h4,h5⟩:=ahc aP aw xs a vs h h3;exact⟨.fn g bS,(⟨rfl,h4⟩:g=g∧mB H.v vs bS),bS,rfl,h5⟩
 | raw u=>cases h
theorem EO{A:Type}{f:X→Option A}{R:A→V→Prop}(hf:∀x a v,f x=some a→XV H x v→∃v',jU H.v v v'∧R a v'):∀(ks:List AK) (xs:List X) (a:dA.ky A ks) (vs:List V),GF H.x f ks xs=some a→aW H xs vs→
  ∃bS,kG H.v vs bS∧ed R ks a bS
 | [],xs,a,vs,h,hv=>by
  match xs,h,hv with
  | [x],h,hv=>
   have h:f x=some a:=h;simp only[aW]at hv;obtain⟨v,r,rfl,h1,rfl⟩:=hv;obtain⟨v',h2,h3⟩:=hf x a v h h1;simp only[ed];exact⟨[v'],⟨h2,trivial⟩,v',rfl,h3⟩
 | k::ks,xs,a,vs,h,hv=>by
  match xs,h,hv with
  | x::r,h,hv=>
   have h:lg (f x) (GF H.x (aaB H.x k) ks r)=some a:=h;obtain⟨ha,hr⟩:=gK h;simp only[aW]at hv;obtain⟨v,r',rfl,h1,h2⟩:=hv;obtain⟨v',h4,h5⟩:=hf x _ v ha h1;obtain⟨bS,h6,h7⟩:=EO (GH aP k) ks r _ r' hr h2;simp only[ed];exact⟨v'::bS,⟨h4,h6⟩,v',bS,rfl,h5,h7⟩
theorem K7(ks:List AK)(xs:List X)(a:dA ks)(vs:List V)(h:aay H.x ks xs=some a)(hv:aW H xs vs):∃bS,kG H.v vs bS∧bY ks a bS:=by
 cases ks with
 | nil=>
  match xs,h,hv with
  | [],h,hv=>simp only[aW]at hv;subst hv;exact⟨[],trivial,by simp only[bY]⟩
 | cons k ks=>
  simp only[bY];exact EO aP (GH aP k) ks xs a vs h hv
end
structure dn where
 g:FuncId
 ad:List AK
 rk:List RK
 pre:dA ad→Bool
 fn:dA ad→eC rk
def dn.Ok(P:Program)(e:dn):Prop:=∀a,e.pre a=true→∀cG,bY e.ad a cG→EW P e.g cG (cf e.rk (e.fn a))
def KY{β:Type}(s:br)(g:FuncId)(args:List X)(dst:Option Nat)(Φ:br→Option β):List dn→Option β
 | []=>none
 | e::es=>bif Nat.beq e.g g then(match aay s.h e.ad args with
   | some a=>bif e.pre a then Φ (s.call dst e.rk (e.fn a))else none
   | none=>KY s g args dst Φ es)else KY s g args dst Φ es
structure dW where
 g:FuncId
 mv:Bool
 two:Bool:=false
 ty:Nat
 es:Nat
 τ:List Ty
 ad:List AK
 rk:List RK
 pre:List (aA τ)→List (aA τ)→dA ad→Bool
 fn:List (aA τ)→List (aA τ)→dA ad→eC rk×List (aA τ)
def dW.Pd(e:dW)(l l2:List (aA e.τ))(a:dA e.ad)(rows:List (List V))(rds:List RD)(outs:List (Option (List (List V)))):Prop:=
 cf e.rk (e.fn l l2 a).1 rds∧(if e.two then outs=[none,none]else if e.mv then outs=[none]else ∃bq,outs=[some bq]∧bD e.τ (e.fn l l2 a).2 bq∧bq.length=rows.length)
def dW.Ok(P:Program)(e:dW):Prop:=
 if e.two then ∀l l2 a,e.pre l l2 a=true→∀rows rows2 cG,bD e.τ l rows→bD e.τ l2 rows2→bY e.ad a cG→
  FnL P e.g (.ref 500 rows.length::(cG++[.ref 501 rows2.length])) [⟨e.ty,e.es,false,rows⟩,⟨e.ty,e.es,false,rows2⟩] (e.Pd l l2 a rows)
 else ∀l a,e.pre l [] a=true→∀rows cG,bD e.τ l rows→bY e.ad a cG→
  FnL P e.g (.ref 500 rows.length::cG) [⟨e.ty,e.es,false,rows⟩] (e.Pd l [] a rows)
def akQ(h:Nat→Option du)(ty es:Nat)(σ:List Ty):X→Option (Nat×Nat×List (aA σ))
 | .ref o aU=>match h o with
  | some (.t v j8 j7 τ l)=>if hτ:eh τ σ=true then bif Nat.beq v aU&&(Nat.beq j8 ty&&Nat.beq j7 es)then some (o,v,iP l hτ)else none else none
  | some (.u v j8 j7 imp rows)=>bif Nat.beq v aU&&(Nat.beq j8 ty&&(Nat.beq j7 es&&!imp))then(match jz σ rows with
   | some l=>some (o,v,l)
   | none=>none)else none
  | none=>none
 | _=>none
def BB(h:Nat→Option du)(qs:List Nat)(p:Nat):Option du:=bif qs.any (fun q=>Nat.beq p q)then none else h p
def xl{β:Type}(s:br)(g:FuncId)(args:List X)(dst:Option Nat)(Φ:br→Option β):List dW→Option β
 | []=>none
 | e::es=>bif Nat.beq e.g g then(match args with
   | x::r=>(match akQ s.h e.ty e.es e.τ x with
    | some (q,aU,l)=>bif e.two || e.mv then none
     else(match aay (BB s.h [q]) e.ad r with
     | some a=>bif e.pre l [] a then Φ ((s.bQ q (.t aU e.ty e.es e.τ (e.fn l [] a).2)).call dst e.rk (e.fn l [] a).1)else none
     | none=>xl s g args dst Φ es)
    | none=>xl s g args dst Φ es)
   | []=>none)else xl s g args dst Φ es
def Uc(n:Nat):Option Nat→Bool
 | some d=>Nat.blt d n
 | none=>true
def Md{β:Type}(P:Program)(es:List dn)(n:Nat)(o:Oper)(Φ:br→Option β)(s:br):Option β:=
 bif Uc n o.dst then(match Wg P o s.ev s.h s.c with
  | .val c x=>bif c then Φ (s.put o.dst x)else none
  | .new c ob r=>(match o.dst with
   | some d=>bif c then Φ (s.new d (ob.l8 s.c) (mkRef r d s.c))else none
   | none=>none)
  | .H3 c q ob=>bif c then Φ ((s.bQ q ob).put o.dst .dead)else none
  | .app c q ob=>bif c then Φ ((s.app q (ob.l8 s.c)).put o.dst (.ref q s.c))else none
  | .call g args=>KY s g args o.dst Φ es
  | .bad=>none)else none
def xD{β:Type}(n:Nat)(o:Oper)(Φ:br→Option β)(s:br):Option β:=bif Uc n o.dst then Φ (s.put o.dst (.kI []))else none
def JU:List Oper→Nat→Option Oper
 | [],_=>none
 | o::_,0=>some o
 | _::r,i+1=>JU r i
theorem zk:∀(l:List Oper) (i:Nat),JU l i=l[i]?
 | [],i=>by simp[JU]
 | o::r,0=>by simp[JU]
 | o::r,i+1=>by simp[JU,zk r i]
def QA(l:List Oper)(j:Nat):Option Nat:=match JU l j with
 | some o=>o.dst
 | none=>none
theorem KL(l:List Oper)(j:Nat):QA l j=(l[j]?).bind (·.dst):=by
 grind[QA,zk]
def Iu{β:Type}(P:Program)(es:List dn)(n:Nat)(l:List Oper)(o:Oper)(Φ:br→Option β)(s:br):Option β:=
 match o.guard with
 | none=>Md P es n o Φ s
 | some (j,want)=>match QA l j with
  | some d=>match s.ev (.tmp d)with
   | .bool b=>bif b then(bif want then Md P es n o Φ (s.put (some d) (.bool true))else xD n o Φ (s.put (some d) (.bool true)))
     else(bif want then xD n o Φ (s.put (some d) (.bool false))else Md P es n o Φ (s.put (some d) (.bool false)))
   | .kI _=>xD n o Φ s
   | _=>none
  | none=>none
def isL(el:List dW)(o:Oper):Bool:=match o.op with
 | .call c=>(match c.callee with
  | .value (.func g)=>el.any fun e=>Nat.beq e.g g
  | _=>false)
 | _=>false
def Iv{β:Type}(P:Program)(el:List dW)(n:Nat)(o:Oper)(Φ:br→Option β)(s:br):Option β:=
 match o.guard with
 | none=>bif Uc n o.dst then(match Wg P o s.ev s.h s.c with
  | .call g args=>xl s g args o.dst Φ el
  | _=>none)else none
 | some _=>none
def X.nnX(h:Nat→Option du)(q:Nat):X→Bool
 | .int .. | .bool _ | .str _ | .nil | .raw _ | .sl .. | .rd .. | .cp ..=>true
 | .agg imp _=>!imp
 | .ref p aU=>dt h p aU&&!Nat.beq p q
 | .ptr p aU _ _=>dt h p aU&&!Nat.beq p q
 | _=>false
def ahG(h:Nat→Option du)(x:X)(xs:List X):Bool:=match x with
 | .int .. | .bool _ | .str _ | .nil | .raw _ | .sl .. | .rd .. | .cp ..=>true
 | .agg imp _=>true
 | .ref q aU=>dt h q aU&&xs.all (X.nnX h q)
 | .ptr q aU _ _=>dt h q aU&&xs.all (X.nnX h q)
 | _=>false
def akb(l:List Oper)(j:Nat):Option Operand:=match JU l j with
 | some o=>tgt o.op
 | none=>none
def aeR(l:List Oper)(o:Oper)(s:br):List Nat→Bool
 | []=>true
 | j::r=>(match akb l j with
  | some x=>ahG s.h (s.ev x) (o.op.operands.toList.map s.ev)
  | none=>true)&&aeR l o s r
def amt(h:Nat→Option du)(σ:List Ty):X→Option (List (aA σ)×List Nat)
 | .ref p aU=>match h p with
  | some (.t v _ _ τ l)=>if hτ:eh τ σ=true then bif Nat.beq v aU then some (iP l hτ,[p])else none else none
  | some (.u v _ _ imp rows)=>bif Nat.beq v aU&&!imp then(match jz σ rows with
   | some l=>some (l,[p])
   | none=>none)else none
  | none=>none
 | x=>match Xa σ x with
  | some l=>some (l,[])
  | none=>none
def noF{A:Type}(o:Option A):Option (A×List Nat):=match o with
 | some a=>some (a,[])
 | none=>none
def SY(h:Nat→Option du)(t:Ty)(x:X):Option (t.T×List Nat):=match t with
 | .sl σ=>amt h σ x
 | .int k=>noF (BI k x)
 | .bool=>noF (vj x)
 | .str=>noF (AS x)
def PG{A B:Type}(a:Option (A×List Nat))(b:Option (B×List Nat)):Option ((A×B)×List Nat):=match a with
 | some (a,f)=>match b with
  | some (b,g)=>some ((a,b),f++g)
  | none=>none
 | none=>none
def Fw{A:Type}(h:Nat→Option du)(f:X→Option (A×List Nat)):(τ:List Ty)→List X→Option (cI A τ×List Nat)
 | []=>fun xs=>match xs with
  | [x]=>f x
  | _=>none
 | t::ts=>fun xs=>match xs with
  | x::r=>PG (f x) (Fw h (SY h t) ts r)
  | []=>none
def tT(h:Nat→Option du):(τ:List Ty)→List X→Option (aA τ×List Nat)
 | []=>fun xs=>match xs with
  | []=>some ((),[])
  | _=>none
 | t::ts=>fun xs=>Fw h (SY h t) ts xs
def X.apu:X→Bool
 | .agg true _=>true
 | _=>false
def gDV(h:Nat→Option du)(τ:List Ty):X→Option (aA τ)
 | .agg imp cs=>bif imp then(match tT h τ cs with
  | some (v,_)=>some v
  | none=>none)else wE τ cs
 | _=>none
def EP(h:Nat→Option du)(k:AK)(x:X):Option k.T:=match k with
 | .g τ=>gDV h τ x
 | .c t=>EC t x
 | .rd τ=>rdD h τ x
 | .cp τ=>cpD h τ x
 | .fn f aw=>fnD h f aw x
 | .raw _=>none
def z6{A:Type}(h:Nat→Option du)(f:X→Option A):(ks:List AK)→List X→Option (dA.ky A ks)
 | []=>fun xs=>match xs with
  | [x]=>f x
  | _=>none
 | k::ks=>fun xs=>match xs with
  | x::r=>lg (f x) (z6 h (EP h k) ks r)
  | []=>none
def aax(h:Nat→Option du):(ks:List AK)→List X→Option (dA ks)
 | []=>fun xs=>match xs with
  | []=>some ()
  | _=>none
 | k::ks=>fun xs=>z6 h (EP h k) ks xs
def ahN:Ty→Bool
 | .sl _=>false
 | _=>true
def JC:RK→Bool
 | .v t=>ahN t
 | _=>false
def Ca{β:Type}(s:br)(g:FuncId)(args:List X)(dst:Option Nat)(Φ:br→Option β):List dn→Option β
 | []=>none
 | e::es=>bif Nat.beq e.g g&&e.rk.all JC then(match aax s.h e.ad args with
   | some a=>bif e.pre a then Φ (s.call dst e.rk (e.fn a))else none
   | none=>Ca s g args dst Φ es)else Ca s g args dst Φ es
inductive XI where
 | code (c:Code)
 | ops (ops:Array Oper) (rest:List Oper)
 | wJ (ops:Array Oper) (perm:List (Nat×List Nat))
 | inBlock (id:Nat)
 | head (body:Code)
def yJ(id:Nat):List XI→Option (List XI)
 | []=>none
 | .inBlock P5::k=>bif Nat.beq id P5 then some k else yJ id k
 | .head _::k=>yJ id k
 | .code _::k=>yJ id k
 | .ops _ _::k=>yJ id k
 | .wJ _ _::k=>yJ id k
abbrev PM:=Nat→List (Nat×List Nat)×List (Nat×Nat)
def fe(pm:PM):Code→Bool
 | .seq x y=>fe pm x&&fe pm y
 | .cond _ x y=>fe pm x&&fe pm y
 | .block _ x=>fe pm x
 | .scope x=>fe pm x
 | .loop x=>fe pm x
 | .region id ops true=>Ml ops (pm id).1.length&&ox (iJ (pm id).1.length ops) (pm id).1 (pm id).2
 | _=>true
structure Vo where
 g:FuncId
 c:Code
 n:Nat
 pm:PM
 rs:List ResultVar
 fz:List (Nat×List Ty):=[]
structure Vo.Ok (P:Program) (d:Vo):Prop where
 ok:∃fn,P.funcs[d.g]? = some fn∧fn.body=some d.c∧fn.ntmps=d.n∧fn.results.toList=d.rs
 pm:fe d.pm d.c=true
structure cX where
 P:Program
 es:List dn
 pm:PM
 n:Nat
 el:List dW:=[]
 fz:List (Nat×List Ty):=[]
 inl:List Vo:=[]
 ql:List Nat:=[]
def fzD:List (Nat×List Ty)→Nat→Option (Nat×List Ty)
 | [],_=>none
 | (k,σ)::r,d=>bif Nat.beq k d then some (k,σ)else bif Nat.beq (k / 1000) d&&Nat.blt 999 k then some (k % 1000,σ)else fzD r d
def ams(q aU:Nat)(σ:List Ty)(l:List (aA σ)):X→X
 | .ref p v=>bif Nat.beq p q&&Nat.beq v aU then .sl σ l else .ref p v
 | x=>x
def Dz(n:Nat)(fz:List (Nat×List Ty))(d:Option Nat)(s:br):br:=match d with
 | none=>s
 | some d=>match fzD fz d with
  | none=>s
  | some (k,σ)=>match s.t k with
   | .ref q aU=>bif Nat.blt k n then(match rdD s.h σ (.ref q aU)with
    | some l=>⟨fun i=>ams q aU σ l (s.t i),fun p=>bif Nat.beq p q then none else s.h p,s.c⟩
    | none=>s)else s
   | _=>s
def afS(σ:List Ty):du→Option (List (aA σ))
 | .t _ _ _ τ l=>if hτ:eh τ σ=true then some (iP l hτ)else none
 | .u _ _ _ imp rows=>bif imp then none else jz σ rows
def br.FR(s:br)(d:Nat)(ob:du)(σ:List Ty)(l:List (aA σ)):br:=((s.new d ob (mkRef true d s.c)).kill fun p=>Nat.beq p d).put (some d) (.sl σ l)
def Iw{β:Type}(P:Program)(es:List dn)(n:Nat)(fz:List (Nat×List Ty))(o:Oper)(Φ:br→Option β)(s:br):Option β:=match o.dst with
 | none=>Md P es n o Φ s
 | some d=>match fzD fz d with
  | none=>Md P es n o Φ s
  | some (k,σ)=>bif Nat.beq k d&&Uc n o.dst then(match Wg P o s.ev s.h s.c with
   | .new c ob true=>(match afS σ ob with
    | some l=>bif c then Φ (s.FR d (ob.l8 s.c) σ l)else none
    | none=>none)
   | _=>none)else none
def Ma{β:Type}(P:Program)(es:List dn)(n:Nat)(fz:List (Nat×List Ty))(l:List Oper)(o:Oper)(Φ:br→Option β)(s:br):Option β:=
 match o.guard with
 | none=>Iw P es n fz o Φ s
 | some (j,want)=>match QA l j with
  | some d=>match s.ev (.tmp d)with
   | .bool b=>bif b then(bif want then Iw P es n fz o Φ (s.put (some d) (.bool true))else xD n o Φ (s.put (some d) (.bool true)))
     else(bif want then xD n o Φ (s.put (some d) (.bool false))else Iw P es n fz o Φ (s.put (some d) (.bool false)))
   | .kI _=>xD n o Φ s
   | _=>none
  | none=>none
def agd(o:Oper):Bool:=match o.op with
 | .call c=>(match c.callee with
  | .value _=>true
  | _=>false)
 | _=>false
def alx(C:cX)(o:Oper)(s:br):Bool:=agd o&&(match o.guard with
 | some _=>false
 | none=>(match Wg C.P o s.ev s.h s.c with
  | .call g args=>args.any X.apu
  | _=>false))
def We{β:Type}(C:cX)(o:Oper)(Φ:br→Option β)(s:br):Option β:=match o.guard with
 | some _=>none
 | none=>bif Uc C.n o.dst then(match Wg C.P o s.ev s.h s.c with
  | .call g args=>Ca s g args o.dst Φ C.es
  | _=>none)else none
def exec{β:Type}(C:cX)(Kr:br→Option β)(Kg:List XI→br→Option β):Nat→List XI→br→Option β
 | 0,_,_=>none
 | _+1,[],s=>Kr s
 | f+1,.code c::k,s=>match c with
  | .skip=>exec C Kr Kg f k s
  | .label _=>exec C Kr Kg f k s
  | .seq x y=>exec C Kr Kg f (.code x::.code y::k) s
  | .cond c x y=>(match s.ev c with
   | .bool b=>bif b then exec C Kr Kg f (.code x::k) s else exec C Kr Kg f (.code y::k) s
   | _=>none)
  | .block id x=>exec C Kr Kg f (.code x::.inBlock id::k) s
  | .scope x=>exec C Kr Kg f (.code x::k) s
  | .exit id=>(match yJ id k with
   | some k'=>exec C Kr Kg f k' s
   | none=>none)
  | .ret=>Kr s
  | .region id ops draw=>(match draw with
   | false=>exec C Kr Kg f (.ops ops ops.toList::k) s
   | true=>exec C Kr Kg f (.wJ (iJ (C.pm id).1.length ops) (C.pm id).1::.ops ops (ops.toList.drop (C.pm id).1.length)::k) (s.kill (KI (C.pm id).2)))
  | .loop body=>Kg (.head body::k) s
  | _=>none
 | f+1,.ops ops l::k,s=>(match l with
  | []=>exec C Kr Kg f k s
  | o::rest=>bif alx C o s then We C o (fun s=>exec C Kr Kg f (.ops ops rest::k) (Dz C.n C.fz o.dst s)) s else bif isL C.el o then Iv C.P C.el C.n o (fun s=>exec C Kr Kg f (.ops ops rest::k) (Dz C.n C.fz o.dst s)) s else Iu C.P C.es C.n ops.toList o (fun s=>exec C Kr Kg f (.ops ops rest::k) (Dz C.n C.fz o.dst s)) s)
 | f+1,.wJ ops l::k,s=>(match l with
  | []=>exec C Kr Kg f k s
  | (i,js)::r=>(match JU ops.toList i with
   | some o=>bif aeR ops.toList o s js then Ma C.P C.es C.n C.fz ops.toList o (exec C Kr Kg f (.wJ ops r::k)) s else none
   | none=>none))
 | f+1,.inBlock _::k,s=>exec C Kr Kg f k s
 | f+1,.head body::k,s=>Kg (.head body::k) s
end Go.AL
