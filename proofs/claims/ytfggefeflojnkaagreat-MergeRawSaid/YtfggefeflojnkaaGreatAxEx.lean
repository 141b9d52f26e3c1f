/- By an AI agent. -/
import Derived.Test.YtfggefeflojnkaaGreatAlPart
import Derived.Test.YtfggefeflojnkaaGreatAlDraw7
set_option linter.unusedVariables false
namespace Go.AL
inductive AK where
 | c (t:Ty)
 | g (τ:List Ty)
 | rd (τ:List Ty)
 | cp (τ:List Ty)
 | fn (f:FuncId) (bZ:List (List Ty))
 | raw (v:Value)
def nS:List (List Ty)→Type
 | []=>Unit
 | τ::ts=>s0 (az τ) ts
where
 s0 (A:Type):List (List Ty)→Type
 | []=>A
 | τ::ts=>A×s0 (az τ) ts
def AK.T:AK→Type
 | .c t=>t.T
 | .g τ=>az τ
 | .rd τ=>List (az τ)
 | .cp τ=>az τ
 | .fn _ bZ=>nS bZ
 | .raw _=>Unit
def dE:List AK→Type
 | []=>Unit
 | k::ks=>kE k.T ks
where
 kE (A:Type):List AK→Type
 | []=>A
 | k::ks=>A×kE k.T ks
def rI{A:Type}(f:A→V→Prop):(ts:List (List Ty))→nS.s0 A ts→List V→Prop
 | [],x,vs=>∃v,vs=[v]∧f x v
 | τ::ts,x,vs=>∃v r,vs=v::r∧f (Prod.fst x) v∧rI (fun(y:az τ) v=>∃row,v=.cp row 0∧cD τ y row) ts (Prod.snd x) r
def Da:(ts:List (List Ty))→nS ts→List V→Prop
 | [],_,vs=>vs=[]
 | τ::ts,x,vs=>rI (fun(y:az τ) v=>∃row,v=.cp row 0∧cD τ y row) ts x vs
def j4:(k:AK)→k.T→V→Prop
 | .c t,x,v=>fk t x v
 | .g τ,x,v=>∃row,v=.agg row∧cD τ x row
 | .rd τ,l,v=>∃rows,v=.rd rows∧bK τ l rows
 | .cp τ,x,v=>∃row,v=.cp row 0∧cD τ x row
 | .fn f bZ,x,v=>∃vs,v=.fn f vs∧Da bZ x vs
 | .raw u,_,v=>v=V.de u
def et{A:Type}(f:A→V→Prop):(ks:List AK)→dE.kE A ks→List V→Prop
 | [],x,vs=>∃v,vs=[v]∧f x v
 | k::ks,x,vs=>∃v r,vs=v::r∧f (Prod.fst x) v∧et (j4 k) ks (Prod.snd x) r
def cE:(ks:List AK)→dE ks→List V→Prop
 | [],_,vs=>vs=[]
 | k::ks,x,vs=>et (j4 k) ks x vs
def RG{τ σ:List Ty}(x:az τ)(h:ez τ σ=true):az σ:=(ji h)▸x
theorem Vg{τ σ:List Ty}(x:az τ)(h:ez τ σ=true)(row:List V):cD σ (RG x h) row↔cD τ x row:=by
 have:=ji h;subst this;exact Iff.rfl
def cpD(h:Nat→Option dy)(σ:List Ty):X→Option (az σ)
 | .ptr o bf i j=>match h o with
  | some (.t v _ _ τ l)=>if hτ:ez τ σ=true then bif Nat.beq v bf&&Nat.beq j 0 then some (RG (l.getD i (E9 τ)) hτ)else none else none
  | some (.u v _ _ imp rows)=>bif Nat.beq v bf&&Nat.beq j 0 then(match rows[i]? with
   | some row=>bif imp then yS σ (row.take σ.length)else yS σ row
   | none=>none)else none
  | none=>none
 | .cp row j=>bif Nat.beq j 0 then yS σ row else none
 | _=>none
def rdD(h:Nat→Option dy)(σ:List Ty):X→Option (List (az σ))
 | .nil=>some []
 | .sl τ l=>if hτ:ez τ σ=true then some (iI l hτ)else none
 | .rd τ l=>if hτ:ez τ σ=true then some (iI l hτ)else none
 | .ref o bf=>match h o with
  | some (.t v _ _ τ l)=>if hτ:ez τ σ=true then bif Nat.beq v bf then some (iI l hτ)else none else none
  | some (.u v _ _ imp rows)=>bif Nat.beq v bf&&!imp then jm σ rows else none
  | none=>none
 | _=>none
def RI{A:Type}(h:Nat→Option dy)(f:X→Option A):(ts:List (List Ty))→List X→Option (nS.s0 A ts)
 | []=>fun xs=>match xs with
  | [x]=>f x
  | _=>none
 | τ::ts=>fun xs=>match xs with
  | x::r=>lA (f x) (RI h (cpD h τ) ts r)
  | []=>none
def at2(h:Nat→Option dy):(ts:List (List Ty))→List X→Option (nS ts)
 | []=>fun xs=>match xs with
  | []=>some ()
  | _=>none
 | τ::ts=>fun xs=>RI h (cpD h τ) ts xs
def gD(σ:List Ty):X→Option (az σ)
 | .agg false cs=>yS σ cs
 | _=>none
def fnD(h:Nat→Option dy)(f:FuncId)(bZ:List (List Ty)):X→Option (nS bZ)
 | .fn g xs=>bif Nat.beq g f&&xs.all (X.ab8 h)then at2 h bZ xs else none
 | _=>none
where
 X.ab8 (h:Nat→Option dy):X→Bool
 | .ptr o bf _ _=>dv h o bf
 | .cp _ _=>true
 | _=>false
def acm(h:Nat→Option dy)(k:AK)(x:X):Option k.T:=match k with
 | .c t=>D2 t x
 | .g τ=>gD τ x
 | .rd τ=>rdD h τ x
 | .cp τ=>cpD h τ x
 | .fn f bZ=>fnD h f bZ x
 | .raw _=>none
def Gs{A:Type}(h:Nat→Option dy)(f:X→Option A):(ks:List AK)→List X→Option (dE.kE A ks)
 | []=>fun xs=>match xs with
  | [x]=>f x
  | _=>none
 | k::ks=>fun xs=>match xs with
  | x::r=>lA (f x) (Gs h (acm h k) ks r)
  | []=>none
def aci(h:Nat→Option dy):(ks:List AK)→List X→Option (dE ks)
 | []=>fun xs=>match xs with
  | []=>some ()
  | _=>none
 | k::ks=>fun xs=>Gs h (acm h k) ks xs
theorem IU{H:jR}:∀{xs:List X} {vs:List V},bj H xs vs→∀n:Nat,bj H (xs.take n) (vs.take n)
 | [],vs,h,n=>by simp only[bj]at h;subst h;simp only[List.take_nil,bj]
 | x::xs,vs,h,0=>by simp only[aDE,bj]
 | x::xs,vs,h,n+1=>by
  simp only[bj]at h;obtain⟨v,r,rfl,h1,h2⟩:=h;simp only[List.take_succ_cons,bj];exact⟨_,_,rfl,h1,IU h2 n⟩
theorem JK:∀(t:Ty) (x:t.T) (v:V),fk t x v→v.atom=true
 | .int k,x,v,h=>by simp only[fk]at h;subst h;rfl
 | .bool,x,v,h=>by simp only[fk]at h;subst h;rfl
 | .str,x,v,h=>by simp only[fk]at h;subst h;rfl
 | .sl cs,x,v,h=>by
  simp only[fk]at h;rcases h with⟨_,rfl⟩ | ⟨rows,rfl,_⟩<;>rfl
theorem AA{A:Type}:∀(τ:List Ty) (R:A→V→Prop),(∀x v,R x v→v.atom=true)→∀(x:cN A τ) (row:List V),dz R τ x row→∀y∈row,y.atom=true
 | [],R,hR,x,row,h,y,hy=>by
  simp only[dz]at h;obtain⟨v,rfl,hv⟩:=h;rw[aDi.1 hy];exact hR _ _ hv
 | t::ts,R,hR,x,row,h,y,hy=>by
  simp only[dz]at h;obtain⟨v,r,rfl,hv,hr⟩:=h;rcases aCJ.1 hy with rfl | hy
  ·exact hR _ _ hv
  ·exact AA ts (fk t) (fun x v=>JK t x v) _ r hr y hy
theorem TY(τ:List Ty)(x:az τ)(row:List V)(h:cD τ x row):∀y∈row,y.atom=true:=by
 cases τ with
 | nil=>simp only[cD]at h;subst h;intro y hy;cases hy
 | cons t ts=>simp only[cD]at h;exact AA ts (fk t) (fun x v=>JK t x v) x row h
section
variable {H:jR} (aZ:∀o bD,H.x o=some bD→bD.bf<H.c∧∃ob,H.v o=some ob∧fV H bD ob)
include aZ
theorem N4{σ:List Ty}{x:X}{a:az σ}{v:V}(h:cpD H.x σ x=some a)(hx:XV H x v):∃row,cD σ a row∧xp H.v v (.cp row 0)∧jD H.v v (.cp row 0):=by
 unfold cpD at h
 split at h
 ·rename_i o bf i j
  split at h
  ·rename_i v' ty es τ l ho
   split at h<;>try (cases h;done)
   rename_i hτ;cases hb:(Nat.beq v' bf&&Nat.beq j 0)with
   | false=>rw[hb]at h;cases h
   | true=>
    rw[hb]at h;simp only[aCs]at hb;have hj:=aCI hb.2;subst hj;have:=aDb h;subst this;obtain⟨bD,ob,h1,h2,h3,h4,h5,rfl⟩:=ed aZ hx (by unfold dv;rw[ho];exact hb.1);rw[ho]at h1;cases h1;obtain⟨row,h6,h7⟩:=ZY aZ h4 h5;obtain⟨_,_,himp,_⟩:=h4;exact⟨row,(Vg _ hτ row).2 h7,⟨ob,h3,rfl,.inl ⟨himp,h6⟩,rfl⟩,⟨ob,h3,rfl,.inl ⟨himp,h6⟩,rfl⟩⟩
  ·rename_i v' ty es imp rows ho
   cases hb:(Nat.beq v' bf&&Nat.beq j 0)with
   | false=>rw[hb]at h;cases h
   | true=>
    rw[hb]at h;simp only[aCs]at hb;have hj:=aCI hb.2;subst hj;simp only[aCn]at h
    split at h<;>try (cases h;done)
    rename_i row aO;obtain⟨bD,ob,h1,h2,h3,h4,h5,rfl⟩:=ed aZ hx (by unfold dv;rw[ho];exact hb.1);rw[ho]at h1;cases h1;obtain⟨_,_,himp,h8⟩:=h4;obtain⟨gk,h6,h7⟩:=aP.get h8 i row aO;cases Rl:imp with
    | false=>
     rw[Rl]at h himp;exact⟨gk,gO σ row a gk h h7,⟨ob,h3,rfl,.inl ⟨himp,h6⟩,rfl⟩,⟨ob,h3,rfl,.inl ⟨himp,h6⟩,rfl⟩⟩
    | true=>
     rw[Rl]at h;have h9:bj H (row.take σ.length) (gk.take σ.length):=IU h7 _;have hr:=gO σ _ a _ h h9;have fJ:(gk.take σ.length).all V.atom=true:=aCG.2 fun y hy=>TY σ a _ hr y hy
     have he:gk.take σ.length=gk.take (gk.take σ.length).length:=by rw[aCV,List.take_eq_take_min]
     exact⟨_,hr,⟨ob,h3,rfl,.inr ⟨gk,h6,he,fJ⟩,rfl⟩,⟨ob,h3,rfl,.inr ⟨gk,h6,he,fJ⟩,rfl⟩⟩
  ·cases h
 ·rename_i row j
  simp only[XV]at hx;obtain⟨vs,rfl,h2⟩:=hx;cases hb:Nat.beq j 0 with
  | false=>rw[hb]at h;cases h
  | true=>
   rw[hb]at h;have hj:=aCI hb;subst hj;exact⟨vs,gO σ row a vs h h2,⟨rfl,rfl⟩,⟨rfl,rfl⟩⟩
 ·cases h
theorem ZD{σ:List Ty}{x:X}{a:List (az σ)}{v:V}(h:rdD H.x σ x=some a)(hx:XV H x v):∃rows,bK σ a rows∧jD H.v v (.rd rows):=by
 unfold rdD at h
 split at h
 ·have:=aDb h
  subst this;simp only[XV]at hx;subst hx;exact⟨[],trivial,rfl⟩
 ·split at h<;>try (cases h;done)
  rename_i hτ;have:=aDb h;subst this;simp only[XV]at hx;rcases hx with⟨rfl,rfl⟩ | ⟨rows,rfl,hr⟩
  ·exact⟨[],(cC _ hτ []).2 trivial,rfl⟩
  ·exact⟨rows,(cC _ hτ rows).2 hr,rfl⟩
 ·split at h<;>try (cases h;done)
  rename_i hτ;have:=aDb h;subst this;simp only[XV]at hx;obtain⟨rows,rfl,hr⟩:=hx;exact⟨rows,(cC _ hτ rows).2 hr,rfl⟩
 ·rename_i o bf
  split at h
  ·rename_i v' ty es τ l ho
   split at h<;>try (cases h;done)
   rename_i hτ;cases hb:Nat.beq v' bf with
   | false=>rw[hb]at h;cases h
   | true=>
    rw[hb]at h;have:=aDb h;subst this;obtain⟨bD,ob,h1,h2,h3,h4,rfl⟩:=cQ aZ hx (by unfold dv;rw[ho];exact hb);rw[ho]at h1;cases h1;obtain⟨_,_,himp,h8⟩:=h4;exact⟨ob.rows,(cC _ hτ _).2 h8,⟨ob,h3,rfl,himp,rfl⟩⟩
  ·rename_i v' ty es imp rows ho
   cases hb:(Nat.beq v' bf&&!imp)with
   | false=>rw[hb]at h;cases h
   | true=>
    rw[hb]at h;simp only[aCs,aDe]at hb;simp only[aCn]at h;obtain⟨bD,ob,h1,h2,h3,h4,rfl⟩:=cQ aZ hx (by unfold dv;rw[ho];exact hb.1);rw[ho]at h1;cases h1;obtain⟨_,_,himp,h8⟩:=h4;exact⟨ob.rows,dq h h8,⟨ob,h3,rfl,by rw[himp];exact hb.2,rfl⟩⟩
  ·cases h
 ·cases h
theorem K6{A:Type}{f:X→Option A}{R:A→V→Prop}(hf:∀x a v,f x=some a→XV H x v→∃v',xp H.v v v'∧R a v'):∀(ts:List (List Ty)) (xs:List X) (a:nS.s0 A ts) (vs:List V),RI H.x f ts xs=some a→bj H xs vs→
  ∃cI,mV H.v vs cI∧rI R ts a cI
 | [],xs,a,vs,h,hv=>by
  match xs,h,hv with
  | [x],h,hv=>
   have h:f x=some a:=h;simp only[bj]at hv;obtain⟨v,r,rfl,h1,rfl⟩:=hv;obtain⟨v',h2,h3⟩:=hf x a v h h1;simp only[rI];exact⟨[v'],⟨h2,trivial⟩,v',rfl,h3⟩
 | τ::ts,xs,a,vs,h,hv=>by
  match xs,h,hv with
  | x::r,h,hv=>
   have h:lA (f x) (RI H.x (cpD H.x τ) ts r)=some a:=h;obtain⟨ha,hr⟩:=gI h;simp only[bj]at hv;obtain⟨v,r',rfl,h1,h2⟩:=hv;obtain⟨v',h4,h5⟩:=hf x _ v ha h1;obtain⟨cI,h6,h7⟩:=K6 (R:=fun(y:az τ) v=>∃row,v=.cp row 0∧cD τ y row) (fun x a v Ra hxv=>by
    obtain⟨row,e1,e2,_⟩:=N4 aZ Ra hxv;exact⟨_,e2,row,rfl,e1⟩) ts r _ r' hr h2
   simp only[rI];exact⟨v'::cI,⟨h4,h6⟩,v',cI,rfl,h5,h7⟩
theorem ajU(ts:List (List Ty))(xs:List X)(a:nS ts)(vs:List V)(h:at2 H.x ts xs=some a)(hv:bj H xs vs):∃cI,mV H.v vs cI∧Da ts a cI:=by
 cases ts with
 | nil=>
  match xs,h,hv with
  | [],h,hv=>simp only[bj]at hv;subst hv;exact⟨[],trivial,by simp only[Da]⟩
 | cons τ ts=>
  simp only[Da];exact K6 aZ (R:=fun(y:az τ) v=>∃row,v=.cp row 0∧cD τ y row) (fun x a v Ra hxv=>by
    obtain⟨row,e1,e2,_⟩:=N4 aZ Ra hxv;exact⟨_,e2,row,rfl,e1⟩) ts xs a vs h hv
omit aZ in
theorem oI:∀(t:Ty) (x:t.T) (v:V),fk t x v→v.pure=true∧∀cs,v ≠ .agg cs
 | .int k,x,v,h=>by simp only[fk]at h;subst h;exact⟨rfl,fun cs h=>by cases h⟩
 | .bool,x,v,h=>by simp only[fk]at h;subst h;exact⟨rfl,fun cs h=>by cases h⟩
 | .str,x,v,h=>by simp only[fk]at h;subst h;exact⟨rfl,fun cs h=>by cases h⟩
 | .sl cs,x,v,h=>by
  simp only[fk]at h;rcases h with⟨_,rfl⟩ | ⟨rows,rfl,_⟩<;>exact⟨rfl,fun cs h=>by cases h⟩
theorem Gu(k:AK)(x:X)(a:k.T)(v:V)(h:acm H.x k x=some a)(hx:XV H x v):∃v',jD H.v v v'∧j4 k a v':=by
 cases k with
 | c t=>
  have h1:=BB t x a v h hx;refine⟨v,?_,h1⟩;obtain⟨hp,Ib⟩:=oI t a v h1;cases v<;>first | exact⟨rfl,hp⟩ | (simp[V.pure]at hp;done) | exact absurd rfl (Ib _)
 | g τ=>
  change gD τ x=some a at h
  unfold gD at h
  split at h<;>try (cases h;done)
  simp only[XV,ke]at hx;obtain⟨vs,rfl,h2⟩:=hx;exact⟨.agg vs,(Or.inl rfl:vs=vs∨Qg vs vs),vs,rfl,gO τ _ a vs h h2⟩
 | rd τ=>
  obtain⟨rows,h1,h2⟩:=ZD aZ h hx;exact⟨_,h2,rows,rfl,h1⟩
 | cp τ=>
  obtain⟨row,h1,_,h2⟩:=N4 aZ h hx;exact⟨_,h2,row,rfl,h1⟩
 | fn f bZ=>
  change fnD H.x f bZ x=some a at h
  unfold fnD at h
  split at h<;>try (cases h;done)
  rename_i g xs;cases hb:(Nat.beq g f&&xs.all (fnD.X.ab8 H.x))with
  | false=>rw[hb]at h;cases h
  | true=>
   rw[hb]at h;simp only[aCs]at hb;have hg:=aCI hb.1;subst hg;simp only[XV]at hx;have fw:∀x∈xs,x.FR H:=by
    intro x sG;have h1:=aCG.1 hb.2 x sG;cases x<;>simp only[fnD.X.ab8]at h1<;>try (cases h1;done)
    ·unfold dv at h1
     split at h1<;>try (cases h1;done)
     rename_i bD ho;exact⟨bD,ho,aCI h1⟩
    ·trivial
   obtain⟨vs,rfl,h3⟩:=hx.2 fw;obtain⟨cI,h4,h5⟩:=ajU aZ bZ xs a vs h h3;exact⟨.fn g cI,(⟨rfl,h4⟩:g=g∧mV H.v vs cI),cI,rfl,h5⟩
 | raw u=>cases h
theorem Eo{A:Type}{f:X→Option A}{R:A→V→Prop}(hf:∀x a v,f x=some a→XV H x v→∃v',jD H.v v v'∧R a v'):∀(ks:List AK) (xs:List X) (a:dE.kE A ks) (vs:List V),Gs H.x f ks xs=some a→bj H xs vs→
  ∃cI,kM H.v vs cI∧et R ks a cI
 | [],xs,a,vs,h,hv=>by
  match xs,h,hv with
  | [x],h,hv=>
   have h:f x=some a:=h;simp only[bj]at hv;obtain⟨v,r,rfl,h1,rfl⟩:=hv;obtain⟨v',h2,h3⟩:=hf x a v h h1;simp only[et];exact⟨[v'],⟨h2,trivial⟩,v',rfl,h3⟩
 | k::ks,xs,a,vs,h,hv=>by
  match xs,h,hv with
  | x::r,h,hv=>
   have h:lA (f x) (Gs H.x (acm H.x k) ks r)=some a:=h;obtain⟨ha,hr⟩:=gI h;simp only[bj]at hv;obtain⟨v,r',rfl,h1,h2⟩:=hv;obtain⟨v',h4,h5⟩:=hf x _ v ha h1;obtain⟨cI,h6,h7⟩:=Eo (Gu aZ k) ks r _ r' hr h2;simp only[et];exact⟨v'::cI,⟨h4,h6⟩,v',cI,rfl,h5,h7⟩
theorem Ln(ks:List AK)(xs:List X)(a:dE ks)(vs:List V)(h:aci H.x ks xs=some a)(hv:bj H xs vs):∃cI,kM H.v vs cI∧cE ks a cI:=by
 cases ks with
 | nil=>
  match xs,h,hv with
  | [],h,hv=>simp only[bj]at hv;subst hv;exact⟨[],trivial,by simp only[cE]⟩
 | cons k ks=>
  simp only[cE];exact Eo aZ (Gu aZ k) ks xs a vs h hv
end
structure db where
 g:FuncId
 ad:List AK
 rk:List RK
 pre:dE ad→Bool
 fn:dE ad→aA rk
def db.Ok(P:Program)(e:db):Prop:=∀a,e.pre a=true→∀cM,cE e.ad a cM→Ew P e.g cM (cw e.rk (e.fn a))
def K7{β:Type}(s:bF)(g:FuncId)(args:List X)(dst:Option Nat)(Φ:bF→Option β):List db→Option β
 | []=>none
 | e::es=>bif Nat.beq e.g g then(match aci s.h e.ad args with
   | some a=>bif e.pre a then Φ (s.call dst e.rk (e.fn a))else none
   | none=>K7 s g args dst Φ es)else K7 s g args dst Φ es
structure dZ where
 g:FuncId
 mv:Bool
 two:Bool:=false
 ty:Nat
 es:Nat
 τ:List Ty
 ad:List AK
 rk:List RK
 pre:List (az τ)→List (az τ)→dE ad→Bool
 fn:List (az τ)→List (az τ)→dE ad→aA rk×List (az τ)
def dZ.Pd(e:dZ)(l l2:List (az e.τ))(a:dE e.ad)(rows:List (List V))(rds:List RD)(outs:List (Option (List (List V)))):Prop:=
 cw e.rk (e.fn l l2 a).1 rds∧(if e.two then outs=[none,none]else if e.mv then outs=[none]else ∃bE,outs=[some bE]∧bK e.τ (e.fn l l2 a).2 bE∧bE.length=rows.length)
def dZ.Ok(P:Program)(e:dZ):Prop:=
 if e.two then ∀l l2 a,e.pre l l2 a=true→∀rows rows2 cM,bK e.τ l rows→bK e.τ l2 rows2→cE e.ad a cM→
  FnL P e.g (.ref 500 rows.length::(cM++[.ref 501 rows2.length])) [⟨e.ty,e.es,false,rows⟩,⟨e.ty,e.es,false,rows2⟩] (e.Pd l l2 a rows)
 else ∀l a,e.pre l [] a=true→∀rows cM,bK e.τ l rows→cE e.ad a cM→
  FnL P e.g (.ref 500 rows.length::cM) [⟨e.ty,e.es,false,rows⟩] (e.Pd l [] a rows)
def anD(h:Nat→Option dy)(ty es:Nat)(σ:List Ty):X→Option (Nat×Nat×List (az σ))
 | .ref o bf=>match h o with
  | some (.t v mG lL τ l)=>if hτ:ez τ σ=true then bif Nat.beq v bf&&(Nat.beq mG ty&&Nat.beq lL es)then some (o,v,iI l hτ)else none else none
  | some (.u v mG lL imp rows)=>bif Nat.beq v bf&&(Nat.beq mG ty&&(Nat.beq lL es&&!imp))then(match jm σ rows with
   | some l=>some (o,v,l)
   | none=>none)else none
  | none=>none
 | _=>none
def A6(h:Nat→Option dy)(qs:List Nat)(p:Nat):Option dy:=bif qs.any (fun q=>Nat.beq p q)then none else h p
def xr{β:Type}(s:bF)(g:FuncId)(args:List X)(dst:Option Nat)(Φ:bF→Option β):List dZ→Option β
 | []=>none
 | e::es=>bif Nat.beq e.g g then(match args with
   | x::r=>(match anD s.h e.ty e.es e.τ x with
    | some (q,bf,l)=>bif e.two || e.mv then none
     else(match aci (A6 s.h [q]) e.ad r with
     | some a=>bif e.pre l [] a then Φ ((s.ca q (.t bf e.ty e.es e.τ (e.fn l [] a).2)).call dst e.rk (e.fn l [] a).1)else none
     | none=>xr s g args dst Φ es)
    | none=>xr s g args dst Φ es)
   | []=>none)else xr s g args dst Φ es
def N1(n:Nat):Option Nat→Bool
 | some d=>Nat.blt d n
 | none=>true
def MD{β:Type}(P:Program)(es:List db)(n:Nat)(o:Oper)(Φ:bF→Option β)(s:bF):Option β:=
 bif N1 n o.dst then(match Xa P o s.ev s.h s.c with
  | .val c x=>bif c then Φ (s.put o.dst x)else none
  | .new c ob r=>(match o.dst with
   | some d=>bif c then Φ (s.new d (ob.mJ s.c) (mkRef r d s.c))else none
   | none=>none)
  | .H7 c q ob=>bif c then Φ ((s.ca q ob).put o.dst .dead)else none
  | .app c q ob=>bif c then Φ ((s.app q (ob.mJ s.c)).put o.dst (.ref q s.c))else none
  | .call g args=>K7 s g args o.dst Φ es
  | .bad=>none)else none
def xH{β:Type}(n:Nat)(o:Oper)(Φ:bF→Option β)(s:bF):Option β:=bif N1 n o.dst then Φ (s.put o.dst (.kQ []))else none
def J8:List Oper→Nat→Option Oper
 | [],_=>none
 | o::_,0=>some o
 | _::r,i+1=>J8 r i
theorem zh:∀(l:List Oper) (i:Nat),J8 l i=l[i]?
 | [],i=>by simp[J8]
 | o::r,0=>by simp[J8]
 | o::r,i+1=>by simp[J8,zh r i]
def RC(l:List Oper)(j:Nat):Option Nat:=match J8 l j with
 | some o=>o.dst
 | none=>none
theorem KY(l:List Oper)(j:Nat):RC l j=(l[j]?).bind (·.dst):=by
 unfold RC;rw[zh];cases l[j]?<;>rfl
def IV{β:Type}(P:Program)(es:List db)(n:Nat)(l:List Oper)(o:Oper)(Φ:bF→Option β)(s:bF):Option β:=
 match o.guard with
 | none=>MD P es n o Φ s
 | some (j,want)=>match RC l j with
  | some d=>match s.ev (.tmp d)with
   | .bool b=>bif b then(bif want then MD P es n o Φ (s.put (some d) (.bool true))else xH n o Φ (s.put (some d) (.bool true)))
     else(bif want then xH n o Φ (s.put (some d) (.bool false))else MD P es n o Φ (s.put (some d) (.bool false)))
   | .kQ _=>xH n o Φ s
   | _=>none
  | none=>none
def isL(el:List dZ)(o:Oper):Bool:=match o.op with
 | .call c=>(match c.callee with
  | .value (.func g)=>el.any fun e=>Nat.beq e.g g
  | _=>false)
 | _=>false
def IW{β:Type}(P:Program)(el:List dZ)(n:Nat)(o:Oper)(Φ:bF→Option β)(s:bF):Option β:=
 match o.guard with
 | none=>bif N1 n o.dst then(match Xa P o s.ev s.h s.c with
  | .call g args=>xr s g args o.dst Φ el
  | _=>none)else none
 | some _=>none
def X.nnX(h:Nat→Option dy)(q:Nat):X→Bool
 | .int .. | .bool _ | .str _ | .nil | .raw _ | .sl .. | .rd .. | .cp ..=>true
 | .agg imp _=>!imp
 | .ref p bf=>dv h p bf&&!Nat.beq p q
 | .ptr p bf _ _=>dv h p bf&&!Nat.beq p q
 | _=>false
def akj(h:Nat→Option dy)(x:X)(xs:List X):Bool:=match x with
 | .int .. | .bool _ | .str _ | .nil | .raw _ | .sl .. | .rd .. | .cp ..=>true
 | .agg imp _=>true
 | .ref q bf=>dv h q bf&&xs.all (X.nnX h q)
 | .ptr q bf _ _=>dv h q bf&&xs.all (X.nnX h q)
 | _=>false
def amv(l:List Oper)(j:Nat):Option Operand:=match J8 l j with
 | some o=>tgt o.op
 | none=>none
def agJ(l:List Oper)(o:Oper)(s:bF):List Nat→Bool
 | []=>true
 | j::r=>(match amv l j with
  | some x=>akj s.h (s.ev x) (o.op.operands.toList.map s.ev)
  | none=>true)&&agJ l o s r
def ao9(h:Nat→Option dy)(σ:List Ty):X→Option (List (az σ)×List Nat)
 | .ref p bf=>match h p with
  | some (.t v _ _ τ l)=>if hτ:ez τ σ=true then bif Nat.beq v bf then some (iI l hτ,[p])else none else none
  | some (.u v _ _ imp rows)=>bif Nat.beq v bf&&!imp then(match jm σ rows with
   | some l=>some (l,[p])
   | none=>none)else none
  | none=>none
 | x=>match Yu σ x with
  | some l=>some (l,[])
  | none=>none
def noF{A:Type}(o:Option A):Option (A×List Nat):=match o with
 | some a=>some (a,[])
 | none=>none
def TL(h:Nat→Option dy)(t:Ty)(x:X):Option (t.T×List Nat):=match t with
 | .sl σ=>ao9 h σ x
 | .int k=>noF (Bc k x)
 | .bool=>noF (vv x)
 | .str=>noF (Am x)
def QG{A B:Type}(a:Option (A×List Nat))(b:Option (B×List Nat)):Option ((A×B)×List Nat):=match a with
 | some (a,f)=>match b with
  | some (b,g)=>some ((a,b),f++g)
  | none=>none
 | none=>none
def EY{A:Type}(h:Nat→Option dy)(f:X→Option (A×List Nat)):(τ:List Ty)→List X→Option (cN A τ×List Nat)
 | []=>fun xs=>match xs with
  | [x]=>f x
  | _=>none
 | t::ts=>fun xs=>match xs with
  | x::r=>QG (f x) (EY h (TL h t) ts r)
  | []=>none
def uk(h:Nat→Option dy):(τ:List Ty)→List X→Option (az τ×List Nat)
 | []=>fun xs=>match xs with
  | []=>some ((),[])
  | _=>none
 | t::ts=>fun xs=>EY h (TL h t) ts xs
def X.aso:X→Bool
 | .agg true _=>true
 | _=>false
def gDV(h:Nat→Option dy)(τ:List Ty):X→Option (az τ)
 | .agg imp cs=>bif imp then(match uk h τ cs with
  | some (v,_)=>some v
  | none=>none)else yS τ cs
 | _=>none
def Ep(h:Nat→Option dy)(k:AK)(x:X):Option k.T:=match k with
 | .g τ=>gDV h τ x
 | .c t=>D2 t x
 | .rd τ=>rdD h τ x
 | .cp τ=>cpD h τ x
 | .fn f bZ=>fnD h f bZ x
 | .raw _=>none
def zt{A:Type}(h:Nat→Option dy)(f:X→Option A):(ks:List AK)→List X→Option (dE.kE A ks)
 | []=>fun xs=>match xs with
  | [x]=>f x
  | _=>none
 | k::ks=>fun xs=>match xs with
  | x::r=>lA (f x) (zt h (Ep h k) ks r)
  | []=>none
def ach(h:Nat→Option dy):(ks:List AK)→List X→Option (dE ks)
 | []=>fun xs=>match xs with
  | []=>some ()
  | _=>none
 | k::ks=>fun xs=>zt h (Ep h k) ks xs
def akx:Ty→Bool
 | .sl _=>false
 | _=>true
def JW:RK→Bool
 | .v t=>akx t
 | _=>false
def BE{β:Type}(s:bF)(g:FuncId)(args:List X)(dst:Option Nat)(Φ:bF→Option β):List db→Option β
 | []=>none
 | e::es=>bif Nat.beq e.g g&&e.rk.all JW then(match ach s.h e.ad args with
   | some a=>bif e.pre a then Φ (s.call dst e.rk (e.fn a))else none
   | none=>BE s g args dst Φ es)else BE s g args dst Φ es
inductive XI where
 | code (c:Code)
 | ops (ops:Array Oper) (rest:List Oper)
 | wW (ops:Array Oper) (perm:List (Nat×List Nat))
 | inBlock (id:Nat)
 | head (body:Code)
def yU(id:Nat):List XI→Option (List XI)
 | []=>none
 | .inBlock Q7::k=>bif Nat.beq id Q7 then some k else yU id k
 | .head _::k=>yU id k
 | .code _::k=>yU id k
 | .ops _ _::k=>yU id k
 | .wW _ _::k=>yU id k
abbrev PM:=Nat→List (Nat×List Nat)×List (Nat×Nat)
def fA(pm:PM):Code→Bool
 | .seq x y=>fA pm x&&fA pm y
 | .cond _ x y=>fA pm x&&fA pm y
 | .block _ x=>fA pm x
 | .scope x=>fA pm x
 | .loop x=>fA pm x
 | .region id ops true=>MM ops (pm id).1.length&&oO (iC (pm id).1.length ops) (pm id).1 (pm id).2
 | _=>true
structure G1 where
 g:FuncId
 c:Code
 n:Nat
 pm:PM
 rs:List ResultVar
 fz:List (Nat×List Ty):=[]
structure G1.Ok (P:Program) (d:G1):Prop where
 ok:∃fn,P.funcs[d.g]? = some fn∧fn.body=some d.c∧fn.ntmps=d.n∧fn.results.toList=d.rs
 pm:fA d.pm d.c=true
structure cR where
 P:Program
 es:List db
 pm:PM
 n:Nat
 el:List dZ:=[]
 fz:List (Nat×List Ty):=[]
 inl:List G1:=[]
 ql:List Nat:=[]
def fzD:List (Nat×List Ty)→Nat→Option (Nat×List Ty)
 | [],_=>none
 | (k,σ)::r,d=>bif Nat.beq k d then some (k,σ)else bif Nat.beq (k / 1000) d&&Nat.blt 999 k then some (k % 1000,σ)else fzD r d
def ao8(q bf:Nat)(σ:List Ty)(l:List (az σ)):X→X
 | .ref p v=>bif Nat.beq p q&&Nat.beq v bf then .sl σ l else .ref p v
 | x=>x
def C7(n:Nat)(fz:List (Nat×List Ty))(d:Option Nat)(s:bF):bF:=match d with
 | none=>s
 | some d=>match fzD fz d with
  | none=>s
  | some (k,σ)=>match s.t k with
   | .ref q bf=>bif Nat.blt k n then(match rdD s.h σ (.ref q bf)with
    | some l=>⟨fun i=>ao8 q bf σ l (s.t i),fun p=>bif Nat.beq p q then none else s.h p,s.c⟩
    | none=>s)else s
   | _=>s
def ahO(σ:List Ty):dy→Option (List (az σ))
 | .t _ _ _ τ l=>if hτ:ez τ σ=true then some (iI l hτ)else none
 | .u _ _ _ imp rows=>bif imp then none else jm σ rows
def bF.Fs(s:bF)(d:Nat)(ob:dy)(σ:List Ty)(l:List (az σ)):bF:=((s.new d ob (mkRef true d s.c)).kill fun p=>Nat.beq p d).put (some d) (.sl σ l)
def IX{β:Type}(P:Program)(es:List db)(n:Nat)(fz:List (Nat×List Ty))(o:Oper)(Φ:bF→Option β)(s:bF):Option β:=match o.dst with
 | none=>MD P es n o Φ s
 | some d=>match fzD fz d with
  | none=>MD P es n o Φ s
  | some (k,σ)=>bif Nat.beq k d&&N1 n o.dst then(match Xa P o s.ev s.h s.c with
   | .new c ob true=>(match ahO σ ob with
    | some l=>bif c then Φ (s.Fs d (ob.mJ s.c) σ l)else none
    | none=>none)
   | _=>none)else none
def MA{β:Type}(P:Program)(es:List db)(n:Nat)(fz:List (Nat×List Ty))(l:List Oper)(o:Oper)(Φ:bF→Option β)(s:bF):Option β:=
 match o.guard with
 | none=>IX P es n fz o Φ s
 | some (j,want)=>match RC l j with
  | some d=>match s.ev (.tmp d)with
   | .bool b=>bif b then(bif want then IX P es n fz o Φ (s.put (some d) (.bool true))else xH n o Φ (s.put (some d) (.bool true)))
     else(bif want then xH n o Φ (s.put (some d) (.bool false))else IX P es n fz o Φ (s.put (some d) (.bool false)))
   | .kQ _=>xH n o Φ s
   | _=>none
  | none=>none
def Q3(o:Oper):Bool:=match o.op with
 | .call c=>(match c.callee with
  | .value _=>true
  | _=>false)
 | _=>false
def Q4(g:Nat):List G1→Option G1
 | []=>none
 | d::r=>bif Nat.beq d.g g then some d else Q4 g r
def axB(C:cR)(o:Oper)(s:bF):Option (G1×List X):=match C.inl with
 | []=>none
 | d::r=>bif Q3 o then(match o.guard with
  | some _=>none
  | none=>bif N1 C.n o.dst then(match Xa C.P o s.ev s.h s.c with
   | .call g args=>(match Q4 g (d::r)with
    | some d=>some (d,args)
    | none=>none)
   | _=>none)else none)else none
def aoc(C:cR)(o:Oper)(s:bF):Bool:=Q3 o&&(match o.guard with
 | some _=>false
 | none=>(match Xa C.P o s.ev s.h s.c with
  | .call g args=>args.any X.aso
  | _=>false))
def Xs{β:Type}(C:cR)(o:Oper)(Φ:bF→Option β)(s:bF):Option β:=match o.guard with
 | some _=>none
 | none=>bif N1 C.n o.dst then(match Xa C.P o s.ev s.h s.c with
  | .call g args=>BE s g args o.dst Φ C.es
  | _=>none)else none
def exec{β:Type}(C:cR)(Kr:bF→Option β)(Kg:List XI→bF→Option β):Nat→List XI→bF→Option β
 | 0,_,_=>none
 | _+1,[],s=>Kr s
 | f+1,.code c::k,s=>match c with
  | .skip=>exec C Kr Kg f k s
  | .label _=>exec C Kr Kg f k s
  | .seq x y=>exec C Kr Kg f (.code x::.code y::k) s
  | .cond c x y=>(match s.ev c with
   | .bool b=>bif b then exec C Kr Kg f (.code x::k) s else exec C Kr Kg f (.code y::k) s
   | _=>none)
  | .block id x=>exec C Kr Kg f (.code x::.inBlock id::k) s
  | .scope x=>exec C Kr Kg f (.code x::k) s
  | .exit id=>(match yU id k with
   | some k'=>exec C Kr Kg f k' s
   | none=>none)
  | .ret=>Kr s
  | .region id ops draw=>(match draw with
   | false=>exec C Kr Kg f (.ops ops ops.toList::k) s
   | true=>exec C Kr Kg f (.wW (iC (C.pm id).1.length ops) (C.pm id).1::.ops ops (ops.toList.drop (C.pm id).1.length)::k) (s.kill (KI (C.pm id).2)))
  | .loop body=>Kg (.head body::k) s
  | _=>none
 | f+1,.ops ops l::k,s=>(match l with
  | []=>exec C Kr Kg f k s
  | o::rest=>bif aoc C o s then Xs C o (fun s=>exec C Kr Kg f (.ops ops rest::k) (C7 C.n C.fz o.dst s)) s else bif isL C.el o then IW C.P C.el C.n o (fun s=>exec C Kr Kg f (.ops ops rest::k) (C7 C.n C.fz o.dst s)) s else IV C.P C.es C.n ops.toList o (fun s=>exec C Kr Kg f (.ops ops rest::k) (C7 C.n C.fz o.dst s)) s)
 | f+1,.wW ops l::k,s=>(match l with
  | []=>exec C Kr Kg f k s
  | (i,js)::r=>(match J8 ops.toList i with
   | some o=>bif agJ ops.toList o s js then MA C.P C.es C.n C.fz ops.toList o (exec C Kr Kg f (.wW ops r::k)) s else none
   | none=>none))
 | f+1,.inBlock _::k,s=>exec C Kr Kg f k s
 | f+1,.head body::k,s=>Kg (.head body::k) s
end Go.AL
