/- AI. -/
import Derived.Test.YtfggefeflojnkaaGreatAlResh
set_option linter.unusedVariables false
namespace Go.AL
def EE{A:Type}(f:A→X):(ts:List (List Ty))→nj.sx A ts→List X
 | [],x=>[f x]
 | τ::ts,x=>f (Prod.fst x)::EE (fun(y:aA τ)=>.cp (iF τ y) 0) ts (Prod.snd x)
def aak:(ts:List (List Ty))→nj ts→List X
 | [],_=>[]
 | τ::ts,x=>EE (fun(y:aA τ)=>.cp (iF τ y) 0) ts x
theorem QE{H:jg}:∀(ts:List (List Ty)) (x:nj ts) (vs:List V),DF ts x vs→aW H (aak ts x) vs∧∀y∈aak ts x,y.Gn H.c:=by
 have key:∀(ts:List (List Ty)) {A:Type} (f:A→X) (R:A→V→Prop),(∀x v,R x v→XV H (f x) v∧(f x).Gn H.c)→∀(x:nj.sx A ts) (vs:List V),qO R ts x vs→aW H (EE f ts x) vs∧∀y∈EE f ts x,y.Gn H.c:=by
  intro ts;induction ts with
  | nil=>
   grind[qO,EE,aW]
  | cons τ ts ih=>
   intro A f R hf x vs h;simp only[qO]at h;obtain⟨v,r,rfl,hv,hr⟩:=h;obtain⟨e1,e2⟩:=ih (fun(y:aA τ)=>.cp (iF τ y) 0) (fun(y:aA τ) v=>∃row,v=.cp row 0∧bW τ y row) (fun x v h=>by
    obtain⟨row,rfl,h⟩:=h;exact⟨by simp only[XV];exact⟨row,rfl,eo τ x row h⟩,trivial⟩) _ r hr
   grind[EE,aW]
 intro ts x vs h;cases ts with
 | nil=>grind[DF,aak,aW]
 | cons τ ts=>
  simp only[DF]at h;exact key ts _ _ (fun x v h=>by
    obtain⟨row,rfl,h⟩:=h;exact⟨by simp only[XV];exact⟨row,rfl,eo τ x row h⟩,trivial⟩) x vs h
def cpG(τ:List Ty):X→Option (aA τ)
 | .cp row 0=>wE τ row
 | _=>none
def EH{A:Type}(f:X→Option A):(ts:List (List Ty))→List X→Option (nj.sx A ts)
 | []=>fun xs=>match xs with
  | [x]=>f x
  | _=>none
 | τ::ts=>fun xs=>match xs with
  | x::r=>lg (f x) (EH (cpG τ) ts r)
  | []=>none
def aam:(ts:List (List Ty))→List X→Option (nj ts)
 | []=>fun xs=>match xs with
  | []=>some ()
  | _=>none
 | τ::ts=>fun xs=>EH (cpG τ) ts xs
theorem NN{H:jg}{τ:List Ty}{x:X}{y:aA τ}{v:V}(h:cpG τ x=some y)(hv:XV H x v):(∃row,v=.cp row 0∧bW τ y row)∧x.Gl H:=by
 unfold cpG at h
 split at h<;>try trivial
 simp only[XV]at hv;obtain⟨vs,rfl,hv⟩:=hv;exact⟨⟨vs,rfl,gh τ _ y vs h hv⟩,trivial⟩
theorem KV{H:jg}{A:Type}{f:X→Option A}{R:A→V→Prop}(hf:∀x a v,f x=some a→XV H x v→R a v):∀(ts:List (List Ty)) (xs:List X) (a:nj.sx A ts) (vs:List V),EH f ts xs=some a→aW H xs vs→qO R ts a vs
 | [],xs,a,vs,h,hv=>by
  match xs,h,hv with
  | [x],h,hv=>
   have h:f x=some a:=h;simp only[aW]at hv;obtain⟨v,r,rfl,h1,rfl⟩:=hv;simp only[qO];exact⟨v,rfl,hf x a v h h1⟩
 | τ::ts,xs,a,vs,h,hv=>by
  match xs,h,hv with
  | x::r,h,hv=>
   have h:lg (f x) (EH (cpG τ) ts r)=some a:=h;obtain⟨ha,hr⟩:=gK h;simp only[aW]at hv;obtain⟨v,r',rfl,h1,h2⟩:=hv;simp only[qO];exact⟨v,r',rfl,hf x _ v ha h1,KV (R:=fun(y:aA τ) v=>∃row,v=.cp row 0∧bW τ y row) (fun x a v Qa P8=>(NN Qa P8).1) ts r _ r' hr h2⟩
theorem aal{H:jg}(ts:List (List Ty))(xs:List X)(a:nj ts)(vs:List V)(h:aam ts xs=some a)(hv:aW H xs vs):DF ts a vs:=by
 cases ts with
 | nil=>
  match xs,h,hv with
  | [],h,hv=>simp only[aW]at hv;subst hv;simp only[DF]
 | cons τ ts=>
  simp only[DF];exact KV (R:=fun(y:aA τ) v=>∃row,v=.cp row 0∧bW τ y row) (fun x a v Qa P8=>(NN Qa P8).1) ts xs a vs h hv
theorem EG{H:jg}{A:Type}{f:X→Option A}(hf:∀x a,f x=some a→∃row,x=.cp row 0):∀(ts:List (List Ty)) (xs:List X) (a:nj.sx A ts),EH f ts xs=some a→∀x∈xs,∃row,x=.cp row 0
 | [],xs,a,h=>by
  match xs,h with
  | [x],h=>intro y hy;rw[aAD.1 hy];exact hf x a h
 | τ::ts,xs,a,h=>by
  match xs,h with
  | x::r,h=>
   have h:lg (f x) (EH (cpG τ) ts r)=some a:=h;obtain⟨ha,hr⟩:=gK h;intro y hy;rcases azW.1 hy with rfl | hy
   ·exact hf _ _ ha
   ·exact EG (H:=H) (fun x a h=>by unfold cpG at h;split at h<;>first | exact⟨_,rfl⟩ | cases h) ts r _ hr y hy
theorem EF(ts:List (List Ty))(xs:List X)(a:nj ts)(h:aam ts xs=some a):∀x∈xs,∃row,x=.cp row 0:=by
 cases ts with
 | nil=>
  match xs,h with
  | [],h=>intro x hx;cases hx
 | cons τ ts=>exact EG (H:=⟨0,fun _=>none,fun _=>none⟩) (fun x a h=>by unfold cpG at h;split at h<;>first | exact⟨_,rfl⟩ | cases h) ts xs a h
inductive DK where
 | c (i:Nat) (t:Ty)
 | g (i:Nat) (τ:List Ty)
 | rd (i:Nat) (τ:List Ty)
 | list (i o ty es:Nat) (τ:List Ty)
 | arr (i o ty es:Nat) (τ:List Ty)
 | box (i o ty es:Nat) (τ:List Ty)
 | aaq (i o ty es:Nat) (τ:List Ty) (j q Fm Gi:Nat) (ns:List Nat)
 | yc (i o ty es:Nat) (τ:List Ty) (j q Fm Gi j2 q2 Fl Gh:Nat)
 | cp (i:Nat) (τ:List Ty)
 | fn (i:Nat) (f:FuncId) (aw:List (List Ty))
def DK.T:DK→Type
 | .c _ t=>t.T
 | .g _ τ=>aA τ
 | .rd _ τ=>List (aA τ)
 | .list _ _ _ _ τ=>List (aA τ)
 | .arr _ _ _ _ τ=>List (aA τ)
 | .box _ _ _ _ τ=>aA τ
 | .aaq _ _ _ _ τ _ _ _ _ _=>aA τ
 | .yc _ _ _ _ τ _ _ _ _ _ _ _ _=>aA τ
 | .cp _ τ=>aA τ
 | .fn _ _ aw=>nj aw
def DsT:List DK→Type
 | []=>Unit
 | d::ds=>adS d.T ds
where
 adS (A:Type):List DK→Type
 | []=>A
 | d::ds=>A×adS d.T ds
abbrev je:=List (Nat×Option Nat)
def Na(h:Nat→Option du)(ty es:Nat):Option Ty→Option X→Option (X×Option Nat)
 | some (.sl σ),some .nil=>some (.sl σ [],none)
 | some (.sl σ),some (.ref p aU)=>match h p with
  | some (.t v j8 j7 σ' l)=>if hτ:eh σ' σ=true then bif Nat.beq v aU&&Nat.beq j8 ty&&Nat.beq j7 es then some (.sl σ (iP l hτ),some p)else none else none
  | some (.u v j8 j7 imp rows)=>bif Nat.beq v aU&&Nat.beq j8 ty&&Nat.beq j7 es&&!imp then(match jz σ rows with
   | some l=>some (.sl σ l,some p)
   | none=>none)else none
  | none=>none
 | _,_=>none
def afQ(row:List X):List Nat→Bool
 | []=>true
 | k::ns=>(match row[k]? with
  | some .nil=>true
  | _=>false)&&afQ row ns
def Mt{A:Type}(v:A)(row:List A):List Nat→List A
 | []=>row
 | k::ns=>(Mt v row ns).set k v
def DK.get(xs:br)(d:DK):Option (d.T×List Nat×je):=match d with
 | .c i t=>match SY xs.h t (xs.t i)with
  | some (v,f)=>some (v,f,[])
  | none=>none
 | .g i τ=>match xs.t i with
  | .agg true cs=>(match tT xs.h τ cs with
   | some (v,f)=>some (v,f,[])
   | none=>none)
  | .agg false cs=>(match wE τ cs with
   | some v=>some (v,[],[])
   | none=>none)
  | _=>none
 | .rd i τ=>match xs.t i with
  | .rd σ l=>if hτ:eh σ τ=true then some (iP l hτ,[],[])else none
  | _=>none
 | .list i o ty es τ=>match xs.t i with
  | .nil=>some ([],[],[(o,none)])
  | .ref p aU=>(match xs.h p with
   | some (.t v j8 j7 σ l)=>if hτ:eh σ τ=true then bif Nat.beq v aU&&Nat.beq j8 ty&&Nat.beq j7 es then some (iP l hτ,[],[(o,some p)])else none else none
   | some (.u v j8 j7 imp rows)=>bif Nat.beq v aU&&Nat.beq j8 ty&&Nat.beq j7 es&&!imp then(match jz τ rows with
    | some l=>some (l,[],[(o,some p)])
    | none=>none)else none
   | none=>none)
  | _=>none
 | .arr i o ty es τ=>match xs.t i with
  | .ptr p aU 0 0=>(match xs.h p with
   | some (.t v j8 j7 σ l)=>if hτ:eh σ τ=true then bif Nat.beq v aU&&Nat.beq j8 ty&&Nat.beq j7 es then some (iP l hτ,[],[(o,some p)])else none else none
   | _=>none)
  | _=>none
 | .box i o ty es τ=>match xs.t i with
  | .ptr p aU 0 0=>(match xs.h p with
   | some (.u v j8 j7 imp [row])=>bif Nat.beq v aU&&Nat.beq j8 ty&&Nat.beq j7 es then(match tT xs.h τ row with
    | some (v,f)=>some (v,f,[(o,some p)])
    | none=>none)else none
   | _=>none)
  | _=>none
 | .aaq i o ty es τ j q Fm Gi ns=>match xs.t i with
  | .ptr p aU 0 0=>(match xs.h p with
   | some (.u v j8 j7 imp [row])=>bif Nat.beq v aU&&Nat.beq j8 ty&&Nat.beq j7 es&&afQ row ns then(match Na xs.h Fm Gi τ[j]? row[j]? with
    | some (ce,src)=>(match tT xs.h τ (row.set j ce)with
     | some (v,f)=>some (v,f,[(o,some p),(q,src)])
     | none=>none)
    | none=>none)else none
   | _=>none)
  | _=>none
 | .yc i o ty es τ j q Fm Gi j2 q2 Fl Gh=>match xs.t i with
  | .ptr p aU 0 0=>(match xs.h p with
   | some (.u v j8 j7 imp [row])=>bif Nat.beq v aU&&Nat.beq j8 ty&&Nat.beq j7 es&&!Nat.beq j j2&&!Nat.beq q q2 then(match Na xs.h Fm Gi τ[j]? row[j]? with
    | some (ce,src)=>(match Na xs.h Fl Gh τ[j2]? row[j2]? with
     | some (ce2,asy)=>(match tT xs.h τ ((row.set j ce).set j2 ce2)with
      | some (v,f)=>some (v,f,[(o,some p),(q,src),(q2,asy)])
      | none=>none)
     | none=>none)
    | none=>none)else none
   | _=>none)
  | _=>none
 | .cp i τ=>match cpG τ (xs.t i)with
  | some v=>some (v,[],[])
  | none=>none
 | .fn i f aw=>match xs.t i with
  | .fn fid l=>bif Nat.beq fid f then(match aam aw l with
   | some v=>some (v,[],[])
   | none=>none)else none
  | _=>none
def XQ{A B:Type}(a:Option (A×List Nat×je))(b:Option (B×List Nat×je)):Option ((A×B)×List Nat×je):=match a with
 | some (a,f,s)=>match b with
  | some (b,g,t)=>some ((a,b),f++g,s++t)
  | none=>none
 | none=>none
def NJ{A:Type}(xs:br)(a:Option (A×List Nat×je)):(ds:List DK)→Option (DsT.adS A ds×List Nat×je)
 | []=>a
 | d::ds=>XQ a (NJ xs (d.get xs) ds)
def ZX(xs:br):(ds:List DK)→Option (DsT ds×List Nat×je)
 | []=>some ((),[],[])
 | d::ds=>NJ xs (d.get xs) ds
structure LD where
 ds:List DK
 als:List (Nat×Nat)
 ln:Nat:=0
def kg:je→List Nat
 | []=>[]
 | (_,some p)::r=>p::kg r
 | (_,none)::r=>kg r
def aiG(a b:List Nat):Bool:=a.all fun x=>!M6 x b
def sm(o:Nat):je→Option (Option Nat)
 | []=>none
 | (o',p)::r=>bif Nat.beq o o' then some p else sm o r
def ahr(xs:br)(sr:je):List (Nat×Nat)→Bool
 | []=>true
 | (i,o)::r=>(match sm o sr with
  | some (some p)=>(match xs.t i with
   | .ref q aU=>Nat.beq q p&&dt xs.h p aU
   | _=>false)
  | some none=>(match xs.t i with
   | .nil=>true
   | _=>false)
  | none=>false)&&ahr xs sr r
def as1(ln:Nat)(f:List Nat)(sr:je):Bool:=match ln with
 | 0=>true
 | n+1=>f.isEmpty&&sr.all fun q=>match q with
  | (o,some p)=>Nat.beq o p || !(Nat.ble 500 o&&Nat.blt o (500+(n+1)))
  | (o,none)=>!(Nat.ble 500 o&&Nat.blt o (500+(n+1)))
def LnI(I:rM)(ln:Nat):Prop:=((∀b,¬ I.P b)∧∀o,¬ I.q o)∨(0<ln∧∀o,I.q o→500≤o∧o<500+ln)
def LD.get(D:LD)(xs:br):Option (DsT D.ds):=match ZX xs D.ds with
 | some (v,f,sr)=>bif sT (sr.map (·.1))&&sT (kg sr)&&aiG f (kg sr)&&ahr xs sr D.als&&as1 D.ln f sr then some v else none
 | none=>none
def br.ext(s:br)(i:Nat)(x:X)(o:Nat)(ob:du):br:=⟨fun j=>bif Nat.beq j i then x else s.t j,fun p=>bif Nat.beq p o then some ob else s.h p,s.c+1⟩
def br.yP(s:br)(o:Nat)(ob:du):br:=⟨s.t,fun p=>bif Nat.beq p o then some ob else s.h p,s.c+1⟩
def ak2(i o ty es j q Fm Gi:Nat)(ns:List Nat)(cs:List X)(s:br):br:=match cs[j]? with
 | some (.sl σ l)=>(s.yP q (.t s.c Fm Gi σ l)).ext i (.ptr o (s.c+1) 0 0) o (.u (s.c+1) ty es true [Mt .nil (cs.set j (.ref q s.c)) ns])
 | _=>s
def XN(i o ty es j q Fm Gi j2 q2 Fl Gh:Nat)(cs:List X)(s:br):br:=match cs[j]? with
 | some (.sl σ l)=>(match cs[j2]? with
  | some (.sl σ2 l2)=>((s.yP q2 (.t s.c Fl Gh σ2 l2)).yP q (.t (s.c+1) Fm Gi σ l)).ext i (.ptr o (s.c+2) 0 0) o (.u (s.c+2) ty es true [(cs.set j2 (.ref q2 s.c)).set j (.ref q (s.c+1))])
  | _=>s)
 | _=>s
def DK.put(d:DK)(x:d.T)(s:br):br:=match d with
 | .c i t=>s.put (some i) (lH t x)
 | .g i τ=>s.put (some i) (.agg false (iF τ x))
 | .rd i τ=>s.put (some i) (.rd τ x)
 | .list i o ty es τ=>s.ext i (.ref o s.c) o (.t s.c ty es τ x)
 | .arr i o ty es τ=>s.ext i (.ptr o s.c 0 0) o (.t s.c ty es τ x)
 | .box i o ty es τ=>s.ext i (.ptr o s.c 0 0) o (.u s.c ty es false [iF τ x])
 | .aaq i o ty es τ j q Fm Gi ns=>ak2 i o ty es j q Fm Gi ns (iF τ x) s
 | .yc i o ty es τ j q Fm Gi j2 q2 Fl Gh=>XN i o ty es j q Fm Gi j2 q2 Fl Gh (iF τ x) s
 | .cp i τ=>s.put (some i) (.cp (iF τ x) 0)
 | .fn i f aw=>s.put (some i) (.fn f (aak aw x))
def K1:br:=⟨fun _=>.dead,fun _=>none,0⟩
def ZV{A:Type}(f:A→br→br):(ds:List DK)→DsT.adS A ds→br
 | [],x=>f x K1
 | d::ds,x=>f (Prod.fst x) (ZV (DK.put d) ds (Prod.snd x))
def aqP:(ds:List DK)→DsT ds→br
 | [],_=>K1
 | d::ds,x=>ZV (DK.put d) ds x
def yd(s:br):List (Nat×Nat)→br
 | []=>s
 | (i,o)::r=>(yd s r).put (some i) (match s.h o with
  | some ob=>.ref o ob.aU
  | none=>.dead)
def LD.mk'(D:LD)(x:DsT D.ds):br:=yd (aqP D.ds x) D.als
section
variable {xs:br} {s:St} {F:Nat→Prop}
theorem A3{τ:List Ty}{y:aA τ}{row:List V}(h:bW τ y row):aJ (iN s F) row row:=by
 have h1:=kX τ y row h;have:∀(l:List V),(∀y∈l,bJ y)→aJ (iN s F) l l:=by
  intro l;induction l with
  | nil=>intro _;trivial
  | cons x l ih=>
   intro hl;refine⟨.inl ⟨rfl,?_⟩,ih (fun y hy=>hl y (az6 _ hy))⟩;have:=hl x (az1 ..);cases this<;>exact⟨rfl,fun cs h=>by cases h⟩
 grind
theorem uv{ρ:Nat→Option Nat}{τ:List Ty}{l:List (aA τ)}{ob:Ob}(h:bD τ l ob.rows):obR s ρ F ob ob:=by
 refine⟨rfl,rfl,?_⟩;have:∀(l:List (aA τ)) (rows:List (List V)),bD τ l rows→aJ (aJ fun x x'=>jR s ρ F x x'∧(ob.imp=false→iN s F x x')) rows rows:=by
  intro l;induction l with
  | nil=>intro rows h;cases rows with
   | nil=>trivial
   | cons _ _=>exact h.elim
  | cons x l ih=>intro rows h;cases rows with
   | nil=>exact h.elim
   | cons row rows=>exact⟨aJ.mono (fun a b h=>⟨.inl h,fun _=>h⟩) (A3 h.1),ih rows h.2⟩
 grind
def St.ext(s:St)(i:Nat)(v:V)(o:Nat)(ob:Ob):St:=⟨fun j=>if j=i then v else s.t j,fun p=>if p=o then some ob else s.h p⟩
theorem RS.auK{ys:br}{t:St}(R:RS ys t)(i:Nat){x:X}{v:V}(o:Nat){ob:du}{ob':Ob}(uI:ob.aU=ys.c)(cR:fT ⟨ys.c,ys.h,t.h⟩ ob ob')(hv:XV ⟨ys.c+1,(ys.ext i x o ob).h,(t.ext i v o ob').h⟩ x v):RS (ys.ext i x o ob) (t.ext i v o ob'):=by
 have L:LK (fun _=>false) ⟨ys.c,ys.h,t.h⟩ ⟨ys.c+1,(ys.ext i x o ob).h,(t.ext i v o ob').h⟩:=by
  refine⟨aBk _,fun p cN h1 h2=>?_⟩;simp only[br.ext,eu]at h1;by_cases hp:p=o
  ·grind
  ·rw[azD hp]at h1
   exact⟨rfl,⟨cN,h1,rfl⟩,fun bE h3=>⟨bE,by simp only[St.ext];rw[azD hp];exact h3,rfl⟩⟩
 refine⟨fun j=>?_,fun p bn h=>?_⟩
 ·show XV _ (bif Nat.beq j i then x else ys.t j) (if j=i then v else t.t j)
  rw[eu];by_cases hj:j=i
  ·rw[azE hj,azE hj];exact hv
  ·rw[azD hj,azD hj];exact XV.frame L _ _ (R.t j)
 ·have h':=h
  simp only[br.ext,eu]at h;by_cases hp:p=o
  ·rw[azE hp]at h;cases h;subst hp
   refine⟨by show ob.aU<ys.c+1;omega,ob',by simp[St.ext],?_⟩;have:=cR.frame L;rw[Ob.bK]at this;exact this
  ·rw[azD hp]at h
   obtain⟨h1,bE,h2,h3⟩:=R.h p bn h;refine⟨by show bn.aU<ys.c+1;omega,bE,by simp[St.ext,hp,h2],?_⟩;have:=h3.frame L;rw[Ob.bK]at this;exact this
structure Part (xs:br) (s:St) (ρ:Nat→Option Nat) (F:Nat→Prop) (names:List Nat) (ys:br) (t:St):Prop where
 rs:RS ys t
 tt:∀i,t.t i=.dead∨Jx s ρ F (s.t i) (t.t i)
 hh:∀o ob',t.h o=some ob'→o∈names∧((∃p ob,ρ o=some p∧¬ F p∧s.h p=some ob∧obR s ρ F ob ob')∨(ρ o=none∧ob'.rows=[]))
theorem D8(ρ:Nat→Option Nat):Part xs s ρ F [] K1 ⟨fun _=>.dead,fun _=>none⟩:=
 ⟨⟨fun i=>by simp only[K1,XV],fun o bn h=>by cases h⟩,fun i=>.inl rfl,fun o ob' h=>by cases h⟩
theorem Part.put{ρ:Nat→Option Nat}{names:List Nat}{ys:br}{t:St}(Q:Part xs s ρ F names ys t)(i:Nat){x:X}{v:V}(hx:XV ⟨ys.c,ys.h,t.h⟩ x v)(hr:v=.dead∨Jx s ρ F (s.t i) v):Part xs s ρ F names (ys.put (some i) x) (t.put (some i) v):=by
 refine⟨Q.rs.Tn (some i) hx,fun j=>?_,Q.hh⟩;simp only[St.put]
 split
 ·grind
 ·exact Q.tt j
theorem Part.ext{ρ:Nat→Option Nat}{names:List Nat}{ys:br}{t:St}(Q:Part xs s ρ F names ys t)(i:Nat){x:X}{v:V}(o:Nat){ob:du}{ob':Ob}(uI:ob.aU=ys.c)(cR:fT ⟨ys.c,ys.h,t.h⟩ ob ob')
  (hv:XV ⟨ys.c+1,(ys.ext i x o ob).h,(t.ext i v o ob').h⟩ x v) (hr:Jx s ρ F (s.t i) v)
  (ho:(∃p ob,ρ o=some p∧¬ F p∧s.h p=some ob∧obR s ρ F ob ob')∨(ρ o=none∧ob'.rows=[])):Part xs s ρ F (o::names) (ys.ext i x o ob) (t.ext i v o ob'):=by
 refine⟨Q.rs.auK i o uI cR hv,fun j=>?_,fun p bE h=>?_⟩
 ·simp only[St.ext]
  split
  ·grind
  ·exact Q.tt j
 ·simp only[St.ext]at h
  split at h
  ·grind
  ·obtain⟨h1,h2⟩:=Q.hh p bE h;grind
theorem RS.aqM{ys:br}{t:St}(R:RS ys t)(o:Nat){ob:du}{ob':Ob}(uI:ob.aU=ys.c)(cR:fT ⟨ys.c,ys.h,t.h⟩ ob ob'):RS (ys.yP o ob) ⟨t.t,fun p=>if p=o then some ob' else t.h p⟩:=by
 have L:LK (fun _=>false) ⟨ys.c,ys.h,t.h⟩ ⟨ys.c+1,(ys.yP o ob).h,fun p=>if p=o then some ob' else t.h p⟩:=by
  refine⟨aBk _,fun p cN h1 h2=>?_⟩;simp only[br.yP,eu]at h1;grind
 refine⟨fun j=>XV.frame L _ _ (R.t j),fun p bn h=>?_⟩;have h':=h;simp only[br.yP,eu]at h;by_cases hp:p=o
 ·rw[azE hp]at h;cases h;subst hp
  refine⟨by show ob.aU<ys.c+1;omega,ob',by simp,?_⟩;have:=cR.frame L;rw[Ob.bK]at this;exact this
 ·rw[azD hp]at h
  obtain⟨h1,bE,h2,h3⟩:=R.h p bn h;refine⟨by show bn.aU<ys.c+1;omega,bE,by simp[hp,h2],?_⟩;have:=h3.frame L;rw[Ob.bK]at this;exact this
theorem Part.yP{ρ:Nat→Option Nat}{names:List Nat}{ys:br}{t:St}(Q:Part xs s ρ F names ys t)(o:Nat){ob:du}{ob':Ob}(uI:ob.aU=ys.c)(cR:fT ⟨ys.c,ys.h,t.h⟩ ob ob')
  (ho:(∃p ob,ρ o=some p∧¬ F p∧s.h p=some ob∧obR s ρ F ob ob')∨(ρ o=none∧ob'.rows=[])):Part xs s ρ F (o::names) (ys.yP o ob) ⟨t.t,fun p=>if p=o then some ob' else t.h p⟩:=by
 refine⟨Q.rs.aqM o uI cR,Q.tt,fun p bE h=>?_⟩;simp only at h
 split at h
 ·grind
 ·obtain⟨h1,h2⟩:=Q.hh p bE h;grind
theorem zo(R:RS xs s){ty es j:Nat}{τ:List Ty}{row:List X}{dX:List V}{c:X}{src:Option Nat}(h:Na xs.h ty es τ[j]? row[j]? = some (c,src))(hv:aW ⟨xs.c,xs.h,s.h⟩ row dX):
  ∃b bE,dX[j]? = some b∧bE.ty=ty∧bE.es=es∧bE.imp=false∧(∃σ l,c=.sl σ l∧bD σ l bE.rows)∧((∃p2,src=some p2∧b=.ref p2 bE.rows.length∧s.h p2=some bE)∨(src=none∧b=.nil∧bE.rows=[])):=by
 cases hx:row[j]? with
 | none=>grind[Na]
 | some x=>
  obtain⟨b,hb,P9⟩:=hv.at j x hx;rw[hx]at h;unfold Na at h
  split at h<;>try trivial
  ·rename_i σ h1 h2
   cases h2
   simp only[azN]at h;obtain⟨rfl,rfl⟩:=h;simp only[XV]at P9;exact⟨b,⟨ty,es,false,[]⟩,hb,rfl,rfl,rfl,⟨σ,[],rfl,trivial⟩,.inr ⟨rfl,P9,rfl⟩⟩
  ·rename_i σ p aU h1 h2
   cases h2
   split at h<;>try trivial
   ·rename_i v j8 j7 σ' l ho
    split at h<;>try trivial
    rename_i hτ;obtain⟨hc,h⟩:=aS h;simp only[azF]at hc;simp only[azN]at h;obtain⟨rfl,rfl⟩:=h;obtain⟨bn,ob,g1,g2,g3,g4,rfl⟩:=cM (H:=⟨xs.c,xs.h,s.h⟩) R.h P9 (by unfold dt;simp only;rw[ho];exact hc.1.1);simp only at g1 g3;rw[ho]at g1;cases g1;obtain⟨k1,k2,k3,k4⟩:=g4;exact⟨_,ob,hb,k1.trans (azV hc.1.2),k2.trans (azV hc.2),k3,⟨σ,_,rfl,(cg _ hτ _).2 k4⟩,.inl ⟨p,rfl,rfl,g3⟩⟩
   ·rename_i v j8 j7 imp rows ho
    obtain⟨hc,h⟩:=aS h;simp only[azF,aAi]at hc
    split at h<;>try trivial
    rename_i l hl;simp only[azN]at h;obtain⟨rfl,rfl⟩:=h;obtain⟨bn,ob,g1,g2,g3,g4,rfl⟩:=cM (H:=⟨xs.c,xs.h,s.h⟩) R.h P9 (by unfold dt;simp only;rw[ho];exact hc.1.1.1);simp only at g1 g3;rw[ho]at g1;cases g1;obtain⟨k1,k2,k3,k4⟩:=g4;exact⟨_,ob,hb,k1.trans (azV hc.1.1.2),k2.trans (azV hc.1.2),k3.trans hc.2,⟨σ,l,rfl,dq hl k4⟩,.inl ⟨p,rfl,rfl,g3⟩⟩
theorem qe{R R':V→V→Prop}(hR:∀x x',R x x'→R' x x'):∀{j:Nat} {vs bS:List V} {a b c:V},vs[j]? = some b→R' b c→aJ R (vs.set j a) bS→aJ R' vs (bS.set j c)∧∃y,bS[j]? = some y∧R a y
 | 0,v::vs,w::bS,a,b,c,h,hb,hA=>by
  simp at h;subst h;obtain⟨h1,h2⟩:=hA;exact⟨⟨hb,aJ.mono (fun x y h=>hR x y h) h2⟩,w,rfl,h1⟩
 | j+1,v::vs,w::bS,a,b,c,h,hb,hA=>by
  obtain⟨h1,h2⟩:=hA;obtain⟨i1,i2⟩:=qe hR (j:=j) (by grind) hb h2;exact⟨⟨hR _ _ h1,i1⟩,i2⟩
 | _,[],_,_,_,_,h,_,_=>by simp at h
 | 0,v::vs,[],_,_,_,_,_,hA=>hA.elim
 | j+1,v::vs,[],_,_,_,_,_,hA=>hA.elim
theorem ET{R':V→V→Prop}:∀{k:Nat} {vs bS:List V} {b c:V},vs[k]? = some b→R' b c→aJ R' vs bS→aJ R' vs (bS.set k c)
 | 0,v::vs,w::bS,b,c,h,hb,hA=>by simp at h;subst h;exact⟨hb,hA.2⟩
 | k+1,v::vs,w::bS,b,c,h,hb,hA=>⟨hA.1,ET (k:=k) (by grind) hb hA.2⟩
 | _,[],_,_,_,h,_,_=>by simp at h
 | 0,v::vs,[],_,_,_,_,hA=>hA.elim
 | k+1,v::vs,[],_,_,_,_,hA=>hA.elim
theorem Jy{H:jg}:∀(ns:List Nat) {ws:List X} {vs:List V},aW H ws vs→aW H (Mt .nil ws ns) (Mt .nil vs ns)
 | [],_,_,hw=>hw
 | _::ns,_,_,hw=>iS (Jy ns hw) (by grind[XV])
theorem PQ{R':V→V→Prop}(hR:R' .nil .nil){H:jg}{row:List X}{dX:List V}(hv:aW H row dX):∀(ns:List Nat) {vs:List V},afQ row ns=true→aJ R' dX vs→aJ R' dX (Mt .nil vs ns)
 | [],vs,h,hA=>hA
 | k::ns,vs,h,hA=>by
  simp only[afQ,azF]at h;have h1:=h.1
  split at h1<;>try (cases h1;done)
  rename_i hk;obtain⟨b,hb,P9⟩:=hv.at k _ hk;simp only[XV]at P9;subst P9;exact ET hb hR (PQ hR hv ns h.2 hA)
theorem Part.skip{ρ:Nat→Option Nat}{names more:List Nat}{ys:br}{t:St}(Q:Part xs s ρ F names ys t):Part xs s ρ F (more++names) ys t:=
 ⟨Q.rs,Q.tt,fun o ob' h=>by obtain⟨h1,h2⟩:=Q.hh o ob' h;exact⟨aBe _ h1,h2⟩⟩
theorem Qp(R:RS xs s){ρ:Nat→Option Nat}(d:DK){x:d.T}{f:List Nat}{sr:je}(h:d.get xs=some (x,f,sr))(hF:∀p∈f,F p)(hρ:∀o p,(o,p)∈sr→ρ o=p∧∀q,p=some q→¬ F q)
  {names:List Nat} {ys:br} {t:St} (Q:Part xs s ρ F names ys t):∃t',Part xs s ρ F (sr.map (·.1)++names) (d.put x ys) t':=by
 cases d with
 | c i ty=>
  simp only[DK.get]at h
  split at h<;>try trivial
  rename_i v g hg;simp only[azN]at h;obtain⟨rfl,rfl,rfl⟩:=h;obtain⟨v',h1,h2⟩:=zh R ty hg (R.t i) hF;exact⟨_,Q.put i (vg ty _ v' h2) (.inr (.inl (.inl h1)))⟩
 | g i τ=>
  simp only[DK.get]at h
  split at h<;>try trivial
  ·rename_i cs uR
   split at h<;>try trivial
   rename_i v g hg;simp only[azN]at h;obtain⟨rfl,rfl,rfl⟩:=h;have hx:=R.t i;rw[uR]at hx;simp only[XV]at hx;obtain⟨vs,e1,e2⟩:=hx;obtain⟨bS,h1,h2⟩:=kQ R τ hg e2 hF;exact⟨_,Q.put i (v:=.agg bS) (by simp only[XV];exact⟨bS,rfl,eo τ _ bS h2⟩) (.inr (.inr (.inr (.inl ⟨vs,bS,e1,rfl,h1⟩))))⟩
  ·rename_i cs uR
   split at h<;>try trivial
   rename_i v hg;simp only[azN]at h;obtain⟨rfl,rfl,rfl⟩:=h;have hx:=R.t i;rw[uR]at hx;simp only[XV]at hx;obtain⟨vs,e1,e2⟩:=hx;have h2:=gh τ cs _ vs hg e2;exact⟨_,Q.put i (v:=.agg vs) (by simp only[XV];exact⟨vs,rfl,eo τ _ vs h2⟩) (.inr (.inr (.inl ⟨by rw[e1];rfl,.inr (.inr (.inl ⟨vs,e1⟩))⟩)))⟩
 | rd i τ=>
  simp only[DK.get]at h
  split at h<;>try trivial
  rename_i σ l hl
  split at h<;>try trivial
  rename_i hτ;simp only[azN]at h;obtain⟨rfl,rfl,rfl⟩:=h;have hx:=R.t i;rw[hl]at hx;simp only[XV]at hx;obtain⟨rows,e1,e2⟩:=hx;exact⟨_,Q.put i (v:=.rd rows) (by grind[XV,cg]) (.inr (.inr (.inl ⟨by rw[e1],.inl ⟨rows,e1⟩⟩)))⟩
 | cp i τ=>
  simp only[DK.get]at h
  split at h<;>try trivial
  rename_i v hg;simp only[azN]at h;obtain⟨rfl,rfl,rfl⟩:=h;obtain⟨⟨row,e1,e2⟩,_⟩:=NN hg (R.t i);exact⟨_,Q.put i (v:=.cp row 0) (by grind[XV,eo]) (.inr (.inr (.inl ⟨by rw[e1],.inr (.inl ⟨row,0,e1⟩)⟩)))⟩
 | fn i f aw=>
  simp only[DK.get]at h
  split at h<;>try trivial
  rename_i g l hl;obtain⟨hb,h⟩:=aS h
  split at h<;>try trivial
  rename_i v hg;simp only[azN]at h;obtain⟨rfl,rfl,rfl⟩:=h;have hx:=R.t i;rw[hl,azV hb]at hx;simp only[XV]at hx;obtain⟨vs,e1,e2⟩:=hx.2 (fun x hx=>by obtain⟨row,rfl⟩:=EF aw l _ hg x hx;trivial);have hcv:=aal aw l _ vs hg e2;obtain⟨k1,k2⟩:=QE (H:=⟨ys.c,ys.h,t.h⟩) aw _ vs hcv;refine⟨_,Q.put i (v:=.fn f vs) (by grind[XV]) (.inr (.inr (.inl ⟨by rw[e1],.inr (.inr (.inr ⟨f,vs,e1,fun c hc=>?_⟩))⟩)))⟩;obtain⟨j,hj⟩:=aAr hc;have hjl:j<l.length:=by rw[← e2.len];grind
  have hx1:=azS hjl;obtain⟨c',hc1,zu⟩:=e2.at j _ hx1;rw[hj]at hc1;cases hc1;generalize l[j]=x at hx1 zu;obtain⟨row,rfl⟩:=EF aw l _ hg x (azO hx1);grind[XV]
 | list i o ty es τ=>
  have an5:∀(ob':Ob) (l:List (aA τ)),XV ⟨ys.c+1,(ys.ext i (.ref o ys.c) o (.t ys.c ty es τ l)).h,(t.ext i (.ref o ob'.rows.length) o ob').h⟩ (.ref o ys.c) (.ref o ob'.rows.length):=by
   intro ob' l;simp only[XV];exact⟨aAF _,fun bn _ _=>⟨ob',by simp[St.ext],rfl⟩⟩
  have oA:∀(p aU:Nat) (bn:du) (l:List (aA τ)),xs.t i=.ref p aU→xs.h p=some bn→bn.aU=aU→(∀ob,fT ⟨xs.c,xs.h,s.h⟩ bn ob→ob.ty=ty∧ob.es=es∧ob.imp=false∧bD τ l ob.rows)→
    ρ o=some p→¬ F p→∃t',Part xs s ρ F (o::names) (ys.ext i (.ref o ys.c) o (.t ys.c ty es τ l)) t':=by
   intro p aU bn l hi hp uI cR VT hFp;have hx:=R.t i;rw[hi]at hx;obtain⟨Wh,ob,h1,h2,h3,h4,h5⟩:=cM (H:=⟨xs.c,xs.h,s.h⟩) R.h hx (by unfold dt;simp only;rw[hp];simp only;rw[uI];exact aA0 _);simp only at h1 h3;rw[hp]at h1;cases h1;obtain⟨a1,a2,a3,a4⟩:=cR ob h4;exact⟨_,Q.ext i (v:=.ref o ob.rows.length) (ob':=ob) o rfl ⟨a1,a2,a3,a4⟩ (an5 ob l) (.inl (.inr (.inl ⟨o,p,_,h5,VT,rfl⟩))) (.inl ⟨p,ob,VT,hFp,h3,uv a4⟩)⟩
  simp only[DK.get]at h
  split at h<;>try trivial
  ·rename_i hi
   simp only[azN]at h;obtain⟨rfl,rfl,rfl⟩:=h;have hx:=R.t i;rw[hi]at hx;simp only[XV]at hx;have VT:=(hρ o none (by simp)).1;exact⟨_,Q.ext i (v:=.ref o 0) (ob':=⟨ty,es,false,[]⟩) o rfl ⟨rfl,rfl,rfl,trivial⟩ (an5 ⟨ty,es,false,[]⟩ []) (.inl (.inr (.inr (.inr (.inl ⟨o,hx,VT,rfl⟩))))) (.inr ⟨VT,rfl⟩)⟩
  ·rename_i p aU hi
   split at h<;>try trivial
   ·rename_i v' j8 j7 σ l hp
    split at h<;>try trivial
    rename_i hτ;obtain⟨hb,h⟩:=aS h;simp only[azF]at hb;simp only[azN]at h;obtain⟨rfl,rfl,rfl⟩:=h;obtain⟨r1,r2⟩:=hρ o (some p) (by simp);refine oA p aU _ _ hi hp (azV hb.1.1) (fun ob cR=>?_) r1 (r2 p rfl);obtain⟨a1,a2,a3,a4⟩:=cR;exact⟨by rw[a1];exact azV hb.1.2,by rw[a2];exact azV hb.2,a3,(cg _ hτ _).2 a4⟩
   ·rename_i v' j8 j7 imp rows hp
    obtain⟨hb,h⟩:=aS h;simp only[azF,aAi]at hb
    split at h<;>try trivial
    rename_i l hl;simp only[azN]at h;obtain⟨rfl,rfl,rfl⟩:=h;obtain⟨r1,r2⟩:=hρ o (some p) (by simp);refine oA p aU _ _ hi hp (azV hb.1.1.1) (fun ob cR=>?_) r1 (r2 p rfl);obtain⟨a1,a2,a3,a4⟩:=cR;exact⟨by rw[a1];exact azV hb.1.1.2,by rw[a2];exact azV hb.1.2,by rw[a3];exact hb.2,dq hl a4⟩
 | arr i o ty es τ=>
  simp only[DK.get]at h
  split at h<;>try trivial
  rename_i p aU hi
  split at h<;>try trivial
  rename_i v' j8 j7 σ l hp
  split at h<;>try trivial
  rename_i hτ;obtain⟨hb,h⟩:=aS h;simp only[azF]at hb;simp only[azN]at h;obtain⟨rfl,rfl,rfl⟩:=h;obtain⟨r1,r2⟩:=hρ o (some p) (by simp);have hx:=R.t i;rw[hi]at hx;obtain⟨Wh,ob,h1,h2,h3,h4,h6,h5⟩:=dL (H:=⟨xs.c,xs.h,s.h⟩) R.h hx (by unfold dt;simp only;rw[hp];exact hb.1.1);simp only at h1 h3;rw[hp]at h1;cases h1;obtain⟨a1,a2,a3,a4⟩:=h4;have a5:=(cg _ hτ _).2 a4;refine⟨_,Q.ext i (v:=.ptr o ob.rows.length 0 0) (ob':=ob) o rfl ⟨a1.trans (azV hb.1.2),a2.trans (azV hb.2),a3,a5⟩ ?_ (.inl (.inr (.inr (.inl ⟨o,p,ob.rows.length,0,0,h5,r1,rfl⟩)))) (.inl ⟨p,ob,r1,r2 p rfl,h3,uv a5⟩)⟩;simp only[XV];exact⟨aAF _,fun bn _ _=>⟨ob,by simp[St.ext],h6,rfl⟩⟩
 | box i o ty es τ=>
  simp only[DK.get]at h
  split at h<;>try trivial
  rename_i p aU hi
  split at h<;>try trivial
  rename_i v' j8 j7 imp row hp;obtain⟨hb,h⟩:=aS h;simp only[azF]at hb
  split at h<;>try trivial
  rename_i v g hg;simp only[azN]at h;obtain⟨rfl,rfl,rfl⟩:=h;obtain⟨r1,r2⟩:=hρ o (some p) (by simp);have hx:=R.t i;rw[hi]at hx;obtain⟨Wh,ob,h1,h2,h3,h4,h6,h5⟩:=dL (H:=⟨xs.c,xs.h,s.h⟩) R.h hx (by unfold dt;simp only;rw[hp];exact hb.1.1);simp only at h1 h3;rw[hp]at h1;cases h1;obtain⟨a1,a2,a3,a4⟩:=h4
  match bF:ob.rows,a4 with
  | [dX],a4=>
   obtain⟨bS,g1,g2⟩:=kQ R τ hg a4.1 hF;refine⟨_,Q.ext i (v:=.ptr o 1 0 0) (ob':=⟨ty,es,false,[bS]⟩) o rfl ⟨rfl,rfl,rfl,⟨eo τ _ bS g2,trivial⟩⟩ ?_ (.inl (.inr (.inr (.inl ⟨o,p,1,0,0,by rw[h5,bF];rfl,r1,rfl⟩)))) (.inl ⟨p,ob,r1,r2 p rfl,h3,?_,?_,?_⟩)⟩
   ·simp only[XV]
    exact⟨aAF _,fun bn _ _=>⟨⟨ty,es,false,[bS]⟩,by simp[St.ext],by simp,rfl⟩⟩
   ·show ty=ob.ty;rw[a1];exact(azV hb.1.2).symm
   ·show es=ob.es;rw[a2];exact(azV hb.2).symm
   ·rw[bF]
    exact⟨aJ.mono (fun a b h=>⟨.inl h,fun _=>h⟩) g1,trivial⟩
 | aaq i o ty es τ j q Fm Gi ns=>
  simp only[DK.get]at h
  split at h<;>try trivial
  rename_i p aU hi
  split at h<;>try trivial
  rename_i v' j8 j7 imp row hp;obtain⟨hb,h⟩:=aS h;simp only[azF]at hb
  split at h<;>try trivial
  rename_i c src hc
  split at h<;>try trivial
  rename_i v g hg;simp only[azN]at h;obtain⟨rfl,rfl,rfl⟩:=h;obtain⟨r1,r2⟩:=hρ o (some p) (by simp);obtain⟨r3,r4⟩:=hρ q src (by simp);have hx:=R.t i;rw[hi]at hx;obtain⟨Wh,ob,h1,h2,h3,h4,h6,h5⟩:=dL (H:=⟨xs.c,xs.h,s.h⟩) R.h hx (by unfold dt;simp only;rw[hp];exact hb.1.1.1);simp only at h1 h3;rw[hp]at h1;cases h1;obtain⟨a1,a2,a3,a4⟩:=h4
  match bF:ob.rows,a4 with
  | [dX],a4=>
   obtain⟨b,bE,b1,b2,b3,b4,⟨σ,l,rfl,b5⟩,b6⟩:=zo R hc a4.1;have hxc:XV ⟨xs.c,xs.h,s.h⟩ (.sl σ l) (.sl bE.rows):=by simp only[XV];exact .inr ⟨bE.rows,rfl,b5⟩
   obtain⟨bS,g1,g2⟩:=kQ R τ hg (iS (j:=j) a4.1 hxc) hF;have BO:jR s ρ F b (.ref q bE.rows.length):=by
    rcases b6 with⟨p2,rfl,rfl,b7⟩ | ⟨rfl,rfl,b7⟩
    ·exact .inr (.inl ⟨q,p2,_,rfl,r3,rfl⟩)
    ·rw[b7];exact .inr (.inr (.inr (.inl ⟨q,rfl,r3,rfl⟩)))
   obtain⟨c1,y,c2,c3⟩:=qe (R':=fun x x'=>jR s ρ F x x') (fun _ _ h=>.inl h) b1 BO g1;have hy:y=.sl bE.rows:=by
    rcases c3 with⟨c3,_⟩ | ⟨_,_,_,c3,_⟩
    ·exact c3
    ·cases c3
   subst hy;show ∃t',Part xs s ρ F (o::q::names) (ak2 i o ty es j q Fm Gi ns (iF τ _) ys) t';unfold ak2
   split
   ·rename_i σ' l' hj
    have P8:=eo (H:=⟨ys.c,ys.h,t.h⟩) τ _ bS g2;obtain⟨y2,d1,d2⟩:=P8.at j _ hj;rw[c2]at d1;cases d1;simp only[XV]at d2;rcases d2 with⟨_,d3⟩ | ⟨rows2,d3,d4⟩
    ·cases d3
    cases d3
    have Q1:=Q.yP q (ob:=.t ys.c Fm Gi σ' l') (ob':=bE) rfl ⟨b2,b3,b4,d4⟩ (by
     rcases b6 with⟨p2,rfl,rfl,b7⟩ | ⟨rfl,rfl,b7⟩
     ·exact .inl ⟨p2,bE,r3,r4 p2 rfl,b7,uv d4⟩
     ·exact .inr ⟨r3,b7⟩)
    have hz:jR s ρ F .nil .nil:=.inl (.inl ⟨rfl,rfl,fun cs h=>by cases h⟩);refine⟨_,Q1.ext i (v:=.ptr o 1 0 0) (ob':=⟨ty,es,true,[Mt .nil (bS.set j (.ref q bE.rows.length)) ns]⟩) o rfl ⟨rfl,rfl,rfl,⟨Jy ns (iS (eo τ _ bS g2) ?_),trivial⟩⟩ ?_ (.inl (.inr (.inr (.inl ⟨o,p,1,0,0,by rw[h5,bF];rfl,r1,rfl⟩)))) (.inl ⟨p,ob,r1,r2 p rfl,h3,?_,?_,?_⟩)⟩
    ·simp only[XV]
     exact⟨aAF _,fun bn _ _=>⟨bE,by simp,rfl⟩⟩
    ·simp only[XV]
     exact⟨aAF _,fun bn _ _=>⟨⟨ty,es,true,[Mt .nil (bS.set j (.ref q bE.rows.length)) ns]⟩,by simp[St.ext],by simp,rfl⟩⟩
    ·show ty=ob.ty;rw[a1];exact(azV hb.1.1.2).symm
    ·show es=ob.es;rw[a2];exact(azV hb.1.2).symm
    ·rw[bF]
     exact⟨aJ.mono (fun a b h=>⟨h,fun h2=>by cases h2⟩) (PQ hz a4.1 ns hb.2 c1),trivial⟩
   ·exact⟨t,Q.skip (more:=[o,q])⟩
 | yc i o ty es τ j q Fm Gi j2 q2 Fl Gh=>
  simp only[DK.get]at h
  split at h<;>try trivial
  rename_i p aU hi
  split at h<;>try trivial
  rename_i v' j8 j7 imp row hp;obtain⟨hb,h⟩:=aS h;simp only[azF]at hb;have hjj:j ≠ j2:=fun e=>by have:=hb.1.2;rw[e,aA0]at this;cases this
  have hqq:q ≠ q2:=fun e=>by have:=hb.2;rw[e,aA0]at this;cases this
  split at h<;>try trivial
  rename_i c src hc
  split at h<;>try trivial
  rename_i cx asx hcx
  split at h<;>try trivial
  rename_i v g hg;simp only[azN]at h;obtain⟨rfl,rfl,rfl⟩:=h;obtain⟨r1,r2⟩:=hρ o (some p) (by simp);obtain⟨r3,r4⟩:=hρ q src (by simp);obtain⟨r5,r6⟩:=hρ q2 asx (by simp);have hx:=R.t i;rw[hi]at hx;obtain⟨Wh,ob,h1,h2,h3,h4,h6,h5⟩:=dL (H:=⟨xs.c,xs.h,s.h⟩) R.h hx (by unfold dt;simp only;rw[hp];exact hb.1.1.1.1);simp only at h1 h3;rw[hp]at h1;cases h1;obtain⟨a1,a2,a3,a4⟩:=h4
  match bF:ob.rows,a4 with
  | [dX],a4=>
   obtain⟨b,bE,b1,b2,b3,b4,⟨σ,l,rfl,b5⟩,b6⟩:=zo R hc a4.1;obtain⟨bx,sk,e1,e2,e3,e4,⟨σx,lx,rfl,e5⟩,e6⟩:=zo R hcx a4.1;have hxc:XV ⟨xs.c,xs.h,s.h⟩ (.sl σ l) (.sl bE.rows):=by simp only[XV];exact .inr ⟨bE.rows,rfl,b5⟩
   have ir:XV ⟨xs.c,xs.h,s.h⟩ (.sl σx lx) (.sl sk.rows):=by simp only[XV];exact .inr ⟨sk.rows,rfl,e5⟩
   obtain⟨bS,g1,g2⟩:=kQ R τ hg (iS (j:=j2) (iS (j:=j) a4.1 hxc) ir) hF;have BO:jR s ρ F b (.ref q bE.rows.length):=by
    rcases b6 with⟨p2,rfl,rfl,b7⟩ | ⟨rfl,rfl,b7⟩
    ·exact .inr (.inl ⟨q,p2,_,rfl,r3,rfl⟩)
    ·rw[b7];exact .inr (.inr (.inr (.inl ⟨q,rfl,r3,rfl⟩)))
   have aqq:jR s ρ F bx (.ref q2 sk.rows.length):=by
    rcases e6 with⟨p2,rfl,rfl,b7⟩ | ⟨rfl,rfl,b7⟩
    ·exact .inr (.inl ⟨q2,p2,_,rfl,r5,rfl⟩)
    ·rw[b7];exact .inr (.inr (.inr (.inl ⟨q2,rfl,r5,rfl⟩)))
   obtain⟨k1,yx,k2,k3⟩:=qe (R':=fun x x'=>jR s ρ F x x') (fun _ _ h=>.inl h) (by grind) aqq g1;obtain⟨c1,_⟩:=qe (R':=fun x x'=>jR s ρ F x x') (fun _ _ h=>h) b1 BO k1;have g3:=g1;rw[List.set_comm _ _ hjj]at g3;obtain⟨_,y,c2,c3⟩:=qe (R':=fun x x'=>jR s ρ F x x') (fun _ _ h=>.inl h) (by grind) BO g3;have hy:y=.sl bE.rows:=by
    rcases c3 with⟨c3,_⟩ | ⟨_,_,_,c3,_⟩
    ·exact c3
    ·cases c3
   have hyx:yx=.sl sk.rows:=by
    rcases k3 with⟨c3,_⟩ | ⟨_,_,_,c3,_⟩
    ·exact c3
    ·cases c3
   subst hy;subst hyx;show ∃t',Part xs s ρ F (o::q::q2::names) (XN i o ty es j q Fm Gi j2 q2 Fl Gh (iF τ _) ys) t';unfold XN
   split
   ·rename_i σ' l' hj
    split
    ·rename_i σ'' l'' hj2
     have P8:=eo (H:=⟨ys.c,ys.h,t.h⟩) τ _ bS g2;obtain⟨y2,d1,d2⟩:=P8.at j _ hj;rw[c2]at d1;cases d1;simp only[XV]at d2;rcases d2 with⟨_,d3⟩ | ⟨rows2,d3,d4⟩
     ·cases d3
     cases d3
     obtain⟨y3,f1,f2⟩:=P8.at j2 _ hj2;rw[k2]at f1;cases f1;simp only[XV]at f2;rcases f2 with⟨_,f3⟩ | ⟨au4,f3,f4⟩
     ·cases f3
     cases f3
     have Q0:=Q.yP q2 (ob:=.t ys.c Fl Gh σ'' l'') (ob':=sk) rfl ⟨e2,e3,e4,f4⟩ (by
      rcases e6 with⟨p2,rfl,rfl,b7⟩ | ⟨rfl,rfl,b7⟩
      ·exact .inl ⟨p2,sk,r5,r6 p2 rfl,b7,uv f4⟩
      ·exact .inr ⟨r5,b7⟩)
     have Q1:=Q0.yP q (ob:=.t (ys.c+1) Fm Gi σ' l') (ob':=bE) rfl ⟨b2,b3,b4,d4⟩ (by
      rcases b6 with⟨p2,rfl,rfl,b7⟩ | ⟨rfl,rfl,b7⟩
      ·exact .inl ⟨p2,bE,r3,r4 p2 rfl,b7,uv d4⟩
      ·exact .inr ⟨r3,b7⟩)
     refine⟨_,Q1.ext i (v:=.ptr o 1 0 0) (ob':=⟨ty,es,true,[(bS.set j2 (.ref q2 sk.rows.length)).set j (.ref q bE.rows.length)]⟩) o rfl ⟨rfl,rfl,rfl,⟨iS (iS (eo τ _ bS g2) ?_) ?_,trivial⟩⟩ ?_ (.inl (.inr (.inr (.inl ⟨o,p,1,0,0,by rw[h5,bF];rfl,r1,rfl⟩)))) (.inl ⟨p,ob,r1,r2 p rfl,h3,?_,?_,?_⟩)⟩
     ·simp only[XV]
      exact⟨Nat.lt_succ_of_lt (aAF _),fun bn _ _=>⟨sk,by simp[Ne.symm hqq],rfl⟩⟩
     ·simp only[XV]
      exact⟨aAF _,fun bn _ _=>⟨bE,by simp,rfl⟩⟩
     ·simp only[XV]
      exact⟨aAF _,fun bn _ _=>⟨⟨ty,es,true,[(bS.set j2 (.ref q2 sk.rows.length)).set j (.ref q bE.rows.length)]⟩,by simp[St.ext],by simp,rfl⟩⟩
     ·show ty=ob.ty;rw[a1];exact(azV hb.1.1.1.2).symm
     ·show es=ob.es;rw[a2];exact(azV hb.1.1.2).symm
     ·rw[bF]
      exact⟨aJ.mono (fun a b h=>⟨h,fun h2=>by cases h2⟩) c1,trivial⟩
    ·exact⟨t,Q.skip (more:=[o,q,q2])⟩
   ·exact⟨t,Q.skip (more:=[o,q,q2])⟩
theorem MN{A B:Type}{a:Option (A×List Nat×je)}{b:Option (B×List Nat×je)}{p:A×B}{f:List Nat}{sr:je}(h:XQ a b=some (p,f,sr)):
  ∃f1 f2 s1 s2,a=some (p.1,f1,s1)∧b=some (p.2,f2,s2)∧f=f1++f2∧sr=s1++s2:=by
 unfold XQ at h
 grind
theorem Ez(R:RS xs s){ρ:Nat→Option Nat}{A:Type}{a:Option (A×List Nat×je)}{pt:A→br→br}:
  ∀(ds:List DK) (x:DsT.adS A ds) (f:List Nat) (sr:je),NJ xs a ds=some (x,f,sr)→(∀p∈f,F p)→(∀o p,(o,p)∈sr→ρ o=p∧∀q,p=some q→¬ F q)→
   (∀(y:A) (f:List Nat) (sr:je),a=some (y,f,sr)→(∀p∈f,F p)→(∀o p,(o,p)∈sr→ρ o=p∧∀q,p=some q→¬ F q)→∀(names:List Nat) (ys:br) (t:St),Part xs s ρ F names ys t→∃t',Part xs s ρ F (sr.map (·.1)++names) (pt y ys) t')→
   ∃t',Part xs s ρ F (sr.map (·.1)) (ZV pt ds x) t'
 | [],x,f,sr,h,hF,hρ,ha=>by
  obtain⟨t',h1⟩:=ha x f sr h hF hρ [] K1 _ (D8 ρ);exact⟨t',by rw[aAc]at h1;exact h1⟩
 | d::ds,x,f,sr,h,hF,hρ,ha=>by
  obtain⟨f1,f2,s1,s2,h1,h2,rfl,rfl⟩:=MN h;obtain⟨t1,q1⟩:=Ez R ds _ f2 s2 h2 (fun p hp=>hF p (aBe _ hp)) (fun o p hp=>hρ o p (aBe _ hp)) (pt:=DK.put d)
   (fun y f sr hy hF hρ names ys t Q=>Qp R d hy hF hρ Q)
  obtain⟨t2,q2⟩:=ha _ f1 s1 h1 (fun p hp=>hF p (aBd _ hp)) (fun o p hp=>hρ o p (aBd _ hp)) _ _ t1 q1;exact⟨t2,by rw[List.map_append];exact q2⟩
theorem ZW(R:RS xs s){ρ:Nat→Option Nat}(ds:List DK)(x:DsT ds)(f:List Nat)(sr:je)(h:ZX xs ds=some (x,f,sr))(hF:∀p∈f,F p)(hρ:∀o p,(o,p)∈sr→ρ o=p∧∀q,p=some q→¬ F q):
  ∃t',Part xs s ρ F (sr.map (·.1)) (aqP ds x) t':=by
 cases ds with
 | nil=>
  simp only[ZX,azN]at h;obtain⟨rfl,rfl,rfl⟩:=h;exact⟨_,D8 ρ⟩
 | cons d ds=>
  exact Ez R ds x f sr h hF hρ (fun y f sr hy hF hρ names ys t Q=>Qp R d hy hF hρ Q)
theorem Eh:∀{sr:je} {o:Nat} {p:Option Nat},sm o sr=some p→(o,p)∈sr
 | (o',q)::r,o,p,h=>by
  simp only[sm,eu]at h
  split at h
  ·grind
  ·exact az6 _ (Eh h)
 | [],_,_,h=>by cases h
theorem Bx:∀{sr:je} {o:Nat} {p:Option Nat},(sr.map (·.1)).Nodup→(o,p)∈sr→sm o sr=some p
 | (o',q)::r,o,p,hn,h=>by
  simp only[aAy,aBf]at hn;simp only[sm,eu];rcases azW.1 h with h | h
  ·grind
  ·have:o ≠ o':=fun e=>hn.1 (by grind)
   rw[azD this];exact Bx hn.2 h
 | [],_,_,_,h=>by cases h
theorem kR:∀{sr:je} {o p:Nat},(o,some p)∈sr→p∈kg sr
 | (o',none)::r,o,p,h=>by
  rcases azW.1 h with h | h
  ·cases h
  ·exact kR (sr:=r) h
 | (o',some q)::r,o,p,h=>by
  simp only[kg,azW];rcases azW.1 h with h | h
  ·grind
  ·exact .inr (kR h)
 | [],_,_,h=>by cases h
theorem wD:∀{sr:je} {o o' p:Nat},(kg sr).Nodup→(o,some p)∈sr→(o',some p)∈sr→(sr.map (·.1)).Nodup→o=o'
 | (q,none)::r,o,o',p,hn,h1,h2,h3=>by
  simp only[aAy,aBf]at h3;rcases azW.1 h1 with h1 | h1
  ·cases h1
  ·rcases azW.1 h2 with h2 | h2
   ·cases h2
   ·exact wD (sr:=r) hn h1 h2 h3.2
 | (q,some q')::r,o,o',p,hn,h1,h2,h3=>by
  simp only[kg,aBf]at hn;simp only[aAy,aBf]at h3;rcases azW.1 h1 with h1 | h1
  ·grind[kR]
  ·rcases azW.1 h2 with h2 | h2
   ·grind[kR]
   ·exact wD hn.2 h1 h2 h3.2
 | [],_,_,_,_,h,_,_=>by cases h
theorem Li(R:RS xs s){ρ:Nat→Option Nat}{sr:je}(hρ:∀o p,sm o sr=some p→ρ o=p)(F:Nat→Prop){names:List Nat}{ys:br}{t:St}(Q:Part xs s ρ F names ys t):∀(l:List (Nat×Nat)),ahr xs sr l=true→∃t',Part xs s ρ F names (yd ys l) t'∧t'.h=t.h∧(yd ys l).h=ys.h∧(yd ys l).c=ys.c
 | [],_=>⟨t,Q,rfl,rfl,rfl⟩
 | (i,o)::r,h=>by
  simp only[ahr,azF]at h;obtain⟨t1,q1,q2,q3,q4⟩:=Li R hρ F Q r h.2;simp only[yd];cases ho:ys.h o with
  | none=>
   simp only;exact⟨_,q1.put i (v:=.dead) (by grind[XV]) (.inl rfl),q2,q3,q4⟩
  | some ob=>
   simp only;obtain⟨k1,bE,k2,k3⟩:=Q.rs.h o ob ho;have hx:=R.t i;have h1:=h.1;have hXV:XV ⟨(yd ys r).c,(yd ys r).h,t1.h⟩ (.ref o ob.aU) (.ref o bE.rows.length):=by
    grind[XV]
   refine⟨_,q1.put i (v:=.ref o bE.rows.length) hXV (.inr (.inl ?_)),q2,q3,q4⟩
   split at h1<;>try (cases h1;done)
   ·rename_i p hl
    have VT:=hρ o _ hl
    split at h1<;>try (cases h1;done)
    rename_i q aU hi;simp only[azF]at h1;have:=azV h1.1;subst this;rw[hi]at hx;obtain⟨awG,sk,e1,e2,e3,e4,e5⟩:=cM (H:=⟨xs.c,xs.h,s.h⟩) R.h hx h1.2;rcases(Q.hh o bE k2).2 with⟨p',X4,f1,_,f3,f4⟩ | ⟨f1,_⟩
    ·rw[VT]at f1;cases f1
     simp only at e3;rw[f3]at e3;cases e3;have:=qY f4;exact .inr (.inl ⟨o,q,_,by rw[e5],VT,by rw[this]⟩)
    grind
   ·rename_i hl
    have VT:=hρ o _ hl
    split at h1<;>try (cases h1;done)
    rename_i hi;rw[hi]at hx;simp only[XV]at hx;rcases(Q.hh o bE k2).2 with⟨p',X4,f1,_,f3,f4⟩ | ⟨f1,f2⟩
    ·grind
    ·exact .inr (.inr (.inr (.inl ⟨o,hx,VT,by rw[f2];rfl⟩)))
theorem LD.amq(D:LD)(R:RS xs s){x:DsT D.ds}(h:D.get xs=some x){n:Nat}{w0:World}{I:rM}(hI:LnI I D.ln){A0:Nat→Prop}{a:Act}{w:World}(hR:RR w0 I A0 n s a w):∃s',RS (D.mk' x) s'∧RR w0 I A0 n s' a w:=by
 unfold LD.get at h
 split at h<;>try trivial
 rename_i v f sr hg;obtain⟨hb,h⟩:=aS h;have:=az9 h;subst this;simp only[azF]at hb;obtain⟨⟨⟨⟨b1,b2⟩,b3⟩,b4⟩,b5⟩:=hb;have n1:=lu b1;have n2:=lu b2
 let ρ:Nat→Option Nat:=fun o=>(sm o sr).getD none
 have hρ:∀o p,sm o sr=some p→ρ o=p:=fun o p hl=>by simp[ρ,hl]
 have Kk:∀o p,ρ o=some p→(o,some p)∈sr:=fun o p hp=>by
  simp only[ρ]at hp;cases hl:sm o sr with
  | none=>grind
  | some q=>grind[Eh]
 obtain⟨t,Q⟩:=ZW (F:=fun p=>p∈f) R (ρ:=ρ) D.ds v f sr hg (fun p hp=>hp) (fun o p hp=>⟨hρ o p (Bx n1 hp),fun q hq hF=>by
  subst hq;have h1:=azU.1 b3 q hF;simp only[aAi]at h1;rw[oG.2 (kR hp)]at h1;grind⟩)
 obtain⟨t',Q',_⟩:=Li R hρ _ Q D.als b4;obtain⟨β,A,hR⟩:=hR;refine⟨t',Q'.rs,_,_,hR.reshape ⟨Q'.tt,fun o ob' ho=>(Q'.hh o ob' ho).2,fun o o' p h1 h2=>wD n2 (Kk o p h1) (Kk o' p h2) n1⟩ (fun p ob b hFp _ _=>?_) fun o ob' hqo ho=>?_⟩
 ·rcases hI with hI | hI
  ·grind
  ·cases hl:D.ln with
   | zero=>omega
   | succ m=>
    rw[hl]at b5;have h0:f=[]:=by simpa using(aAk.1 b5).1
    grind
 ·rcases hI with hI | hI
  ·grind
  ·cases hl:D.ln with
   | zero=>omega
   | succ m=>
    rw[hl]at b5 hI;have fQ:=azU.1 (aAk.1 b5).2;have iH:=hI.2 o hqo;have e1:Nat.ble 500 o=true:=by simp_all
    have e2:Nat.blt o (500+(m+1))=true:=by simp_all
    have key:∀p,(o,p)∈sr→p=some o:=fun p hp=>by
     have h1:=fQ _ hp;cases p with
     | none=>grind
     | some p=>
      simp only[e1,e2,azQ,aBr,Bool.or_false]at h1;rw[azV h1]
    have hex:o∈sr.map (·.1):=(Q'.hh o ob' ho).1;obtain⟨⟨o',p⟩,hp,he⟩:=az4.1 hex;simp only at he;subst he;have h9:=key p hp;rw[h9]at hp;exact hρ o' (some o') (Bx n1 hp)
end
end Go.AL
