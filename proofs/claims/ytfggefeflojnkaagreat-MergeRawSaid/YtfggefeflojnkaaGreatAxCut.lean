/- By an AI agent. -/
import Derived.Test.YtfggefeflojnkaaGreatAlResh
set_option linter.unusedSimpArgs false
set_option linter.unusedVariables false
namespace Go.AL
def D4{A:Type}(f:A→X):(ts:List (List Ty))→nS.s0 A ts→List X
 | [],x=>[f x]
 | τ::ts,x=>f (Prod.fst x)::D4 (fun(y:az τ)=>.cp (iw τ y) 0) ts (Prod.snd x)
def ab5:(ts:List (List Ty))→nS ts→List X
 | [],_=>[]
 | τ::ts,x=>D4 (fun(y:az τ)=>.cp (iw τ y) 0) ts x
theorem RH{H:jR}:∀(ts:List (List Ty)) (x:nS ts) (vs:List V),Da ts x vs→bj H (ab5 ts x) vs∧∀y∈ab5 ts x,y.FV H.c:=by
 have key:∀(ts:List (List Ty)) {A:Type} (f:A→X) (R:A→V→Prop),(∀x v,R x v→XV H (f x) v∧(f x).FV H.c)→∀(x:nS.s0 A ts) (vs:List V),rI R ts x vs→bj H (D4 f ts x) vs∧∀y∈D4 f ts x,y.FV H.c:=by
  intro ts;induction ts with
  | nil=>
   intro A f R hf x vs h;simp only[rI]at h;obtain⟨v,rfl,hv⟩:=h;simp only[D4,bj];exact⟨⟨v,[],rfl,(hf _ _ hv).1,rfl⟩,fun y hy=>by simp at hy;subst hy;exact(hf _ _ hv).2⟩
  | cons τ ts ih=>
   intro A f R hf x vs h;simp only[rI]at h;obtain⟨v,r,rfl,hv,hr⟩:=h;obtain⟨e1,e2⟩:=ih (fun(y:az τ)=>.cp (iw τ y) 0) (fun(y:az τ) v=>∃row,v=.cp row 0∧cD τ y row) (fun x v h=>by
    obtain⟨row,rfl,h⟩:=h;exact⟨by simp only[XV];exact⟨row,rfl,eO τ x row h⟩,trivial⟩) _ r hr
   simp only[D4,bj];refine⟨⟨v,r,rfl,(hf _ _ hv).1,e1⟩,fun y hy=>?_⟩;rcases aCJ.1 hy with rfl | hy
   ·exact(hf _ _ hv).2
   ·exact e2 y hy
 intro ts x vs h;cases ts with
 | nil=>simp only[Da]at h;subst h;simp only[ab5,bj];exact⟨trivial,fun y hy=>by simp at hy⟩
 | cons τ ts=>
  simp only[Da]at h;exact key ts _ _ (fun x v h=>by
    obtain⟨row,rfl,h⟩:=h;exact⟨by simp only[XV];exact⟨row,rfl,eO τ x row h⟩,trivial⟩) x vs h
def cpG(τ:List Ty):X→Option (az τ)
 | .cp row 0=>yS τ row
 | _=>none
def D7{A:Type}(f:X→Option A):(ts:List (List Ty))→List X→Option (nS.s0 A ts)
 | []=>fun xs=>match xs with
  | [x]=>f x
  | _=>none
 | τ::ts=>fun xs=>match xs with
  | x::r=>lA (f x) (D7 (cpG τ) ts r)
  | []=>none
def ab7:(ts:List (List Ty))→List X→Option (nS ts)
 | []=>fun xs=>match xs with
  | []=>some ()
  | _=>none
 | τ::ts=>fun xs=>D7 (cpG τ) ts xs
theorem N3{H:jR}{τ:List Ty}{x:X}{y:az τ}{v:V}(h:cpG τ x=some y)(hv:XV H x v):(∃row,v=.cp row 0∧cD τ y row)∧x.FR H:=by
 unfold cpG at h
 split at h<;>try (cases h;done)
 simp only[XV]at hv;obtain⟨vs,rfl,hv⟩:=hv;exact⟨⟨vs,rfl,gO τ _ y vs h hv⟩,trivial⟩
theorem K5{H:jR}{A:Type}{f:X→Option A}{R:A→V→Prop}(hf:∀x a v,f x=some a→XV H x v→R a v):∀(ts:List (List Ty)) (xs:List X) (a:nS.s0 A ts) (vs:List V),D7 f ts xs=some a→bj H xs vs→rI R ts a vs
 | [],xs,a,vs,h,hv=>by
  match xs,h,hv with
  | [x],h,hv=>
   have h:f x=some a:=h;simp only[bj]at hv;obtain⟨v,r,rfl,h1,rfl⟩:=hv;simp only[rI];exact⟨v,rfl,hf x a v h h1⟩
 | τ::ts,xs,a,vs,h,hv=>by
  match xs,h,hv with
  | x::r,h,hv=>
   have h:lA (f x) (D7 (cpG τ) ts r)=some a:=h;obtain⟨ha,hr⟩:=gI h;simp only[bj]at hv;obtain⟨v,r',rfl,h1,h2⟩:=hv;simp only[rI];exact⟨v,r',rfl,hf x _ v ha h1,K5 (R:=fun(y:az τ) v=>∃row,v=.cp row 0∧cD τ y row) (fun x a v Ra hxv=>(N3 Ra hxv).1) ts r _ r' hr h2⟩
theorem ab6{H:jR}(ts:List (List Ty))(xs:List X)(a:nS ts)(vs:List V)(h:ab7 ts xs=some a)(hv:bj H xs vs):Da ts a vs:=by
 cases ts with
 | nil=>
  match xs,h,hv with
  | [],h,hv=>simp only[bj]at hv;subst hv;simp only[Da]
 | cons τ ts=>
  simp only[Da];exact K5 (R:=fun(y:az τ) v=>∃row,v=.cp row 0∧cD τ y row) (fun x a v Ra hxv=>(N3 Ra hxv).1) ts xs a vs h hv
theorem D6{H:jR}{A:Type}{f:X→Option A}(hf:∀x a,f x=some a→∃row,x=.cp row 0):∀(ts:List (List Ty)) (xs:List X) (a:nS.s0 A ts),D7 f ts xs=some a→∀x∈xs,∃row,x=.cp row 0
 | [],xs,a,h=>by
  match xs,h with
  | [x],h=>intro y hy;rw[aDi.1 hy];exact hf x a h
 | τ::ts,xs,a,h=>by
  match xs,h with
  | x::r,h=>
   have h:lA (f x) (D7 (cpG τ) ts r)=some a:=h;obtain⟨ha,hr⟩:=gI h;intro y hy;rcases aCJ.1 hy with rfl | hy
   ·exact hf _ _ ha
   ·exact D6 (H:=H) (fun x a h=>by unfold cpG at h;split at h<;>first | exact⟨_,rfl⟩ | cases h) ts r _ hr y hy
theorem D5(ts:List (List Ty))(xs:List X)(a:nS ts)(h:ab7 ts xs=some a):∀x∈xs,∃row,x=.cp row 0:=by
 cases ts with
 | nil=>
  match xs,h with
  | [],h=>intro x hx;cases hx
 | cons τ ts=>exact D6 (H:=⟨0,fun _=>none,fun _=>none⟩) (fun x a h=>by unfold cpG at h;split at h<;>first | exact⟨_,rfl⟩ | cases h) ts xs a h
inductive DK where
 | c (i:Nat) (t:Ty)
 | g (i:Nat) (τ:List Ty)
 | rd (i:Nat) (τ:List Ty)
 | list (i o ty es:Nat) (τ:List Ty)
 | arr (i o ty es:Nat) (τ:List Ty)
 | box (i o ty es:Nat) (τ:List Ty)
 | ajW (i o ty es:Nat) (τ:List Ty) (j q tyq esq:Nat)
 | cp (i:Nat) (τ:List Ty)
 | fn (i:Nat) (f:FuncId) (bZ:List (List Ty))
def DK.T:DK→Type
 | .c _ t=>t.T
 | .g _ τ=>az τ
 | .rd _ τ=>List (az τ)
 | .list _ _ _ _ τ=>List (az τ)
 | .arr _ _ _ _ τ=>List (az τ)
 | .box _ _ _ _ τ=>az τ
 | .ajW _ _ _ _ τ _ _ _ _=>az τ
 | .cp _ τ=>az τ
 | .fn _ _ bZ=>nS bZ
def DsT:List DK→Type
 | []=>Unit
 | d::ds=>afD d.T ds
where
 afD (A:Type):List DK→Type
 | []=>A
 | d::ds=>A×afD d.T ds
abbrev iV:=List (Nat×Option Nat)
def aaf(h:Nat→Option dy)(ty es:Nat):Option Ty→Option X→Option (X×Option Nat)
 | some (.sl σ),some .nil=>some (.sl σ [],none)
 | some (.sl σ),some (.ref p bf)=>match h p with
  | some (.t v mG lL σ' l)=>if hτ:ez σ' σ=true then bif Nat.beq v bf&&Nat.beq mG ty&&Nat.beq lL es then some (.sl σ (iI l hτ),some p)else none else none
  | some (.u v mG lL imp rows)=>bif Nat.beq v bf&&Nat.beq mG ty&&Nat.beq lL es&&!imp then(match jm σ rows with
   | some l=>some (.sl σ l,some p)
   | none=>none)else none
  | none=>none
 | _,_=>none
def DK.get(xs:bF)(d:DK):Option (d.T×List Nat×iV):=match d with
 | .c i t=>match TL xs.h t (xs.t i)with
  | some (v,f)=>some (v,f,[])
  | none=>none
 | .g i τ=>match xs.t i with
  | .agg true cs=>(match uk xs.h τ cs with
   | some (v,f)=>some (v,f,[])
   | none=>none)
  | .agg false cs=>(match yS τ cs with
   | some v=>some (v,[],[])
   | none=>none)
  | _=>none
 | .rd i τ=>match xs.t i with
  | .rd σ l=>if hτ:ez σ τ=true then some (iI l hτ,[],[])else none
  | _=>none
 | .list i o ty es τ=>match xs.t i with
  | .nil=>some ([],[],[(o,none)])
  | .ref p bf=>(match xs.h p with
   | some (.t v mG lL σ l)=>if hτ:ez σ τ=true then bif Nat.beq v bf&&Nat.beq mG ty&&Nat.beq lL es then some (iI l hτ,[],[(o,some p)])else none else none
   | some (.u v mG lL imp rows)=>bif Nat.beq v bf&&Nat.beq mG ty&&Nat.beq lL es&&!imp then(match jm τ rows with
    | some l=>some (l,[],[(o,some p)])
    | none=>none)else none
   | none=>none)
  | _=>none
 | .arr i o ty es τ=>match xs.t i with
  | .ptr p bf 0 0=>(match xs.h p with
   | some (.t v mG lL σ l)=>if hτ:ez σ τ=true then bif Nat.beq v bf&&Nat.beq mG ty&&Nat.beq lL es then some (iI l hτ,[],[(o,some p)])else none else none
   | _=>none)
  | _=>none
 | .box i o ty es τ=>match xs.t i with
  | .ptr p bf 0 0=>(match xs.h p with
   | some (.u v mG lL imp [row])=>bif Nat.beq v bf&&Nat.beq mG ty&&Nat.beq lL es then(match uk xs.h τ row with
    | some (v,f)=>some (v,f,[(o,some p)])
    | none=>none)else none
   | _=>none)
  | _=>none
 | .ajW i o ty es τ j q tyq esq=>match xs.t i with
  | .ptr p bf 0 0=>(match xs.h p with
   | some (.u v mG lL imp [row])=>bif Nat.beq v bf&&Nat.beq mG ty&&Nat.beq lL es then(match aaf xs.h tyq esq τ[j]? row[j]? with
    | some (ce,src)=>(match uk xs.h τ (row.set j ce)with
     | some (v,f)=>some (v,f,[(o,some p),(q,src)])
     | none=>none)
    | none=>none)else none
   | _=>none)
  | _=>none
 | .cp i τ=>match cpG τ (xs.t i)with
  | some v=>some (v,[],[])
  | none=>none
 | .fn i f bZ=>match xs.t i with
  | .fn fid l=>bif Nat.beq fid f then(match ab7 bZ l with
   | some v=>some (v,[],[])
   | none=>none)else none
  | _=>none
def ZN{A B:Type}(a:Option (A×List Nat×iV))(b:Option (B×List Nat×iV)):Option ((A×B)×List Nat×iV):=match a with
 | some (a,f,s)=>match b with
  | some (b,g,t)=>some ((a,b),f++g,s++t)
  | none=>none
 | none=>none
def NZ{A:Type}(xs:bF)(a:Option (A×List Nat×iV)):(ds:List DK)→Option (DsT.afD A ds×List Nat×iV)
 | []=>a
 | d::ds=>ZN a (NZ xs (d.get xs) ds)
def abG(xs:bF):(ds:List DK)→Option (DsT ds×List Nat×iV)
 | []=>some ((),[],[])
 | d::ds=>NZ xs (d.get xs) ds
structure LD where
 ds:List DK
 als:List (Nat×Nat)
 ln:Nat:=0
def j8:iV→List Nat
 | []=>[]
 | (_,some p)::r=>p::j8 r
 | (_,none)::r=>j8 r
def alj(a b:List Nat):Bool:=a.all fun x=>!Nu x b
def sU(o:Nat):iV→Option (Option Nat)
 | []=>none
 | (o',p)::r=>bif Nat.beq o o' then some p else sU o r
def aj6(xs:bF)(sr:iV):List (Nat×Nat)→Bool
 | []=>true
 | (i,o)::r=>(match sU o sr with
  | some (some p)=>(match xs.t i with
   | .ref q bf=>Nat.beq q p&&dv xs.h p bf
   | _=>false)
  | some none=>(match xs.t i with
   | .nil=>true
   | _=>false)
  | none=>false)&&aj6 xs sr r
def avI(ln:Nat)(f:List Nat)(sr:iV):Bool:=match ln with
 | 0=>true
 | n+1=>f.isEmpty&&sr.all fun q=>match q with
  | (o,some p)=>Nat.beq o p || !(Nat.ble 500 o&&Nat.blt o (500+(n+1)))
  | (o,none)=>!(Nat.ble 500 o&&Nat.blt o (500+(n+1)))
def LnI(I:sy)(ln:Nat):Prop:=((∀b,¬ I.P b)∧∀o,¬ I.q o)∨(0<ln∧∀o,I.q o→500≤o∧o<500+ln)
def LD.get(D:LD)(xs:bF):Option (DsT D.ds):=match abG xs D.ds with
 | some (v,f,sr)=>bif oU (sr.map (·.1))&&oU (j8 sr)&&alj f (j8 sr)&&aj6 xs sr D.als&&avI D.ln f sr then some v else none
 | none=>none
def bF.ext(s:bF)(i:Nat)(x:X)(o:Nat)(ob:dy):bF:=⟨fun j=>bif Nat.beq j i then x else s.t j,fun p=>bif Nat.beq p o then some ob else s.h p,s.c+1⟩
def bF.KU(s:bF)(o:Nat)(ob:dy):bF:=⟨s.t,fun p=>bif Nat.beq p o then some ob else s.h p,s.c+1⟩
def anL(i o ty es j q tyq esq:Nat)(cs:List X)(s:bF):bF:=match cs[j]? with
 | some (.sl σ l)=>(s.KU q (.t s.c tyq esq σ l)).ext i (.ptr o (s.c+1) 0 0) o (.u (s.c+1) ty es true [cs.set j (.ref q s.c)])
 | _=>s
def DK.put(d:DK)(x:d.T)(s:bF):bF:=match d with
 | .c i t=>s.put (some i) (lP t x)
 | .g i τ=>s.put (some i) (.agg false (iw τ x))
 | .rd i τ=>s.put (some i) (.rd τ x)
 | .list i o ty es τ=>s.ext i (.ref o s.c) o (.t s.c ty es τ x)
 | .arr i o ty es τ=>s.ext i (.ptr o s.c 0 0) o (.t s.c ty es τ x)
 | .box i o ty es τ=>s.ext i (.ptr o s.c 0 0) o (.u s.c ty es false [iw τ x])
 | .ajW i o ty es τ j q tyq esq=>anL i o ty es j q tyq esq (iw τ x) s
 | .cp i τ=>s.put (some i) (.cp (iw τ x) 0)
 | .fn i f bZ=>s.put (some i) (.fn f (ab5 bZ x))
def Lh:bF:=⟨fun _=>.dead,fun _=>none,0⟩
def abE{A:Type}(f:A→bF→bF):(ds:List DK)→DsT.afD A ds→bF
 | [],x=>f x Lh
 | d::ds,x=>f (Prod.fst x) (abE (DK.put d) ds (Prod.snd x))
def atL:(ds:List DK)→DsT ds→bF
 | [],_=>Lh
 | d::ds,x=>abE (DK.put d) ds x
def yb(s:bF):List (Nat×Nat)→bF
 | []=>s
 | (i,o)::r=>(yb s r).put (some i) (match s.h o with
  | some ob=>.ref o ob.bf
  | none=>.dead)
def LD.mk'(D:LD)(x:DsT D.ds):bF:=yb (atL D.ds x) D.als
section
variable {xs:bF} {s:St} {F:Nat→Prop}
theorem Ay{τ:List Ty}{y:az τ}{row:List V}(h:cD τ y row):aP (iE s F) row row:=by
 have h1:=fX τ y row h;have:∀(l:List V),(∀y∈l,bN y)→aP (iE s F) l l:=by
  intro l;induction l with
  | nil=>intro _;trivial
  | cons x l ih=>
   intro hl;refine⟨.inl ⟨rfl,?_⟩,ih (fun y hy=>hl y (aCQ _ hy))⟩;have:=hl x (aCK ..);cases this<;>exact⟨rfl,fun cs h=>by cases h⟩
 exact this row h1
theorem Fo{ρ:Nat→Option Nat}{τ:List Ty}{l:List (az τ)}{ob:Ob}(h:bK τ l ob.rows):obR s ρ F ob ob:=by
 refine⟨rfl,rfl,?_⟩;have:∀(l:List (az τ)) (rows:List (List V)),bK τ l rows→aP (aP fun x x'=>vt s ρ F x x'∧(ob.imp=false→iE s F x x')) rows rows:=by
  intro l;induction l with
  | nil=>intro rows h;cases rows with
   | nil=>trivial
   | cons _ _=>exact h.elim
  | cons x l ih=>intro rows h;cases rows with
   | nil=>exact h.elim
   | cons row rows=>exact⟨aP.mono (fun a b h=>⟨.inl h,fun _=>h⟩) (Ay h.1),ih rows h.2⟩
 exact this l ob.rows h
def St.ext(s:St)(i:Nat)(v:V)(o:Nat)(ob:Ob):St:=⟨fun j=>if j=i then v else s.t j,fun p=>if p=o then some ob else s.h p⟩
theorem RS.aw9{ys:bF}{t:St}(R:RS ys t)(i:Nat){x:X}{v:V}(o:Nat){ob:dy}{ob':Ob}(uR:ob.bf=ys.c)(cA:fV ⟨ys.c,ys.h,t.h⟩ ob ob')(hv:XV ⟨ys.c+1,(ys.ext i x o ob).h,(t.ext i v o ob').h⟩ x v):RS (ys.ext i x o ob) (t.ext i v o ob'):=by
 have L:LX (fun _=>false) ⟨ys.c,ys.h,t.h⟩ ⟨ys.c+1,(ys.ext i x o ob).h,(t.ext i v o ob').h⟩:=by
  refine⟨aEb _,fun p cS h1 h2=>?_⟩;simp only[bF.ext,eG]at h1;by_cases hp:p=o
  ·rw[aCr hp]at h1;cases h1;simp only at h2;omega
  ·rw[aCo hp]at h1
   exact⟨rfl,⟨cS,h1,rfl⟩,fun bM h3=>⟨bM,by simp only[St.ext];rw[aCo hp];exact h3,rfl⟩⟩
 refine⟨fun j=>?_,fun p bD h=>?_⟩
 ·show XV _ (bif Nat.beq j i then x else ys.t j) (if j=i then v else t.t j)
  rw[eG];by_cases hj:j=i
  ·rw[aCr hj,aCr hj];exact hv
  ·rw[aCo hj,aCo hj];exact XV.frame L _ _ (R.t j)
 ·have h':=h
  simp only[bF.ext,eG]at h;by_cases hp:p=o
  ·rw[aCr hp]at h;cases h;subst hp
   refine⟨by show ob.bf<ys.c+1;omega,ob',by simp[St.ext],?_⟩;have:=cA.frame L;rw[Ob.bV]at this;exact this
  ·rw[aCo hp]at h
   obtain⟨h1,bM,h2,h3⟩:=R.h p bD h;refine⟨by show bD.bf<ys.c+1;omega,bM,by simp[St.ext,hp,h2],?_⟩;have:=h3.frame L;rw[Ob.bV]at this;exact this
structure Part (xs:bF) (s:St) (ρ:Nat→Option Nat) (F:Nat→Prop) (names:List Nat) (ys:bF) (t:St):Prop where
 rs:RS ys t
 tt:∀i,t.t i=.dead∨JR s ρ F (s.t i) (t.t i)
 hh:∀o ob',t.h o=some ob'→o∈names∧((∃p ob,ρ o=some p∧¬ F p∧s.h p=some ob∧obR s ρ F ob ob')∨(ρ o=none∧ob'.rows=[]))
theorem DD(ρ:Nat→Option Nat):Part xs s ρ F [] Lh ⟨fun _=>.dead,fun _=>none⟩:=
 ⟨⟨fun i=>by simp only[Lh,XV],fun o bD h=>by cases h⟩,fun i=>.inl rfl,fun o ob' h=>by cases h⟩
theorem Part.put{ρ:Nat→Option Nat}{names:List Nat}{ys:bF}{t:St}(Q:Part xs s ρ F names ys t)(i:Nat){x:X}{v:V}(hx:XV ⟨ys.c,ys.h,t.h⟩ x v)(hr:v=.dead∨JR s ρ F (s.t i) v):Part xs s ρ F names (ys.put (some i) x) (t.put (some i) v):=by
 refine⟨Q.rs.Ug (some i) hx,fun j=>?_,Q.hh⟩;simp only[St.put]
 split
 ·rename_i hj;subst hj;exact hr
 ·exact Q.tt j
theorem Part.ext{ρ:Nat→Option Nat}{names:List Nat}{ys:bF}{t:St}(Q:Part xs s ρ F names ys t)(i:Nat){x:X}{v:V}(o:Nat){ob:dy}{ob':Ob}(uR:ob.bf=ys.c)(cA:fV ⟨ys.c,ys.h,t.h⟩ ob ob')
  (hv:XV ⟨ys.c+1,(ys.ext i x o ob).h,(t.ext i v o ob').h⟩ x v) (hr:JR s ρ F (s.t i) v)
  (ho:(∃p ob,ρ o=some p∧¬ F p∧s.h p=some ob∧obR s ρ F ob ob')∨(ρ o=none∧ob'.rows=[])):Part xs s ρ F (o::names) (ys.ext i x o ob) (t.ext i v o ob'):=by
 refine⟨Q.rs.aw9 i o uR cA hv,fun j=>?_,fun p bM h=>?_⟩
 ·simp only[St.ext]
  split
  ·rename_i hj;subst hj;exact .inr hr
  ·exact Q.tt j
 ·simp only[St.ext]at h
  split at h
  ·rename_i hp;cases h;subst hp;exact⟨aCK ..,ho⟩
  ·obtain⟨h1,h2⟩:=Q.hh p bM h;exact⟨aCQ _ h1,h2⟩
theorem RS.atG{ys:bF}{t:St}(R:RS ys t)(o:Nat){ob:dy}{ob':Ob}(uR:ob.bf=ys.c)(cA:fV ⟨ys.c,ys.h,t.h⟩ ob ob'):RS (ys.KU o ob) ⟨t.t,fun p=>if p=o then some ob' else t.h p⟩:=by
 have L:LX (fun _=>false) ⟨ys.c,ys.h,t.h⟩ ⟨ys.c+1,(ys.KU o ob).h,fun p=>if p=o then some ob' else t.h p⟩:=by
  refine⟨aEb _,fun p cS h1 h2=>?_⟩;simp only[bF.KU,eG]at h1;by_cases hp:p=o
  ·rw[aCr hp]at h1;cases h1;simp only at h2;omega
  ·rw[aCo hp]at h1
   exact⟨rfl,⟨cS,h1,rfl⟩,fun bM h3=>⟨bM,by simp only;rw[aCo hp];exact h3,rfl⟩⟩
 refine⟨fun j=>XV.frame L _ _ (R.t j),fun p bD h=>?_⟩;have h':=h;simp only[bF.KU,eG]at h;by_cases hp:p=o
 ·rw[aCr hp]at h;cases h;subst hp
  refine⟨by show ob.bf<ys.c+1;omega,ob',by simp,?_⟩;have:=cA.frame L;rw[Ob.bV]at this;exact this
 ·rw[aCo hp]at h
  obtain⟨h1,bM,h2,h3⟩:=R.h p bD h;refine⟨by show bD.bf<ys.c+1;omega,bM,by simp[hp,h2],?_⟩;have:=h3.frame L;rw[Ob.bV]at this;exact this
theorem Part.KU{ρ:Nat→Option Nat}{names:List Nat}{ys:bF}{t:St}(Q:Part xs s ρ F names ys t)(o:Nat){ob:dy}{ob':Ob}(uR:ob.bf=ys.c)(cA:fV ⟨ys.c,ys.h,t.h⟩ ob ob')
  (ho:(∃p ob,ρ o=some p∧¬ F p∧s.h p=some ob∧obR s ρ F ob ob')∨(ρ o=none∧ob'.rows=[])):Part xs s ρ F (o::names) (ys.KU o ob) ⟨t.t,fun p=>if p=o then some ob' else t.h p⟩:=by
 refine⟨Q.rs.atG o uR cA,Q.tt,fun p bM h=>?_⟩;simp only at h
 split at h
 ·rename_i hp;cases h;subst hp;exact⟨aCK ..,ho⟩
 ·obtain⟨h1,h2⟩:=Q.hh p bM h;exact⟨aCQ _ h1,h2⟩
theorem QZ(R:RS xs s){ty es j:Nat}{τ:List Ty}{row:List X}{gk:List V}{c:X}{src:Option Nat}(h:aaf xs.h ty es τ[j]? row[j]? = some (c,src))(hv:bj ⟨xs.c,xs.h,s.h⟩ row gk):
  ∃b bM,gk[j]? = some b∧bM.ty=ty∧bM.es=es∧bM.imp=false∧(∃σ l,c=.sl σ l∧bK σ l bM.rows)∧((∃p2,src=some p2∧b=.ref p2 bM.rows.length∧s.h p2=some bM)∨(src=none∧b=.nil∧bM.rows=[])):=by
 cases hx:row[j]? with
 | none=>rw[hx]at h;unfold aaf at h;split at h<;>simp_all
 | some x=>
  obtain⟨b,hb,hxb⟩:=hv.at j x hx;rw[hx]at h;unfold aaf at h
  split at h<;>try (cases h;done)
  ·rename_i σ h1 h2
   cases h2
   simp only[aCA,aCH]at h;obtain⟨rfl,rfl⟩:=h;simp only[XV]at hxb;exact⟨b,⟨ty,es,false,[]⟩,hb,rfl,rfl,rfl,⟨σ,[],rfl,trivial⟩,.inr ⟨rfl,hxb,rfl⟩⟩
  ·rename_i σ p bf h1 h2
   cases h2
   split at h<;>try (cases h;done)
   ·rename_i v mG lL σ' l ho
    split at h<;>try (cases h;done)
    rename_i hτ;obtain⟨hc,h⟩:=bg h;simp only[aCs]at hc;simp only[aCA,aCH]at h;obtain⟨rfl,rfl⟩:=h;obtain⟨bD,ob,g1,g2,g3,g4,rfl⟩:=cQ (H:=⟨xs.c,xs.h,s.h⟩) R.h hxb (by unfold dv;simp only;rw[ho];exact hc.1.1);simp only at g1 g3;rw[ho]at g1;cases g1;obtain⟨k1,k2,k3,k4⟩:=g4;exact⟨_,ob,hb,k1.trans (aCI hc.1.2),k2.trans (aCI hc.2),k3,⟨σ,_,rfl,(cC _ hτ _).2 k4⟩,.inl ⟨p,rfl,rfl,g3⟩⟩
   ·rename_i v mG lL imp rows ho
    obtain⟨hc,h⟩:=bg h;simp only[aCs,aDe]at hc
    split at h<;>try (cases h;done)
    rename_i l hl;simp only[aCA,aCH]at h;obtain⟨rfl,rfl⟩:=h;obtain⟨bD,ob,g1,g2,g3,g4,rfl⟩:=cQ (H:=⟨xs.c,xs.h,s.h⟩) R.h hxb (by unfold dv;simp only;rw[ho];exact hc.1.1.1);simp only at g1 g3;rw[ho]at g1;cases g1;obtain⟨k1,k2,k3,k4⟩:=g4;exact⟨_,ob,hb,k1.trans (aCI hc.1.1.2),k2.trans (aCI hc.1.2),k3.trans hc.2,⟨σ,l,rfl,dq hl k4⟩,.inl ⟨p,rfl,rfl,g3⟩⟩
theorem BM{R R':V→V→Prop}(hR:∀x x',R x x'→R' x x'):∀{j:Nat} {vs cI:List V} {a b c:V},vs[j]? = some b→R' b c→aP R (vs.set j a) cI→aP R' vs (cI.set j c)∧∃y,cI[j]? = some y∧R a y
 | 0,v::vs,w::cI,a,b,c,h,hb,hA=>by
  simp at h;subst h;obtain⟨h1,h2⟩:=hA;exact⟨⟨hb,aP.mono (fun x y h=>hR x y h) h2⟩,w,rfl,h1⟩
 | j+1,v::vs,w::cI,a,b,c,h,hb,hA=>by
  obtain⟨h1,h2⟩:=hA;obtain⟨i1,i2⟩:=BM hR (j:=j) (by simpa using h) hb h2;exact⟨⟨hR _ _ h1,i1⟩,i2⟩
 | _,[],_,_,_,_,h,_,_=>by simp at h
 | 0,v::vs,[],_,_,_,_,_,hA=>hA.elim
 | j+1,v::vs,[],_,_,_,_,_,hA=>hA.elim
theorem Part.skip{ρ:Nat→Option Nat}{names more:List Nat}{ys:bF}{t:St}(Q:Part xs s ρ F names ys t):Part xs s ρ F (more++names) ys t:=
 ⟨Q.rs,Q.tt,fun o ob' h=>by obtain⟨h1,h2⟩:=Q.hh o ob' h;exact⟨aDw _ h1,h2⟩⟩
theorem Rp(R:RS xs s){ρ:Nat→Option Nat}(d:DK){x:d.T}{f:List Nat}{sr:iV}(h:d.get xs=some (x,f,sr))(hF:∀p∈f,F p)(hρ:∀o p,(o,p)∈sr→ρ o=p∧∀q,p=some q→¬ F q)
  {names:List Nat} {ys:bF} {t:St} (Q:Part xs s ρ F names ys t):∃t',Part xs s ρ F (sr.map (·.1)++names) (d.put x ys) t':=by
 cases d with
 | c i ty=>
  simp only[DK.get]at h
  split at h<;>try (cases h;done)
  rename_i v g hg;simp only[aCA,aCH]at h;obtain⟨rfl,rfl,rfl⟩:=h;obtain⟨v',h1,h2⟩:=zd R ty hg (R.t i) hF;exact⟨_,Q.put i (vq ty _ v' h2) (.inr (.inl (.inl h1)))⟩
 | g i τ=>
  simp only[DK.get]at h
  split at h<;>try (cases h;done)
  ·rename_i cs xj
   split at h<;>try (cases h;done)
   rename_i v g hg;simp only[aCA,aCH]at h;obtain⟨rfl,rfl,rfl⟩:=h;have hx:=R.t i;rw[xj]at hx;simp only[XV]at hx;obtain⟨vs,e1,e2⟩:=hx;obtain⟨cI,h1,h2⟩:=kX R τ hg e2 hF;exact⟨_,Q.put i (v:=.agg cI) (by simp only[XV];exact⟨cI,rfl,eO τ _ cI h2⟩) (.inr (.inr (.inr (.inl ⟨vs,cI,e1,rfl,h1⟩))))⟩
  ·rename_i cs xj
   split at h<;>try (cases h;done)
   rename_i v hg;simp only[aCA,aCH]at h;obtain⟨rfl,rfl,rfl⟩:=h;have hx:=R.t i;rw[xj]at hx;simp only[XV]at hx;obtain⟨vs,e1,e2⟩:=hx;have h2:=gO τ cs _ vs hg e2;exact⟨_,Q.put i (v:=.agg vs) (by simp only[XV];exact⟨vs,rfl,eO τ _ vs h2⟩) (.inr (.inr (.inl ⟨by rw[e1];rfl,.inr (.inr (.inl ⟨vs,e1⟩))⟩)))⟩
 | rd i τ=>
  simp only[DK.get]at h
  split at h<;>try (cases h;done)
  rename_i σ l hl
  split at h<;>try (cases h;done)
  rename_i hτ;simp only[aCA,aCH]at h;obtain⟨rfl,rfl,rfl⟩:=h;have hx:=R.t i;rw[hl]at hx;simp only[XV]at hx;obtain⟨rows,e1,e2⟩:=hx;exact⟨_,Q.put i (v:=.rd rows) (by simp only[XV];exact⟨rows,rfl,(cC _ hτ rows).2 e2⟩) (.inr (.inr (.inl ⟨by rw[e1],.inl ⟨rows,e1⟩⟩)))⟩
 | cp i τ=>
  simp only[DK.get]at h
  split at h<;>try (cases h;done)
  rename_i v hg;simp only[aCA,aCH]at h;obtain⟨rfl,rfl,rfl⟩:=h;obtain⟨⟨row,e1,e2⟩,_⟩:=N3 hg (R.t i);exact⟨_,Q.put i (v:=.cp row 0) (by simp only[XV];exact⟨row,rfl,eO τ _ row e2⟩) (.inr (.inr (.inl ⟨by rw[e1],.inr (.inl ⟨row,0,e1⟩)⟩)))⟩
 | fn i f bZ=>
  simp only[DK.get]at h
  split at h<;>try (cases h;done)
  rename_i g l hl;obtain⟨hb,h⟩:=bg h
  split at h<;>try (cases h;done)
  rename_i v hg;simp only[aCA,aCH]at h;obtain⟨rfl,rfl,rfl⟩:=h;have hx:=R.t i;rw[hl,aCI hb]at hx;simp only[XV]at hx;obtain⟨vs,e1,e2⟩:=hx.2 (fun x hx=>by obtain⟨row,rfl⟩:=D5 bZ l _ hg x hx;trivial);have hcv:=ab6 bZ l _ vs hg e2;obtain⟨k1,k2⟩:=RH (H:=⟨ys.c,ys.h,t.h⟩) bZ _ vs hcv;refine⟨_,Q.put i (v:=.fn f vs) (by simp only[XV];exact⟨k2,fun _=>⟨vs,rfl,k1⟩⟩) (.inr (.inr (.inl ⟨by rw[e1],.inr (.inr (.inr ⟨f,vs,e1,fun c hc=>?_⟩))⟩)))⟩;obtain⟨j,hj⟩:=aDf hc;have hjl:j<l.length:=by rw[← e2.len];exact(aCD.1 hj).1
  have hx1:=aCF hjl;obtain⟨c',hc1,C1⟩:=e2.at j _ hx1;rw[hj]at hc1;cases hc1;generalize l[j]=x at hx1 C1;obtain⟨row,rfl⟩:=D5 bZ l _ hg x (aCC hx1);simp only[XV]at C1;obtain⟨r,rfl,_⟩:=C1;exact⟨r,0,rfl⟩
 | list i o ty es τ=>
  have aqZ:∀(ob':Ob) (l:List (az τ)),XV ⟨ys.c+1,(ys.ext i (.ref o ys.c) o (.t ys.c ty es τ l)).h,(t.ext i (.ref o ob'.rows.length) o ob').h⟩ (.ref o ys.c) (.ref o ob'.rows.length):=by
   intro ob' l;simp only[XV];exact⟨aDG _,fun bD _ _=>⟨ob',by simp[St.ext],rfl⟩⟩
  have sT:∀(p bf:Nat) (bD:dy) (l:List (az τ)),xs.t i=.ref p bf→xs.h p=some bD→bD.bf=bf→(∀ob,fV ⟨xs.c,xs.h,s.h⟩ bD ob→ob.ty=ty∧ob.es=es∧ob.imp=false∧bK τ l ob.rows)→
    ρ o=some p→¬ F p→∃t',Part xs s ρ F (o::names) (ys.ext i (.ref o ys.c) o (.t ys.c ty es τ l)) t':=by
   intro p bf bD l hi hp uR cA Xc hFp;have hx:=R.t i;rw[hi]at hx;obtain⟨agK,ob,h1,h2,h3,h4,h5⟩:=cQ (H:=⟨xs.c,xs.h,s.h⟩) R.h hx (by unfold dv;simp only;rw[hp];simp only;rw[uR];exact aD7 _);simp only at h1 h3;rw[hp]at h1;cases h1;obtain⟨a1,a2,a3,a4⟩:=cA ob h4;exact⟨_,Q.ext i (v:=.ref o ob.rows.length) (ob':=ob) o rfl ⟨a1,a2,a3,a4⟩ (aqZ ob l) (.inl (.inr (.inl ⟨o,p,_,h5,Xc,rfl⟩))) (.inl ⟨p,ob,Xc,hFp,h3,Fo a4⟩)⟩
  simp only[DK.get]at h
  split at h<;>try (cases h;done)
  ·rename_i hi
   simp only[aCA,aCH]at h;obtain⟨rfl,rfl,rfl⟩:=h;have hx:=R.t i;rw[hi]at hx;simp only[XV]at hx;have Xc:=(hρ o none (by simp)).1;exact⟨_,Q.ext i (v:=.ref o 0) (ob':=⟨ty,es,false,[]⟩) o rfl ⟨rfl,rfl,rfl,trivial⟩ (aqZ ⟨ty,es,false,[]⟩ []) (.inl (.inr (.inr (.inr (.inl ⟨o,hx,Xc,rfl⟩))))) (.inr ⟨Xc,rfl⟩)⟩
  ·rename_i p bf hi
   split at h<;>try (cases h;done)
   ·rename_i v' mG lL σ l hp
    split at h<;>try (cases h;done)
    rename_i hτ;obtain⟨hb,h⟩:=bg h;simp only[aCs]at hb;simp only[aCA,aCH]at h;obtain⟨rfl,rfl,rfl⟩:=h;obtain⟨r1,r2⟩:=hρ o (some p) (by simp);refine sT p bf _ _ hi hp (aCI hb.1.1) (fun ob cA=>?_) r1 (r2 p rfl);obtain⟨a1,a2,a3,a4⟩:=cA;exact⟨by rw[a1];exact aCI hb.1.2,by rw[a2];exact aCI hb.2,a3,(cC _ hτ _).2 a4⟩
   ·rename_i v' mG lL imp rows hp
    obtain⟨hb,h⟩:=bg h;simp only[aCs,aDe]at hb
    split at h<;>try (cases h;done)
    rename_i l hl;simp only[aCA,aCH]at h;obtain⟨rfl,rfl,rfl⟩:=h;obtain⟨r1,r2⟩:=hρ o (some p) (by simp);refine sT p bf _ _ hi hp (aCI hb.1.1.1) (fun ob cA=>?_) r1 (r2 p rfl);obtain⟨a1,a2,a3,a4⟩:=cA;exact⟨by rw[a1];exact aCI hb.1.1.2,by rw[a2];exact aCI hb.1.2,by rw[a3];exact hb.2,dq hl a4⟩
 | arr i o ty es τ=>
  simp only[DK.get]at h
  split at h<;>try (cases h;done)
  rename_i p bf hi
  split at h<;>try (cases h;done)
  rename_i v' mG lL σ l hp
  split at h<;>try (cases h;done)
  rename_i hτ;obtain⟨hb,h⟩:=bg h;simp only[aCs]at hb;simp only[aCA,aCH]at h;obtain⟨rfl,rfl,rfl⟩:=h;obtain⟨r1,r2⟩:=hρ o (some p) (by simp);have hx:=R.t i;rw[hi]at hx;obtain⟨agK,ob,h1,h2,h3,h4,h6,h5⟩:=ed (H:=⟨xs.c,xs.h,s.h⟩) R.h hx (by unfold dv;simp only;rw[hp];exact hb.1.1);simp only at h1 h3;rw[hp]at h1;cases h1;obtain⟨a1,a2,a3,a4⟩:=h4;have a5:=(cC _ hτ _).2 a4;refine⟨_,Q.ext i (v:=.ptr o ob.rows.length 0 0) (ob':=ob) o rfl ⟨a1.trans (aCI hb.1.2),a2.trans (aCI hb.2),a3,a5⟩ ?_ (.inl (.inr (.inr (.inl ⟨o,p,ob.rows.length,0,0,h5,r1,rfl⟩)))) (.inl ⟨p,ob,r1,r2 p rfl,h3,Fo a5⟩)⟩;simp only[XV];exact⟨aDG _,fun bD _ _=>⟨ob,by simp[St.ext],h6,rfl⟩⟩
 | box i o ty es τ=>
  simp only[DK.get]at h
  split at h<;>try (cases h;done)
  rename_i p bf hi
  split at h<;>try (cases h;done)
  rename_i v' mG lL imp row hp;obtain⟨hb,h⟩:=bg h;simp only[aCs]at hb
  split at h<;>try (cases h;done)
  rename_i v g hg;simp only[aCA,aCH]at h;obtain⟨rfl,rfl,rfl⟩:=h;obtain⟨r1,r2⟩:=hρ o (some p) (by simp);have hx:=R.t i;rw[hi]at hx;obtain⟨agK,ob,h1,h2,h3,h4,h6,h5⟩:=ed (H:=⟨xs.c,xs.h,s.h⟩) R.h hx (by unfold dv;simp only;rw[hp];exact hb.1.1);simp only at h1 h3;rw[hp]at h1;cases h1;obtain⟨a1,a2,a3,a4⟩:=h4
  match bS:ob.rows,a4 with
  | [gk],a4=>
   obtain⟨cI,g1,g2⟩:=kX R τ hg a4.1 hF;refine⟨_,Q.ext i (v:=.ptr o 1 0 0) (ob':=⟨ty,es,false,[cI]⟩) o rfl ⟨rfl,rfl,rfl,⟨eO τ _ cI g2,trivial⟩⟩ ?_ (.inl (.inr (.inr (.inl ⟨o,p,1,0,0,by rw[h5,bS];rfl,r1,rfl⟩)))) (.inl ⟨p,ob,r1,r2 p rfl,h3,?_,?_,?_⟩)⟩
   ·simp only[XV]
    exact⟨aDG _,fun bD _ _=>⟨⟨ty,es,false,[cI]⟩,by simp[St.ext],by simp,rfl⟩⟩
   ·show ty=ob.ty;rw[a1];exact(aCI hb.1.2).symm
   ·show es=ob.es;rw[a2];exact(aCI hb.2).symm
   ·rw[bS]
    exact⟨aP.mono (fun a b h=>⟨.inl h,fun _=>h⟩) g1,trivial⟩
 | ajW i o ty es τ j q tyq esq=>
  simp only[DK.get]at h
  split at h<;>try (cases h;done)
  rename_i p bf hi
  split at h<;>try (cases h;done)
  rename_i v' mG lL imp row hp;obtain⟨hb,h⟩:=bg h;simp only[aCs]at hb
  split at h<;>try (cases h;done)
  rename_i c src hc
  split at h<;>try (cases h;done)
  rename_i v g hg;simp only[aCA,aCH]at h;obtain⟨rfl,rfl,rfl⟩:=h;obtain⟨r1,r2⟩:=hρ o (some p) (by simp);obtain⟨r3,r4⟩:=hρ q src (by simp);have hx:=R.t i;rw[hi]at hx;obtain⟨agK,ob,h1,h2,h3,h4,h6,h5⟩:=ed (H:=⟨xs.c,xs.h,s.h⟩) R.h hx (by unfold dv;simp only;rw[hp];exact hb.1.1);simp only at h1 h3;rw[hp]at h1;cases h1;obtain⟨a1,a2,a3,a4⟩:=h4
  match bS:ob.rows,a4 with
  | [gk],a4=>
   obtain⟨b,bM,b1,b2,b3,b4,⟨σ,l,rfl,b5⟩,b6⟩:=QZ R hc a4.1;have hxc:XV ⟨xs.c,xs.h,s.h⟩ (.sl σ l) (.sl bM.rows):=by simp only[XV];exact .inr ⟨bM.rows,rfl,b5⟩
   obtain⟨cI,g1,g2⟩:=kX R τ hg (uf (j:=j) a4.1 hxc) hF;have Ro:vt s ρ F b (.ref q bM.rows.length):=by
    rcases b6 with⟨p2,rfl,rfl,b7⟩ | ⟨rfl,rfl,b7⟩
    ·exact .inr (.inl ⟨q,p2,_,rfl,r3,rfl⟩)
    ·rw[b7];exact .inr (.inr (.inr (.inl ⟨q,rfl,r3,rfl⟩)))
   obtain⟨c1,y,c2,c3⟩:=BM (R':=fun x x'=>vt s ρ F x x') (fun _ _ h=>.inl h) b1 Ro g1;have hy:y=.sl bM.rows:=by
    rcases c3 with⟨c3,_⟩ | ⟨_,_,_,c3,_⟩
    ·exact c3
    ·cases c3
   subst hy;show ∃t',Part xs s ρ F (o::q::names) (anL i o ty es j q tyq esq (iw τ _) ys) t';unfold anL
   split
   ·rename_i σ' l' hj
    have hxv:=eO (H:=⟨ys.c,ys.h,t.h⟩) τ _ cI g2;obtain⟨y2,d1,d2⟩:=hxv.at j _ hj;rw[c2]at d1;cases d1;simp only[XV]at d2;rcases d2 with⟨_,d3⟩ | ⟨rows2,d3,d4⟩
    ·cases d3
    cases d3
    have Q1:=Q.KU q (ob:=.t ys.c tyq esq σ' l') (ob':=bM) rfl ⟨b2,b3,b4,d4⟩ (by
     rcases b6 with⟨p2,rfl,rfl,b7⟩ | ⟨rfl,rfl,b7⟩
     ·exact .inl ⟨p2,bM,r3,r4 p2 rfl,b7,Fo d4⟩
     ·exact .inr ⟨r3,b7⟩)
    refine⟨_,Q1.ext i (v:=.ptr o 1 0 0) (ob':=⟨ty,es,true,[cI.set j (.ref q bM.rows.length)]⟩) o rfl ⟨rfl,rfl,rfl,⟨uf (eO τ _ cI g2) ?_,trivial⟩⟩ ?_ (.inl (.inr (.inr (.inl ⟨o,p,1,0,0,by rw[h5,bS];rfl,r1,rfl⟩)))) (.inl ⟨p,ob,r1,r2 p rfl,h3,?_,?_,?_⟩)⟩
    ·simp only[XV]
     exact⟨aDG _,fun bD _ _=>⟨bM,by simp,rfl⟩⟩
    ·simp only[XV]
     exact⟨aDG _,fun bD _ _=>⟨⟨ty,es,true,[cI.set j (.ref q bM.rows.length)]⟩,by simp[St.ext],by simp,rfl⟩⟩
    ·show ty=ob.ty;rw[a1];exact(aCI hb.1.2).symm
    ·show es=ob.es;rw[a2];exact(aCI hb.2).symm
    ·rw[bS]
     exact⟨aP.mono (fun a b h=>⟨h,fun h2=>by cases h2⟩) c1,trivial⟩
   ·exact⟨t,Q.skip (more:=[o,q])⟩
theorem Nf{A B:Type}{a:Option (A×List Nat×iV)}{b:Option (B×List Nat×iV)}{p:A×B}{f:List Nat}{sr:iV}(h:ZN a b=some (p,f,sr)):
  ∃f1 f2 s1 s2,a=some (p.1,f1,s1)∧b=some (p.2,f2,s2)∧f=f1++f2∧sr=s1++s2:=by
 unfold ZN at h
 split at h<;>try (cases h;done)
 split at h<;>try (cases h;done)
 simp only[aCA,aCH]at h;obtain⟨rfl,rfl,rfl⟩:=h;exact⟨_,_,_,_,rfl,rfl,rfl,rfl⟩
theorem D0(R:RS xs s){ρ:Nat→Option Nat}{A:Type}{a:Option (A×List Nat×iV)}{pt:A→bF→bF}:
  ∀(ds:List DK) (x:DsT.afD A ds) (f:List Nat) (sr:iV),NZ xs a ds=some (x,f,sr)→(∀p∈f,F p)→(∀o p,(o,p)∈sr→ρ o=p∧∀q,p=some q→¬ F q)→
   (∀(y:A) (f:List Nat) (sr:iV),a=some (y,f,sr)→(∀p∈f,F p)→(∀o p,(o,p)∈sr→ρ o=p∧∀q,p=some q→¬ F q)→∀(names:List Nat) (ys:bF) (t:St),Part xs s ρ F names ys t→∃t',Part xs s ρ F (sr.map (·.1)++names) (pt y ys) t')→
   ∃t',Part xs s ρ F (sr.map (·.1)) (abE pt ds x) t'
 | [],x,f,sr,h,hF,hρ,ha=>by
  obtain⟨t',h1⟩:=ha x f sr h hF hρ [] Lh _ (DD ρ);exact⟨t',by rw[aCM]at h1;exact h1⟩
 | d::ds,x,f,sr,h,hF,hρ,ha=>by
  obtain⟨f1,f2,s1,s2,h1,h2,rfl,rfl⟩:=Nf h;obtain⟨t1,q1⟩:=D0 R ds _ f2 s2 h2 (fun p hp=>hF p (aDw _ hp)) (fun o p hp=>hρ o p (aDw _ hp)) (pt:=DK.put d)
   (fun y f sr hy hF hρ names ys t Q=>Rp R d hy hF hρ Q)
  obtain⟨t2,q2⟩:=ha _ f1 s1 h1 (fun p hp=>hF p (aDv _ hp)) (fun o p hp=>hρ o p (aDv _ hp)) _ _ t1 q1;exact⟨t2,by rw[aEB];exact q2⟩
theorem abF(R:RS xs s){ρ:Nat→Option Nat}(ds:List DK)(x:DsT ds)(f:List Nat)(sr:iV)(h:abG xs ds=some (x,f,sr))(hF:∀p∈f,F p)(hρ:∀o p,(o,p)∈sr→ρ o=p∧∀q,p=some q→¬ F q):
  ∃t',Part xs s ρ F (sr.map (·.1)) (atL ds x) t':=by
 cases ds with
 | nil=>
  simp only[abG,aCA,aCH]at h;obtain⟨rfl,rfl,rfl⟩:=h;exact⟨_,DD ρ⟩
 | cons d ds=>
  exact D0 R ds x f sr h hF hρ (fun y f sr hy hF hρ names ys t Q=>Rp R d hy hF hρ Q)
theorem DL:∀{sr:iV} {o:Nat} {p:Option Nat},sU o sr=some p→(o,p)∈sr
 | (o',q)::r,o,p,h=>by
  simp only[sU,eG]at h
  split at h
  ·rename_i ho;subst ho;cases h;exact aCK ..
  ·exact aCQ _ (DL h)
 | [],_,_,h=>by cases h
theorem AZ:∀{sr:iV} {o:Nat} {p:Option Nat},(sr.map (·.1)).Nodup→(o,p)∈sr→sU o sr=some p
 | (o',q)::r,o,p,hn,h=>by
  simp only[aDh,aD5]at hn;simp only[sU,eG];rcases aCJ.1 h with h | h
  ·cases h;rw[aCr rfl]
  ·have:o ≠ o':=fun e=>hn.1 (by rw[← e];exact aCN.2 ⟨(o,p),h,rfl⟩)
   rw[aCo this];exact AZ hn.2 h
 | [],_,_,_,h=>by cases h
theorem kY:∀{sr:iV} {o p:Nat},(o,some p)∈sr→p∈j8 sr
 | (o',none)::r,o,p,h=>by
  rcases aCJ.1 h with h | h
  ·cases h
  ·exact kY (sr:=r) h
 | (o',some q)::r,o,p,h=>by
  simp only[j8,aCJ];rcases aCJ.1 h with h | h
  ·cases h;exact .inl rfl
  ·exact .inr (kY h)
 | [],_,_,h=>by cases h
theorem wP:∀{sr:iV} {o o' p:Nat},(j8 sr).Nodup→(o,some p)∈sr→(o',some p)∈sr→(sr.map (·.1)).Nodup→o=o'
 | (q,none)::r,o,o',p,hn,h1,h2,h3=>by
  simp only[aDh,aD5]at h3;rcases aCJ.1 h1 with h1 | h1
  ·cases h1
  ·rcases aCJ.1 h2 with h2 | h2
   ·cases h2
   ·exact wP (sr:=r) hn h1 h2 h3.2
 | (q,some q')::r,o,o',p,hn,h1,h2,h3=>by
  simp only[j8,aD5]at hn;simp only[aDh,aD5]at h3;rcases aCJ.1 h1 with h1 | h1
  ·cases h1
   rcases aCJ.1 h2 with h2 | h2
   ·cases h2;rfl
   ·exact absurd (kY h2) hn.1
  ·rcases aCJ.1 h2 with h2 | h2
   ·cases h2;exact absurd (kY h1) hn.1
   ·exact wP hn.2 h1 h2 h3.2
 | [],_,_,_,_,h,_,_=>by cases h
theorem Lz(R:RS xs s){ρ:Nat→Option Nat}{sr:iV}(hρ:∀o p,sU o sr=some p→ρ o=p)(F:Nat→Prop){names:List Nat}{ys:bF}{t:St}(Q:Part xs s ρ F names ys t):∀(l:List (Nat×Nat)),aj6 xs sr l=true→∃t',Part xs s ρ F names (yb ys l) t'∧t'.h=t.h∧(yb ys l).h=ys.h∧(yb ys l).c=ys.c
 | [],_=>⟨t,Q,rfl,rfl,rfl⟩
 | (i,o)::r,h=>by
  simp only[aj6,aCs]at h;obtain⟨t1,q1,q2,q3,q4⟩:=Lz R hρ F Q r h.2;simp only[yb];cases ho:ys.h o with
  | none=>
   simp only;exact⟨_,q1.put i (v:=.dead) (by simp only[XV]) (.inl rfl),q2,q3,q4⟩
  | some ob=>
   simp only;obtain⟨k1,bM,k2,k3⟩:=Q.rs.h o ob ho;have hx:=R.t i;have h1:=h.1;have hXV:XV ⟨(yb ys r).c,(yb ys r).h,t1.h⟩ (.ref o ob.bf) (.ref o bM.rows.length):=by
    simp only[XV,q4,q3,q2];exact⟨k1,fun bD _ _=>⟨bM,k2,rfl⟩⟩
   refine⟨_,q1.put i (v:=.ref o bM.rows.length) hXV (.inr (.inl ?_)),q2,q3,q4⟩
   split at h1<;>try (cases h1;done)
   ·rename_i p hl
    have Xc:=hρ o _ hl
    split at h1<;>try (cases h1;done)
    rename_i q bf hi;simp only[aCs]at h1;have:=aCI h1.1;subst this;rw[hi]at hx;obtain⟨ayV,CE,e1,e2,e3,e4,e5⟩:=cQ (H:=⟨xs.c,xs.h,s.h⟩) R.h hx h1.2;rcases(Q.hh o bM k2).2 with⟨p',ZZ,f1,_,f3,f4⟩ | ⟨f1,_⟩
    ·rw[Xc]at f1;cases f1
     simp only at e3;rw[f3]at e3;cases e3;have:=rQ f4;exact .inr (.inl ⟨o,q,_,by rw[e5],Xc,by rw[this]⟩)
    ·rw[Xc]at f1;cases f1
   ·rename_i hl
    have Xc:=hρ o _ hl
    split at h1<;>try (cases h1;done)
    rename_i hi;rw[hi]at hx;simp only[XV]at hx;rcases(Q.hh o bM k2).2 with⟨p',ZZ,f1,_,f3,f4⟩ | ⟨f1,f2⟩
    ·rw[Xc]at f1;cases f1
    ·exact .inr (.inr (.inr (.inl ⟨o,hx,Xc,by rw[f2];rfl⟩)))
theorem LD.ao5(D:LD)(R:RS xs s){x:DsT D.ds}(h:D.get xs=some x){n:Nat}{w0:World}{I:sy}(hI:LnI I D.ln){A0:Nat→Prop}{a:Act}{w:World}(hR:RR w0 I A0 n s a w):∃s',RS (D.mk' x) s'∧RR w0 I A0 n s' a w:=by
 unfold LD.get at h
 split at h<;>try (cases h;done)
 rename_i v f sr hg;obtain⟨hb,h⟩:=bg h;have:=aDb h;subst this;simp only[aCs]at hb;obtain⟨⟨⟨⟨b1,b2⟩,b3⟩,b4⟩,b5⟩:=hb;have n1:=lE b1;have n2:=lE b2
 let ρ:Nat→Option Nat:=fun o=>(sU o sr).getD none
 have hρ:∀o p,sU o sr=some p→ρ o=p:=fun o p hl=>by simp[ρ,hl]
 have Kx:∀o p,ρ o=some p→(o,some p)∈sr:=fun o p hp=>by
  simp only[ρ]at hp;cases hl:sU o sr with
  | none=>simp[hl]at hp
  | some q=>simp[hl]at hp;subst hp;exact DL hl
 obtain⟨t,Q⟩:=abF (F:=fun p=>p∈f) R (ρ:=ρ) D.ds v f sr hg (fun p hp=>hp) (fun o p hp=>⟨hρ o p (AZ n1 hp),fun q hq hF=>by
  subst hq;have h1:=aCG.1 b3 q hF;simp only[aDe]at h1;rw[oV.2 (kY hp)]at h1;cases h1⟩)
 obtain⟨t',Q',_⟩:=Lz R hρ _ Q D.als b4;obtain⟨β,A,hR⟩:=hR;refine⟨t',Q'.rs,_,_,hR.reshape ⟨Q'.tt,fun o ob' ho=>(Q'.hh o ob' ho).2,fun o o' p h1 h2=>wP n2 (Kx o p h1) (Kx o' p h2) n1⟩ (fun p ob b hFp _ _=>?_) fun o ob' hqo ho=>?_⟩
 ·rcases hI with hI | hI
  ·exact hI.1 b
  ·cases hl:D.ln with
   | zero=>omega
   | succ m=>
    rw[hl]at b5;have h0:f=[]:=by simpa using(aC7.1 b5).1
    rw[h0]at hFp;cases hFp
 ·rcases hI with hI | hI
  ·exact absurd hqo (hI.2 o)
  ·cases hl:D.ln with
   | zero=>omega
   | succ m=>
    rw[hl]at b5 hI;have fS:=aCG.1 (aC7.1 b5).2;have iz:=hI.2 o hqo;have e1:Nat.ble 500 o=true:=by rw[Nat.ble_eq];exact iz.1
    have e2:Nat.blt o (500+(m+1))=true:=by rw[Nat.blt_eq];exact iz.2
    have key:∀p,(o,p)∈sr→p=some o:=fun p hp=>by
     have h1:=fS _ hp;cases p with
     | none=>simp only[e1,e2]at h1;cases h1
     | some p=>
      simp only[e1,e2,aCw,aEm,Bool.or_false]at h1;rw[aCI h1]
    have hex:o∈sr.map (·.1):=(Q'.hh o ob' ho).1;obtain⟨⟨o',p⟩,hp,he⟩:=aCN.1 hex;simp only at he;subst he;have h9:=key p hp;rw[h9]at hp;exact hρ o' (some o') (AZ n1 hp)
end
end Go.AL
