/- By an AI agent. -/
import Derived.Test.YtfggefeflojnkaaGreatAlFn
set_option linter.unusedVariables false
namespace Go.AL
def aP{A B:Type}(R:A→B→Prop):List A→List B→Prop
 | [],[]=>True
 | a::as,b::bs=>R a b∧aP R as bs
 | _,_=>False
theorem aP.len{A B:Type}{R:A→B→Prop}:∀{as:List A} {bs:List B},aP R as bs→as.length=bs.length
 | [],[],_=>rfl
 | a::as,b::bs,h=>by simp[aP.len h.2]
 | [],_::_,h=>h.elim
 | _::_,[],h=>h.elim
theorem aP.get{A B:Type}{R:A→B→Prop}:∀{as:List A} {bs:List B},aP R as bs→∀(i:Nat) (a:A),as[i]? = some a→∃b,bs[i]? = some b∧R a b
 | [],[],_,i,a,h=>by simp at h
 | a::as,b::bs,h,0,x,hx=>by simp at hx;subst hx;exact⟨b,rfl,h.1⟩
 | a::as,b::bs,h,i+1,x,hx=>by
  obtain⟨y,h1,h2⟩:=aP.get h.2 i x (by simpa using hx);exact⟨y,by simpa using h1,h2⟩
 | [],_::_,h,_,_,_=>h.elim
 | _::_,[],h,_,_,_=>h.elim
theorem aP.uZ{A B:Type}{R:A→B→Prop}:∀{as:List A} {bs:List B},aP R as bs→∀(i:Nat) (b:B),bs[i]? = some b→∃a,as[i]? = some a∧R a b
 | [],[],_,i,a,h=>by simp at h
 | a::as,b::bs,h,0,x,hx=>by simp at hx;subst hx;exact⟨a,rfl,h.1⟩
 | a::as,b::bs,h,i+1,x,hx=>by
  obtain⟨y,h1,h2⟩:=aP.uZ h.2 i x (by simpa using hx);exact⟨y,by simpa using h1,h2⟩
 | [],_::_,h,_,_,_=>h.elim
 | _::_,[],h,_,_,_=>h.elim
theorem aP.app{A B:Type}{R:A→B→Prop}{cs:List A}{ds:List B}(h2:aP R cs ds):∀{as:List A} {bs:List B},aP R as bs→aP R (as++cs) (bs++ds)
 | [],[],_=>h2
 | a::as,b::bs,h=>⟨h.1,aP.app h2 h.2⟩
 | [],_::_,h=>h.elim
 | _::_,[],h=>h.elim
theorem aP.take{A B:Type}{R:A→B→Prop}:∀(n:Nat) {as:List A} {bs:List B},aP R as bs→aP R (as.take n) (bs.take n)
 | 0,_,_,_=>by simp[aP]
 | n+1,[],[],_=>trivial
 | n+1,a::as,b::bs,h=>⟨h.1,aP.take n h.2⟩
 | _+1,[],_::_,h=>h.elim
 | _+1,_::_,[],h=>h.elim
theorem aP.drop{A B:Type}{R:A→B→Prop}:∀(n:Nat) {as:List A} {bs:List B},aP R as bs→aP R (as.drop n) (bs.drop n)
 | 0,_,_,h=>h
 | n+1,[],[],_=>trivial
 | n+1,a::as,b::bs,h=>aP.drop n h.2
 | _+1,[],_::_,h=>h.elim
 | _+1,_::_,[],h=>h.elim
theorem aP.set{A B:Type}{R:A→B→Prop}{x:A}{y:B}(uQ:R x y):∀(n:Nat) {as:List A} {bs:List B},aP R as bs→aP R (as.set n x) (bs.set n y)
 | _,[],[],_=>trivial
 | 0,a::as,b::bs,h=>⟨uQ,h.2⟩
 | n+1,a::as,b::bs,h=>⟨h.1,aP.set uQ n h.2⟩
 | _,[],_::_,h=>h.elim
 | _,_::_,[],h=>h.elim
theorem aP.mono{A B:Type}{R S:A→B→Prop}(hRS:∀a b,R a b→S a b):∀{as:List A} {bs:List B},aP R as bs→aP S as bs
 | [],[],_=>trivial
 | a::as,b::bs,h=>⟨hRS _ _ h.1,aP.mono hRS h.2⟩
 | [],_::_,h=>h.elim
 | _::_,[],h=>h.elim
inductive Ty where
 | int (k:IntKind)
 | bool
 | str
 | sl (cs:List Ty)
mutual
def Ty.T:Ty→Type
 | .int _=>Int
 | .bool=>Bool
 | .str=>ByteArray
 | .sl cs=>List (az cs)
def az:List Ty→Type
 | []=>Unit
 | t::ts=>cN t.T ts
def cN(A:Type):List Ty→Type
 | []=>A
 | t::ts=>A×cN t.T ts
end
example:az [.int .i64,.bool,.sl [.int .i64]]=(Int×Bool×List Int):=rfl
def IntKind.eq:IntKind→IntKind→Bool
 | .i8,.i8 | .i16,.i16 | .i32,.i32 | .i64,.i64 | .u8,.u8 | .u16,.u16 | .u32,.u32 | .u64,.u64=>true
 | _,_=>false
theorem IntKind.Rx{a b:IntKind}(h:IntKind.eq a b=true):a=b:=by cases a<;>cases b<;>first | rfl | cases h
mutual
def Ty.eq:Ty→Ty→Bool
 | .int k,.int k'=>IntKind.eq k k'
 | .bool,.bool=>true
 | .str,.str=>true
 | .sl a,.sl b=>ez a b
 | _,_=>false
def ez:List Ty→List Ty→Bool
 | [],[]=>true
 | a::as,b::bs=>Ty.eq a b&&ez as bs
 | _,_=>false
end
mutual
theorem Ty.Rx:∀{a b:Ty},Ty.eq a b=true→a=b
 | .int k,.int k',h=>by
  simp only[Ty.eq]at h;have:=IntKind.Rx h;subst this;rfl
 | .bool,.bool,_=>rfl
 | .str,.str,_=>rfl
 | .sl a,.sl b,h=>by
  simp only[Ty.eq]at h;have:=ji h;subst this;rfl
 | .int _,.bool,h=>by simp[Ty.eq]at h
 | .int _,.str,h=>by simp[Ty.eq]at h
 | .int _,.sl _,h=>by simp[Ty.eq]at h
 | .bool,.int _,h=>by simp[Ty.eq]at h
 | .bool,.str,h=>by simp[Ty.eq]at h
 | .bool,.sl _,h=>by simp[Ty.eq]at h
 | .str,.int _,h=>by simp[Ty.eq]at h
 | .str,.bool,h=>by simp[Ty.eq]at h
 | .str,.sl _,h=>by simp[Ty.eq]at h
 | .sl _,.int _,h=>by simp[Ty.eq]at h
 | .sl _,.bool,h=>by simp[Ty.eq]at h
 | .sl _,.str,h=>by simp[Ty.eq]at h
theorem ji:∀{a b:List Ty},ez a b=true→a=b
 | [],[],_=>rfl
 | a::as,b::bs,h=>by
  simp only[ez,aCs]at h;have h1:=Ty.Rx h.1;have h2:=ji h.2;subst h1 h2;rfl
 | [],_::_,h=>by simp[ez]at h
 | _::_,[],h=>by simp[ez]at h
end
inductive X where
 | int (k:IntKind) (n:Int)
 | bool (b:Bool)
 | str (s:ByteArray)
 | nil
 | sl (τ:List Ty) (l:List (az τ))
 | rd (τ:List Ty) (l:List (az τ))
 | ref (o bf:Nat)
 | ptr (o bf i j:Nat)
 | cp (row:List X) (j:Nat)
 | agg (imp:Bool) (cs:List X)
 | kQ (vs:List X)
 | raw (v:Value)
 | fn (f:FuncId) (bZ:List X)
 | dead
inductive dy where
 | t (bf ty es:Nat) (τ:List Ty) (l:List (az τ))
 | u (bf ty es:Nat) (imp:Bool) (rows:List (List X))
def dy.bf:dy→Nat
 | .t v ..=>v
 | .u v ..=>v
structure bF where
 t:Nat→X
 h:Nat→Option dy
 c:Nat
mutual
def fk:(t:Ty)→t.T→V→Prop
 | .int k,n,v=>v=.int k n
 | .bool,b,v=>v=.bool b
 | .str,s,v=>v=.str s
 | .sl cs,l,v=>((l:List (az cs))=[]∧v=.nil)∨∃rows,v=.sl rows∧aP (cD cs) l rows
def cD:(τ:List Ty)→az τ→List V→Prop
 | [],_,row=>row=[]
 | t::ts,x,row=>dz (fk t) ts x row
def dz{A:Type}(R:A→V→Prop):(τ:List Ty)→cN A τ→List V→Prop
 | [],x,row=>∃v,row=[v]∧R x v
 | t::ts,x,row=>∃v r,row=v::r∧R (Prod.fst x) v∧dz (fk t) ts (Prod.snd x) r
end
def bK(τ:List Ty)(l:List (az τ))(rows:List (List V)):Prop:=aP (cD τ) l rows
structure jR where
 c:Nat
 x:Nat→Option dy
 v:Nat→Option Ob
def X.FR(H:jR):X→Prop
 | .ref o bf=>∃bD,H.x o=some bD∧bD.bf=bf
 | .ptr o bf _ _=>∃bD,H.x o=some bD∧bD.bf=bf
 | _=>True
def X.FV(c:Nat):X→Prop
 | .ref _ _=>False
 | .fn _ _=>False
 | .dead=>False
 | .ptr _ bf _ _=>bf<c
 | _=>True
theorem X.xq{c c':Nat}(h:c≤c'){x:X}(hx:x.FV c):x.FV c':=by
 cases x<;>simp only[X.FV]at hx ⊢
 exact aCP hx h
mutual
def XV(H:jR):X→V→Prop
 | .int k n,v=>v=.int k n
 | .bool b,v=>v=.bool b
 | .str s,v=>v=.str s
 | .nil,v=>v=.nil
 | .sl τ l,v=>(l=[]∧v=.nil)∨∃rows,v=.sl rows∧bK τ l rows
 | .rd τ l,v=>∃rows,v=.rd rows∧bK τ l rows
 | .ref o bf,v=>bf<H.c∧∀bD,H.x o=some bD→bD.bf=bf→∃ob,H.v o=some ob∧v=.ref o ob.rows.length
 | .ptr o bf i j,v=>bf<H.c∧∀bD,H.x o=some bD→bD.bf=bf→∃ob,H.v o=some ob∧i<ob.rows.length∧v=.ptr o ob.rows.length i j
 | .cp row j,v=>∃vs,v=.cp vs j∧bj H row vs
 | .agg imp cs,v=>∃vs,v=ke imp vs∧bj H cs vs
 | .kQ xs,v=>∃vs,v=.kQ vs∧bj H xs vs
 | .raw u,v=>v=.raw u
 | .fn f bZ,v=>(∀x∈bZ,x.FV H.c)∧((∀x∈bZ,x.FR H)→∃vs,v=.fn f vs∧bj H bZ vs)
 | .dead,_=>True
def bj(H:jR):List X→List V→Prop
 | [],vs=>vs=[]
 | x::xs,vs=>∃v r,vs=v::r∧XV H x v∧bj H xs r
end
def fV(H:jR):dy→Ob→Prop
 | .t _ ty es τ l,ob=>ob.ty=ty∧ob.es=es∧ob.imp=false∧bK τ l ob.rows
 | .u _ ty es imp rows,ob=>ob.ty=ty∧ob.es=es∧ob.imp=imp∧aP (bj H) rows ob.rows
structure RS (xs:bF) (s:St):Prop where
 t:∀i,XV ⟨xs.c,xs.h,s.h⟩ (xs.t i) (s.t i)
 h:∀o bD,xs.h o=some bD→bD.bf<xs.c∧∃ob,s.h o=some ob∧fV ⟨xs.c,xs.h,s.h⟩ bD ob
def lP:(t:Ty)→t.T→X
 | .int k,n=>.int k n
 | .bool,b=>.bool b
 | .str,s=>.str s
 | .sl cs,l=>.sl cs l
def lb{A:Type}(f:A→X):(τ:List Ty)→cN A τ→List X
 | [],x=>[f x]
 | t::ts,x=>f (Prod.fst x)::lb (lP t) ts (Prod.snd x)
def iw:(τ:List Ty)→az τ→List X
 | [],_=>[]
 | t::ts,x=>lb (lP t) ts x
def alr:(t:Ty)→t.T
 | .int _=>(0:Int)
 | .bool=>false
 | .str=>ByteArray.empty
 | .sl _=>[]
def akA{A:Type}(a:A):(τ:List Ty)→cN A τ
 | []=>a
 | t::ts=>(a,akA (alr t) ts)
def E9:(τ:List Ty)→az τ
 | []=>()
 | t::ts=>akA (alr t) ts
theorem vq{H:jR}:∀(t:Ty) (x:t.T) (v:V),fk t x v→XV H (lP t x) v
 | .int k,n,v,h=>by simpa [lP,XV,fk]using h
 | .bool,b,v,h=>by simpa [lP,XV,fk]using h
 | .str,s,v,h=>by simpa [lP,XV,fk]using h
 | .sl cs,l,v,h=>by
  simp only[fk]at h;simp only[lP,XV,bK];exact h
theorem Qy{H:jR}{A:Type}{R:A→V→Prop}{f:A→X}(hf:∀x v,R x v→XV H (f x) v):∀(τ:List Ty) (x:cN A τ) (row:List V),dz R τ x row→bj H (lb f τ x) row
 | [],x,row,h=>by
  simp only[dz]at h;obtain⟨v,rfl,hv⟩:=h;simp only[lb,bj];exact⟨v,[],rfl,hf _ _ hv,rfl⟩
 | t::ts,x,row,h=>by
  simp only[dz]at h;obtain⟨v,r,rfl,hv,hr⟩:=h;simp only[lb,bj];exact⟨v,r,rfl,hf _ _ hv,Qy (vq t) ts _ r hr⟩
theorem eO{H:jR}:∀(τ:List Ty) (x:az τ) (row:List V),cD τ x row→bj H (iw τ x) row
 | [],x,row,h=>by simp only[cD]at h;simp only[iw,bj];exact h
 | t::ts,x,row,h=>by simp only[cD]at h;simp only[iw];exact Qy (vq t) ts x row h
def iI{τ σ:List Ty}(l:List (az τ))(h:ez τ σ=true):List (az σ):=(ji h)▸l
def Yu(σ:List Ty)(x:X):Option (List (az σ)):=match x with
 | .sl τ l=>if h:ez τ σ=true then some (iI l h)else none
 | .nil=>some []
 | _=>none
def Bc(k:IntKind)(x:X):Option Int:=match x with
 | .int k' n=>bif IntKind.eq k' k then some n else none
 | _=>none
def vv(x:X):Option Bool:=match x with
 | .bool b=>some b
 | _=>none
def Am(x:X):Option ByteArray:=match x with
 | .str b=>some b
 | _=>none
def D2(t:Ty)(x:X):Option t.T:=match t with
 | .int k=>Bc k x
 | .bool=>vv x
 | .str=>Am x
 | .sl cs=>Yu cs x
def lA{A B:Type}(a:Option A)(b:Option B):Option (A×B):=match a with
 | some a=>match b with
  | some b=>some (a,b)
  | none=>none
 | none=>none
def Qw{A:Type}(f:X→Option A):(τ:List Ty)→List X→Option (cN A τ)
 | []=>fun xs=>match xs with
  | [x]=>f x
  | _=>none
 | t::ts=>fun xs=>match xs with
  | x::r=>lA (f x) (Qw (D2 t) ts r)
  | []=>none
def yS:(τ:List Ty)→List X→Option (az τ)
 | []=>fun xs=>match xs with
  | []=>some ()
  | _=>none
 | t::ts=>fun xs=>Qw (D2 t) ts xs
def abY{A:Type}(a:Option A)(b:Option (List A)):Option (List A):=match a with
 | some a=>match b with
  | some b=>some (a::b)
  | none=>none
 | none=>none
def jm(τ:List Ty):List (List X)→Option (List (az τ))
 | []=>some []
 | r::rs=>abY (yS τ r) (jm τ rs)
theorem cC{τ σ:List Ty}(l:List (az τ))(h:ez τ σ=true)(rows:List (List V)):bK σ (iI l h) rows↔bK τ l rows:=by
 have:=ji h;subst this;exact Iff.rfl
theorem Vh{τ σ:List Ty}(l:List (az τ))(h:ez τ σ=true):iI l h=[]↔l=[]:=by
 have:=ji h;subst this;exact Iff.rfl
theorem Qq{H:jR}{σ:List Ty}{x:X}{l:List (az σ)}{v:V}(hx:Yu σ x=some l)(hv:XV H x v):(l=[]∧v=.nil)∨∃rows,v=.sl rows∧bK σ l rows:=by
 cases x<;>simp only[Yu]at hx<;>try (cases hx;done)
 ·have:=aDb hx
  subst this;exact .inl ⟨rfl,by simpa only[XV]using hv⟩
 ·split at hx<;>try (cases hx;done)
  rename_i h;have:=aDb hx;subst this;simp only[XV]at hv;rcases hv with⟨h1,h2⟩ | ⟨rows,h1,h2⟩
  ·exact .inl ⟨(Vh _ h).2 h1,h2⟩
  ·exact .inr ⟨rows,h1,(cC _ h rows).2 h2⟩
theorem DN{k:IntKind}{x:X}{n:Int}(h:Bc k x=some n):x=.int k n:=by
 cases x<;>simp only[Bc]at h<;>try (cases h;done)
 rename_i k' m;cases hk:IntKind.eq k' k with
 | false=>rw[hk]at h;cases h
 | true=>
  rw[hk]at h;cases h;rw[IntKind.Rx hk]
theorem BF{x:X}{b:Bool}(h:vv x=some b):x=.bool b:=by
 cases x<;>simp only[vv]at h<;>first | (cases h;done) | (cases h;rfl)
theorem Df{x:X}{b:ByteArray}(h:Am x=some b):x=.str b:=by
 cases x<;>simp only[Am]at h<;>first | (cases h;done) | (cases h;rfl)
theorem BB{H:jR}(t:Ty)(x:X)(y:t.T)(v:V)(h:D2 t x=some y)(hv:XV H x v):fk t y v:=by
 cases t with
 | int k=>have:=DN h;subst this;simp only[XV]at hv;simp only[fk];exact hv
 | bool=>have:=BF h;subst this;simp only[XV]at hv;simp only[fk];exact hv
 | str=>have:=Df h;subst this;simp only[XV]at hv;simp only[fk];exact hv
 | sl cs=>have:=Qq (σ:=cs) h hv;simp only[fk];exact this
theorem gI{A B:Type}{a:Option A}{b:Option B}{p:A×B}(h:lA a b=some p):a=some p.1∧b=some p.2:=by
 cases a<;>cases b<;>simp[lA]at h
 subst h;exact⟨rfl,rfl⟩
theorem JY{H:jR}{A:Type}{f:X→Option A}{R:A→V→Prop}(hf:∀x y v,f x=some y→XV H x v→R y v):∀(τ:List Ty) (xs:List X) (y:cN A τ) (vs:List V),Qw f τ xs=some y→bj H xs vs→dz R τ y vs
 | [],xs,y,vs,h,hv=>by
  match xs,h,hv with
  | [x],h,hv=>
   have h:f x=some y:=h;simp only[bj]at hv;obtain⟨v,r,rfl,h1,rfl⟩:=hv;simp only[dz];exact⟨v,rfl,hf _ _ _ h h1⟩
 | t::ts,xs,y,vs,h,hv=>by
  match xs,h,hv with
  | x::r,h,hv=>
   have h:lA (f x) (Qw (D2 t) ts r)=some y:=h;obtain⟨ha,hr⟩:=gI h;simp only[bj]at hv;obtain⟨v,r',rfl,h1,h2⟩:=hv;simp only[dz];exact⟨v,r',rfl,hf _ _ _ ha h1,JY (BB t) ts r _ r' hr h2⟩
theorem gO{H:jR}(τ:List Ty)(xs:List X)(y:az τ)(vs:List V)(h:yS τ xs=some y)(hv:bj H xs vs):cD τ y vs:=by
 cases τ with
 | nil=>
  match xs,h,hv with
  | [],h,hv=>simp only[bj]at hv;simp only[cD];exact hv
 | cons t ts=>
  simp only[cD];exact JY (BB t) ts xs y vs h hv
structure LX (K:Nat→Bool) (H H':jR):Prop where
 c:H.c≤H'.c
 o:∀o cS,H'.x o=some cS→cS.bf<H.c→K o=false∧(∃bD,H.x o=some bD∧bD.bf=cS.bf)∧∀ob,H.v o=some ob→∃ob',H'.v o=some ob'∧ob'.rows.length=ob.rows.length
theorem mU{K:Nat→Bool}{H H':jR}(L:LX K H H'){x:X}(hc:∀o bf i j,x=.ptr o bf i j→bf<H.c)(hr:∀o bf,x=.ref o bf→bf<H.c)(h:x.FR H'):x.FR H:=by
 cases x<;>simp only[X.FR]at h ⊢
 ·obtain⟨cS,h1,h2⟩:=h
  obtain⟨_,⟨bD,h3,h4⟩,_⟩:=L.o _ cS h1 (by rw[h2];exact hr _ _ rfl);exact⟨bD,h3,by rw[h4,h2]⟩
 ·obtain⟨cS,h1,h2⟩:=h
  obtain⟨_,⟨bD,h3,h4⟩,_⟩:=L.o _ cS h1 (by rw[h2];exact hc _ _ _ _ rfl);exact⟨bD,h3,by rw[h4,h2]⟩
mutual
theorem XV.frame{K:Nat→Bool}{H H':jR}(L:LX K H H'):∀(x:X) (v:V),XV H x v→XV H' x v
 | .int k n,v,h=>by simpa only[XV]using h
 | .bool b,v,h=>by simpa only[XV]using h
 | .str s,v,h=>by simpa only[XV]using h
 | .nil,v,h=>by simpa only[XV]using h
 | .sl τ l,v,h=>by simpa only[XV]using h
 | .rd τ l,v,h=>by simpa only[XV]using h
 | .raw u,v,h=>by simpa only[XV]using h
 | .dead,v,h=>by simp only[XV]
 | .ref o bf,v,h=>by
  simp only[XV]at h ⊢;refine⟨aCP h.1 L.c,fun cS h1 h2=>?_⟩;obtain⟨_,⟨bD,h3,h4⟩,h5⟩:=L.o o cS h1 (by rw[h2];exact h.1);obtain⟨ob,h6,h7⟩:=h.2 bD h3 (by rw[h4,h2]);obtain⟨ob',h8,h9⟩:=h5 ob h6;exact⟨ob',h8,by rw[h7,h9]⟩
 | .ptr o bf i j,v,h=>by
  simp only[XV]at h ⊢;refine⟨aCP h.1 L.c,fun cS h1 h2=>?_⟩;obtain⟨_,⟨bD,h3,h4⟩,h5⟩:=L.o o cS h1 (by rw[h2];exact h.1);obtain⟨ob,h6,h10,h7⟩:=h.2 bD h3 (by rw[h4,h2]);obtain⟨ob',h8,h9⟩:=h5 ob h6;exact⟨ob',h8,by rw[h9];exact h10,by rw[h7,h9]⟩
 | .cp row j,v,h=>by
  simp only[XV]at h ⊢;obtain⟨vs,h1,h2⟩:=h;exact⟨vs,h1,bj.frame L row vs h2⟩
 | .agg imp cs,v,h=>by
  simp only[XV]at h ⊢;obtain⟨vs,h1,h2⟩:=h;exact⟨vs,h1,bj.frame L cs vs h2⟩
 | .kQ cs,v,h=>by
  simp only[XV]at h ⊢;obtain⟨vs,h1,h2⟩:=h;exact⟨vs,h1,bj.frame L cs vs h2⟩
 | .fn f bZ,v,h=>by
  simp only[XV]at h ⊢;refine⟨fun x hx=>X.xq L.c (h.1 x hx),fun hc=>?_⟩;obtain⟨vs,h1,h2⟩:=h.2 fun x hx=>mU L (fun o bf i j e=>by have:=h.1 x hx;rw[e]at this;exact this) (fun o bf e=>by have:=h.1 x hx;rw[e]at this;exact this.elim) (hc x hx)
  exact⟨vs,h1,bj.frame L bZ vs h2⟩
theorem bj.frame{K:Nat→Bool}{H H':jR}(L:LX K H H'):∀(xs:List X) (vs:List V),bj H xs vs→bj H' xs vs
 | [],vs,h=>by simpa only[bj]using h
 | x::xs,vs,h=>by
  simp only[bj]at h ⊢;obtain⟨v,r,h1,h2,h3⟩:=h;exact⟨v,r,h1,XV.frame L x v h2,bj.frame L xs r h3⟩
end
theorem XV.bI{K:Nat→Bool}{H H':jR}(L:LX K H H')(x:X)(v:V)(h:XV H x v):XV H' x (v.bI K):=by
 have h1:=XV.frame L x v h;cases v with
 | ref p n=>
  simp only[V.bI]
  split
  ·rename_i hp
   cases x<;>simp only[XV]at h1 h ⊢<;>try (cases h1;done)
   ·rcases h1 with⟨_,h1⟩ | ⟨_,h1,_⟩<;>cases h1
   ·obtain⟨_,h1,_⟩:=h1;cases h1
   ·refine⟨h1.1,fun cS h2 h3=>?_⟩
    obtain⟨_,h4,h5⟩:=h1.2 cS h2 h3;cases h5;rw[(L.o _ cS h2 (by rw[h3];exact h.1)).1]at hp;cases hp
   ·refine⟨h1.1,fun cS h2 h3=>?_⟩
    obtain⟨_,h4,_,h5⟩:=h1.2 cS h2 h3;cases h5
   ·obtain⟨_,h1,_⟩:=h1;cases h1
   ·obtain⟨_,h1,_⟩:=h1
    rename_i imp _ _ _;cases imp<;>cases h1
   ·obtain⟨_,h1,_⟩:=h1;cases h1
   ·refine⟨h1.1,fun hc=>?_⟩
    obtain⟨_,h2,_⟩:=h1.2 hc;cases h2
  ·exact h1
 | ptr p n i j=>
  simp only[V.bI]
  split
  ·rename_i hp
   cases x<;>simp only[XV]at h1 h ⊢<;>try (cases h1;done)
   ·rcases h1 with⟨_,h1⟩ | ⟨_,h1,_⟩<;>cases h1
   ·obtain⟨_,h1,_⟩:=h1;cases h1
   ·refine⟨h1.1,fun cS h2 h3=>?_⟩
    obtain⟨_,h4,h5⟩:=h1.2 cS h2 h3;cases h5
   ·refine⟨h1.1,fun cS h2 h3=>?_⟩
    obtain⟨_,h4,_,h5⟩:=h1.2 cS h2 h3;cases h5;rw[(L.o _ cS h2 (by rw[h3];exact h.1)).1]at hp;cases hp
   ·obtain⟨_,h1,_⟩:=h1;cases h1
   ·obtain⟨_,h1,_⟩:=h1
    rename_i imp _ _ _;cases imp<;>cases h1
   ·obtain⟨_,h1,_⟩:=h1;cases h1
   ·refine⟨h1.1,fun hc=>?_⟩
    obtain⟨_,h2,_⟩:=h1.2 hc;cases h2
  ·exact h1
 | _=>exact h1
theorem bj.bI{K:Nat→Bool}{H H':jR}(L:LX K H H'):∀(xs:List X) (vs:List V),bj H xs vs→bj H' xs (vs.map (V.bI K))
 | [],vs,h=>by simp only[bj]at h ⊢;subst h;rfl
 | x::xs,vs,h=>by
  simp only[bj]at h ⊢;obtain⟨v,r,rfl,h2,h3⟩:=h;exact⟨_,_,rfl,h2.bI L,bj.bI L xs r h3⟩
theorem XV.cu{K:Nat→Bool}{H H':jR}(L:LX K H H')(x:X)(v:V)(h:XV H x v):XV H' x (v.cu K):=by
 cases v with
 | dP cs=>
  simp only[V.cu];cases x<;>simp only[XV]at h ⊢<;>try (cases h;done)
  ·rcases h with⟨_,h⟩ | ⟨_,h,_⟩<;>cases h
  ·obtain⟨_,h,_⟩:=h;cases h
  ·refine⟨aCP h.1 L.c,fun cS h2 h3=>?_⟩
   obtain⟨_,⟨bD,h4,h5⟩,_⟩:=L.o _ cS h2 (by rw[h3];exact h.1);obtain⟨_,_,h6⟩:=h.2 bD h4 (by rw[h5,h3]);cases h6
  ·refine⟨aCP h.1 L.c,fun cS h2 h3=>?_⟩
   obtain⟨_,⟨bD,h4,h5⟩,_⟩:=L.o _ cS h2 (by rw[h3];exact h.1);obtain⟨_,_,_,h6⟩:=h.2 bD h4 (by rw[h5,h3]);cases h6
  ·obtain⟨_,h,_⟩:=h;cases h
  ·obtain⟨vs,h1,h2⟩:=h
   rename_i imp fj;cases imp
   ·cases h1
   ·simp only[ke,V.dP.injEq]at h1
    subst h1;exact⟨_,rfl,bj.bI L _ _ h2⟩
  ·obtain⟨_,h,_⟩:=h;cases h
  ·refine⟨fun y hy=>X.xq L.c (h.1 y hy),fun hc=>?_⟩
   obtain⟨_,h2,_⟩:=h.2 fun y hy=>mU L (fun o bf i j e=>by have:=h.1 y hy;rw[e]at this;exact this) (fun o bf e=>by have:=h.1 y hy;rw[e]at this;exact this.elim) (hc y hy)
   cases h2
 | _=>exact h.bI L
theorem bj.cu{K:Nat→Bool}{H H':jR}(L:LX K H H'):∀(xs:List X) (vs:List V),bj H xs vs→bj H' xs (vs.map (V.cu K))
 | [],vs,h=>by simp only[bj]at h ⊢;subst h;rfl
 | x::xs,vs,h=>by
  simp only[bj]at h ⊢;obtain⟨v,r,rfl,h2,h3⟩:=h;exact⟨_,_,rfl,h2.cu L,bj.cu L xs r h3⟩
theorem bj.get{H:jR}:∀{xs:List X} {vs:List V},bj H xs vs→∀(v:V),v∈vs→∃x∈xs,XV H x v
 | [],vs,h,v,hv=>by simp only[bj]at h;subst h;cases hv
 | x::xs,vs,h,v,hv=>by
  simp only[bj]at h;obtain⟨v',r,rfl,h2,h3⟩:=h;rcases aCJ.1 hv with rfl | hv
  ·exact⟨x,aCK ..,h2⟩
  ·obtain⟨y,h4,h5⟩:=bj.get h3 v hv
   exact⟨y,aCQ _ h4,h5⟩
theorem XV.kill{K:Nat→Bool}{H H':jR}(L:LX K H H')(x:X)(v:V)(h:XV H x v):XV H' x (v.kill K):=by
 cases v with
 | kQ ws=>
  simp only[V.kill];cases x<;>simp only[XV]at h ⊢<;>try (cases h;done)
  ·rcases h with⟨_,h⟩ | ⟨_,h,_⟩<;>cases h
  ·obtain⟨_,h,_⟩:=h;cases h
  ·refine⟨aCP h.1 L.c,fun cS h2 h3=>?_⟩
   obtain⟨_,⟨bD,h4,h5⟩,_⟩:=L.o _ cS h2 (by rw[h3];exact h.1);obtain⟨_,_,h6⟩:=h.2 bD h4 (by rw[h5,h3]);cases h6
  ·refine⟨aCP h.1 L.c,fun cS h2 h3=>?_⟩
   obtain⟨_,⟨bD,h4,h5⟩,_⟩:=L.o _ cS h2 (by rw[h3];exact h.1);obtain⟨_,_,_,h6⟩:=h.2 bD h4 (by rw[h5,h3]);cases h6
  ·obtain⟨_,h,_⟩:=h;cases h
  ·obtain⟨_,h,_⟩:=h
   rename_i imp _ _ _;cases imp<;>cases h
  ·obtain⟨vs,h1,h2⟩:=h
   cases h1
   exact⟨_,rfl,bj.cu L _ _ h2⟩
  ·refine⟨fun y hy=>X.xq L.c (h.1 y hy),fun hc=>?_⟩
   obtain⟨_,h2,_⟩:=h.2 fun y hy=>mU L (fun o bf i j e=>by have:=h.1 y hy;rw[e]at this;exact this) (fun o bf e=>by have:=h.1 y hy;rw[e]at this;exact this.elim) (hc y hy)
   cases h2
 | fn f ws=>
  simp only[V.kill]
  split
  ·rename_i NP
   have h1:=XV.frame L x _ h;cases x<;>simp only[XV]at h h1 ⊢<;>try (cases h;done)
   ·rcases h with⟨_,h⟩ | ⟨_,h,_⟩<;>cases h
   ·obtain⟨_,h,_⟩:=h;cases h
   ·refine⟨h1.1,fun cS h2 h3=>?_⟩
    obtain⟨_,_,h6⟩:=h1.2 cS h2 h3;cases h6
   ·refine⟨h1.1,fun cS h2 h3=>?_⟩
    obtain⟨_,_,_,h6⟩:=h1.2 cS h2 h3;cases h6
   ·obtain⟨_,h,_⟩:=h;cases h
   ·obtain⟨_,h,_⟩:=h
    rename_i imp _ _ _;cases imp<;>cases h
   ·obtain⟨_,h,_⟩:=h;cases h
   ·refine⟨h1.1,fun hc=>?_⟩
    exfalso;obtain⟨vs,h2,h3⟩:=h.2 fun y hy=>mU L (fun o bf i j e=>by have:=h.1 y hy;rw[e]at this;exact this) (fun o bf e=>by have:=h.1 y hy;rw[e]at this;exact this.elim) (hc y hy)
    cases h2
    obtain⟨u,hu,hn⟩:=aEf.1 NP;obtain⟨y,hy,H9⟩:=bj.get h3 u hu;have hcy:=hc y hy;have hgy:=h.1 y hy;cases u<;>simp[V.names]at hn
    ·rename_i p m
     cases y<;>simp only[XV]at H9<;>try (cases H9;done)
     ·rcases H9 with⟨_,h⟩ | ⟨_,h,_⟩<;>cases h
     ·obtain⟨_,h,_⟩:=H9;cases h
     ·exact hgy
     ·obtain⟨cS,h5,h6⟩:=hcy
      obtain⟨_,⟨bD,h7,h8⟩,_⟩:=L.o _ cS h5 (by rw[h6];exact H9.1);obtain⟨_,_,_,h9⟩:=H9.2 bD h7 (by rw[h8,h6]);cases h9
     ·obtain⟨_,h,_⟩:=H9;cases h
     ·obtain⟨_,h,_⟩:=H9
      rename_i imp _ _ _;cases imp<;>cases h
     ·obtain⟨_,h,_⟩:=H9;cases h
     ·exact hgy
     ·exact hgy
    ·rename_i p m i j
     cases y<;>simp only[XV]at H9<;>try (cases H9;done)
     ·rcases H9 with⟨_,h⟩ | ⟨_,h,_⟩<;>cases h
     ·obtain⟨_,h,_⟩:=H9;cases h
     ·exact hgy
     ·obtain⟨cS,h5,h6⟩:=hcy
      obtain⟨h10,⟨bD,h7,h8⟩,_⟩:=L.o _ cS h5 (by rw[h6];exact H9.1);obtain⟨_,_,_,h9⟩:=H9.2 bD h7 (by rw[h8,h6]);cases h9;rw[h10]at hn;cases hn
     ·obtain⟨_,h,_⟩:=H9;cases h
     ·obtain⟨_,h,_⟩:=H9
      rename_i imp _ _ _;cases imp<;>cases h
     ·obtain⟨_,h,_⟩:=H9;cases h
     ·exact hgy
     ·exact hgy
  ·exact XV.frame L x _ h
 | _=>exact h.cu L
inductive IP where
 | val (c:Bool) (x:X)
 | new (c:Bool) (ob:dy) (isRef:Bool)
 | H7 (c:Bool) (o:Nat) (ob:dy)
 | app (c:Bool) (o:Nat) (ob:dy)
 | call (f:FuncId) (args:List X)
 | bad
def X.de:Value→X
 | .int k n=>.int k n
 | .bool b=>.bool b
 | .string s=>.str s
 | .slice none 0 0=>.nil
 | v=>if v.oneCell' then .raw v else .dead
def X.oT:Value→X
 | .agg cs=>if cs.toList.all (·.oneCell')then .agg false (cs.toList.map X.de)else .dead
 | v=>.de v
def bF.ev(s:bF):Operand→X
 | .tmp i=>bif Nat.blt i 100000 then s.t i else .dead
 | .const v=>.oT v
 | .func f=>.fn f []
 | .global _=>.dead
def Fa(rec:TypeId→Option (List Ty)):List Field→Nat→Option (List Ty)
 | [],_=>some []
 | f::fs,off=>match Nat.beq f.offset off with
  | true=>(match rec f.type with
   | some τ=>(match Fa rec fs (off+τ.length)with
    | some r=>some (τ++r)
    | none=>none)
   | none=>none)
  | false=>none
def gj(P:Program):Nat→TypeId→Option (List Ty)
 | 0,_=>none
 | d+1,t=>match P.underlying t with
  | some .bool=>some [.bool]
  | some .string=>some [.str]
  | some (.int k)=>some [.int k]
  | some (.slice e)=>(match gj P d e with
   | some (c::r)=>some [.sl (c::r)]
   | _=>none)
  | some (.struct fs)=>(match Fa (gj P d) fs.toList 0 with
   | some τ=>(match Nat.beq τ.length (P.cellsOf t)with
    | true=>some τ
    | false=>none)
   | none=>none)
  | _=>none
def IT(P:Program)(t:TypeId):Option (List X):=
 match(P.info? t).bind (·.zero)with
 | some v=>if v.cells.toList.all (·.oneCell')&&v.cells.size == aB P t then some (v.cells.toList.map X.de)else none
 | none=>none
def X.pure:X→Bool
 | .int .. | .bool _ | .str _ | .nil | .sl .. | .raw _=>true
 | .agg imp _=>!imp
 | _=>false
def X.cells:X→List X
 | .agg _ cs=>cs
 | x=>[x]
def dv(h:Nat→Option dy)(o bf:Nat):Bool:=match h o with
 | some ob=>Nat.beq ob.bf bf
 | none=>false
def X.fB(h:Nat→Option dy):X→Bool
 | .int .. | .bool _ | .str _ | .nil | .sl .. | .rd .. | .raw _ | .agg ..=>true
 | .ref o v=>dv h o v
 | .ptr o v _ _=>dv h o v
 | _=>false
def apK(row:List X)(j n:Nat):List X:=(row.drop j).take n
def ZK(row:List X)(j:Nat)(cs:List X):List X:=row.take j++cs++row.drop (j+cs.length)
def KT(place:Nat→Option (Nat×Nat)):List X→List (Nat×X)→Option (List X)
 | cs,[]=>some cs
 | cs,(i,v)::rest=>match place i with
  | none=>none
  | some (off,size)=>if v.cells.length=size∧off+v.cells.length≤cs.length then KT place (ZK cs off v.cells) rest else none
def u7:List X→List X→Option Bool
 | [],[]=>some true
 | .int k a::xs,.int k' b::ys=>if k=k' then(u7 xs ys).map (a == b&&·)else none
 | .bool a::xs,.bool b::ys=>(u7 xs ys).map (a == b&&·)
 | _,_=>none
def Q0:X→Option Bool
 | .int ..=>some true
 | .bool _=>some false
 | _=>none
def zj:List Bool→List Bool→Bool
 | [],[]=>true
 | a::as,b::bs=>(a == b)&&zj as bs
 | _,_=>false
def Ry(P:Program)(t:TypeId)(xs:List X):Bool:=match UY P t with
 | some m=>zj m (xs.filterMap Q0)
 | none=>false
def asp(op:BinOp)(k:IntKind)(a b:Int):Option (Bool×X):=
 match op with
 | .add=>some (true,.int k (k.wrap (a+b)))
 | .sub=>some (true,.int k (k.wrap (a-b)))
 | .mul=>some (true,.int k (k.wrap (a*b)))
 | .quo=>some (b != 0,.int k (k.wrap (a.tdiv b)))
 | .rem=>some (b != 0,.int k (a.tmod b))
 | .and=>some (true,.int k (k.wrap ((BitVec.ofInt k.bits a&&&BitVec.ofInt k.bits b).toNat)))
 | .or=>some (true,.int k (k.wrap ((BitVec.ofInt k.bits a ||| BitVec.ofInt k.bits b).toNat)))
 | .eql=>some (true,.bool (a == b))
 | .neq=>some (true,.bool (a != b))
 | .lss=>some (true,.bool (decide (a<b)))
 | .leq=>some (true,.bool (decide (a≤b)))
 | .gtr=>some (true,.bool (decide (a>b)))
 | .geq=>some (true,.bool (decide (a≥b)))
 | _=>none
def Yz(op:BinOp)(k:IntKind)(a b:Int):Option (Bool×X):=
 match op with
 | .shl=>some (decide (0≤b),.int k (k.wrap (a*2 ^ (min b.toNat k.bits))))
 | .shr=>some (decide (0≤b),.int k (a.fdiv (2 ^ (min b.toNat k.bits))))
 | _=>none
def zk(P:Program)(t:TypeId):Bool:=match P.underlying t with
 | some .bool=>true
 | _=>false
def Z2(P:Program)(op:BinOp)(t:TypeId)(p b:Bool):Option (Bool×X):=match op with
 | .eql=>some (p&&(dH P t).isSome,.bool b)
 | .neq=>some (p&&(dH P t).isSome,.bool (!b))
 | _=>none
def ap7(P:Program)(op:BinOp)(t:TypeId)(x y:X):Option (Bool×X):=
 match x,y with
 | .int k a,.int k' b=>if Fw op then Yz op k a b else if k=k' then asp op k a b else none
 | .bool a,.bool b=>match op with
  | .eql=>some (zk P t,.bool (a == b))
  | .neq=>some (zk P t,.bool (a != b))
  | _=>none
 | .agg false xs,.agg false ys=>match op with
  | .eql=>(u7 xs ys).map fun b=>(cK P t&&Ry P t xs,.bool b)
  | .neq=>(u7 xs ys).map fun b=>(cK P t&&Ry P t xs,.bool (!b))
  | _=>none
 | .nil,.nil=>Z2 P op t true true
 | .rd _ l,.nil=>Z2 P op t (decide (0<l.length)) false
 | .raw (.slice (some _) _ _),.nil=>Z2 P op t true false
 | _,_=>none
def Ac(P:Program)(t:TypeId)(imp:Bool)(row:List X)(j:Nat):IP:=
 if cK P t then .val (decide (j+aB P t≤row.length)) (.agg imp (apK row j (aB P t)))
 else if(P.underlying t).isSome then match row[j]? with
  | some x=>if imp || x.pure then .val true x else .bad
  | none=>.bad
 else .bad
def Qf(P:Program)(h:Nat→Option dy)(t:TypeId):X→IP
 | .ptr o bf i j=>match h o with
  | some (.t v _ _ τ l)=>if Nat.beq v bf then Ac P t false (iw τ (l.getD i (E9 τ))) j else .bad
  | some (.u v _ _ imp rows)=>if Nat.beq v bf then match rows[i]? with
   | some row=>Ac P t imp row j
   | none=>.bad
   else .bad
  | none=>.bad
 | .cp row j=>Ac P t false row j
 | _=>.bad
def Mz(P:Program)(h:Nat→Option dy)(t:TypeId)(x y:X):IP:=
 match x with
 | .ptr o bf i j=>match h o with
  | some (.t v ty es τ l)=>if Nat.beq v bf&&y.pure then match yS τ (ZK (iw τ (l.getD i (E9 τ))) j y.cells)with
    | some r=>.H7 (decide (y.cells.length=aB P t)&&decide (j+y.cells.length≤τ.length)) o (.t v ty es τ (l.set i r))
    | none=>.bad
   else .bad
  | some (.u v ty es imp rows)=>if Nat.beq v bf then match rows[i]? with
    | some row=>.H7 (y.fB h&&decide (y.cells.length=aB P t)&&decide (j+y.cells.length≤row.length)) o (.u v ty es (imp || !y.pure) (rows.set i (ZK row j y.cells)))
    | none=>.bad
   else .bad
  | none=>.bad
 | _=>.bad
def MH(P:Program)(h:Nat→Option dy)(t:TypeId)(parts:List (Nat×X)):IP:=
 if AI P t then match IT P t with
  | some z=>match KT (fun i=>(eR P t i).map fun f=>(f.1,aB P f.2)) z parts with
   | some cs=>.val (parts.all fun q=>q.2.fB h) (.agg (!(parts.all (·.2.pure))) cs)
   | none=>.bad
  | none=>.bad
 else .bad
def an6(P:Program)(c e:Nat)(imp:Bool)(rows:List (List X)):dy:=match imp with
 | true=>.u c e (aB P e) true rows
 | false=>match gj P 8 e with
  | some τ=>match jm τ rows with
   | some l=>.t c e (aB P e) τ l
   | none=>.u c e (aB P e) false rows
  | none=>.u c e (aB P e) false rows
def Ft:List Nat→List Nat→Bool
 | [],[]=>true
 | a::as,b::bs=>Nat.beq a b&&Ft as bs
 | _,_=>false
def oH(P:Program)(h:Nat→Option dy)(c:Nat)(t:TypeId)(len:Nat)(parts:List (Nat×X)):IP:=
 match dH P t with
 | some e=>if Ft (parts.map (·.1)) (List.range len)&&decide (len*aB P e≤2 ^ 24)&&decide (0<aB P e)&&(eW P e).isSome then
   .new (parts.all fun q=>q.2.fB h&&decide (q.2.cells.length=aB P e)) (an6 P c e (!(parts.all (·.2.pure))) (parts.map (·.2.cells))) true else .bad
 | none=>.bad
def Xu(P:Program)(c:Nat)(t:TypeId)(x y:X):IP:=
 match dH P t with
 | some e=>match x with
  | .int _ l=>match y with
   | .int _ m=>match IT P e with
    | some z=>match gj P 8 e with
     | some τ=>match yS τ z with
      | some r=>if 0<aB P e then .new (decide (0≤l)&&(decide (l≤m)&&(decide ((bytesOf P e:Int)*m≤140737488355328)&&decide (m≤9223372036854775807)))) (.t c e (aB P e) τ (List.replicate l.toNat r)) true else .bad
      | none=>.bad
     | none=>.bad
    | none=>.bad
   | _=>.bad
  | _=>.bad
 | none=>.bad
def s7(P:Program)(h:Nat→Option dy)(t:TypeId)(f:Nat):X→IP
 | .ptr o bf i j=>match eR P t f with
  | some (off,_)=>.val (dv h o bf) (.ptr o bf i (j+off))
  | none=>.bad
 | .cp row j=>match eR P t f with | some (off,_)=>.val true (.cp row (j+off)) | none=>.bad
 | _=>.bad
def MF(P:Program)(t:TypeId)(f:Nat):X→IP
 | .agg false cs=>match eR P t f with
  | some (off,ft)=>if cK P ft then .val (decide (off+aB P ft≤cs.length)) (.agg false (apK cs off (aB P ft)))
   else if(P.underlying ft).isSome∧aB P ft=1 then match cs[off]? with | some x=>.val true x | none=>.bad
   else .bad
  | none=>.bad
 | _=>.bad
def s6(P:Program)(h:Nat→Option dy)(t:TypeId)(x ix:X):IP:=
 match dH P t,ix with
 | some e,.int _ i=>if aB P e=0 then .bad else match x with
  | .sl τ l=>.val (decide (τ.length=aB P e)&&(decide (0≤i)&&decide (i<l.length))) (.cp (iw τ (l.getD i.toNat (E9 τ))) 0)
  | .rd τ l=>.val (decide (τ.length=aB P e)&&(decide (0≤i)&&decide (i<l.length))) (.cp (iw τ (l.getD i.toNat (E9 τ))) 0)
  | .ref o bf=>match h o with
   | some (.t v _ es τ l)=>.val (Nat.beq v bf&&(decide (es=aB P e)&&(decide (0≤i)&&decide (i<l.length)))) (.ptr o bf i.toNat 0)
   | some (.u v _ es _ rows)=>.val (Nat.beq v bf&&(decide (es=aB P e)&&(decide (0≤i)&&decide (i<rows.length)))) (.ptr o bf i.toNat 0)
   | none=>.bad
  | _=>.bad
 | _,_=>.bad
def MJ(P:Program)(c:Nat)(t:TypeId):IP:=match IT P t with
 | some z=>match Em P t with
  | some (m,e)=>match gj P 8 e with
   | some τ=>match jm τ (cP (aB P e) m z)with
    | some l=>if 0<m∧0<aB P e∧z.length=m*aB P e then .new true (.t c t (aB P e) τ l) false else .bad
    | none=>.bad
   | none=>.bad
  | none=>.new true (.u c t (aB P t) false [z]) false
 | none=>.bad
def wM(P:Program)(h:Nat→Option dy)(t:TypeId)(x ix:X):IP:=
 match Em P t,ix with
 | some (m,e),.int _ i=>if aB P e=0 then .bad else match x with
  | .ptr o bf 0 0=>match h o with
   | some (.t v _ es τ l)=>.val (Nat.beq v bf&&(decide (es=aB P e)&&(Nat.beq m l.length&&(decide (0≤i)&&decide (i<l.length))))) (.ptr o bf i.toNat 0)
   | _=>.bad
  | _=>.bad
 | _,_=>.bad
def amq(P:Program)(h:Nat→Option dy)(t:TypeId)(x ix:X):IP:=match x with
 | .ptr ..=>wM P h t x ix
 | _=>s6 P h t x ix
def aq2(P:Program)(e:TypeId)(x:X)(lo hi:Option Int):IP:=
 match x with
 | .sl τ l=>match lo,hi with
  | none,some h=>.val (decide (0≤h)&&decide (h≤l.length)) (.sl τ (l.take h.toNat))
  | some a,none=>.val (decide (τ.length=aB P e)&&(decide (0≤a)&&decide (a≤l.length))) (.sl τ (l.drop a.toNat))
  | some a,some h=>.val (decide (τ.length=aB P e)&&(decide (0≤a)&&(decide (a≤h)&&decide (h≤l.length)))) (.sl τ ((l.take h.toNat).drop a.toNat))
  | none,none=>.bad
 | .rd τ l=>match lo,hi with
  | none,some h=>.val (decide (0≤h)&&decide (h≤l.length)) (.rd τ (l.take h.toNat))
  | some a,none=>.val (decide (τ.length=aB P e)&&(decide (0≤a)&&decide (a≤l.length))) (.rd τ (l.drop a.toNat))
  | some a,some h=>.val (decide (τ.length=aB P e)&&(decide (0≤a)&&(decide (a≤h)&&decide (h≤l.length)))) (.rd τ ((l.take h.toNat).drop a.toNat))
  | none,none=>.bad
 | _=>.bad
def aar:Option X→Option (Option Int)
 | none=>some none
 | some (.int _ n)=>some (some n)
 | _=>none
def MC(P:Program)(t:TypeId)(x:X)(lo hi:Option X):IP:=
 match dH P t with
 | none=>.bad
 | some e=>if aB P e=0 then .bad else match aar lo,aar hi with
  | some a,some b=>aq2 P e x a b
  | _,_=>.bad
def YW(P:Program)(e:TypeId)(h:Nat→Option dy):X→Option (Σ τ:List Ty,List (az τ))
 | .nil=>(gj P 8 e).map fun τ=>⟨τ,[]⟩
 | .raw (.slice _ 0 _)=>(gj P 8 e).map fun τ=>⟨τ,[]⟩
 | .sl τ l=>some ⟨τ,l⟩
 | .rd τ l=>some ⟨τ,l⟩
 | .ref o bf=>match h o with
  | some (.t v _ _ τ l)=>if Nat.beq v bf then some ⟨τ,l⟩else none
  | some (.u v _ _ imp rows)=>if Nat.beq v bf&&!imp then match gj P 8 e with
    | some τ=>(jm τ rows).map fun l=>⟨τ,l⟩
    | none=>none
   else none
  | none=>none
 | _=>none
def EN(P:Program)(h:Nat→Option dy)(c:Nat)(t:TypeId)(x y:X):IP:=
 match dH P t with
 | none=>.bad
 | some e=>match YW P e h y with
  | none=>.bad
  | some ⟨σ,new⟩=>if aB P e=0∨(eW P e).isNone then .bad else match x with
   | .nil=>.new (decide (σ.length=aB P e)&&(decide (1≤bytesOf P e)&&decide (new.length*bytesOf P e≤140737488355328))) (.t c e (aB P e) σ new) true
   | .ref o bf=>match h o with
    | some (.t v ty es τ l)=>if hτ:ez σ τ=true then
      .app (Nat.beq v bf&&(decide (ty=e)&&(decide (es=aB P e)&&(decide (σ.length=aB P e)&&(decide (1≤bytesOf P e)&&decide ((l.length+new.length)*bytesOf P e≤140737488355328)))))) o (.t c ty es τ (l++iI new hτ))
     else .bad
    | some (.u v ty es imp rows)=>if imp then .bad else match jm σ rows with
     | some l=>.app (Nat.beq v bf&&(decide (ty=e)&&(decide (es=aB P e)&&(decide (σ.length=aB P e)&&(decide (1≤bytesOf P e)&&decide ((l.length+new.length)*bytesOf P e≤140737488355328)))))) o (.t c ty es σ (l++new))
     | none=>.bad
    | none=>.bad
   | _=>.bad
def aoa(h:Nat→Option dy):X→Option Nat
 | .nil=>some 0
 | .sl _ l=>some l.length
 | .rd _ l=>some l.length
 | .ref o bf=>match h o with
  | some (.t v _ _ _ l)=>if Nat.beq v bf then some l.length else none
  | some (.u v _ _ _ rows)=>if Nat.beq v bf then some rows.length else none
  | none=>none
 | _=>none
def aq1:List X→Option X
 | [.int k a,.int k' b]=>if k=k' then some (.int k (if b>a then b else a))else none
 | _=>none
def aq0:List X→Option X
 | [.int k a,.int k' b]=>if k=k' then some (.int k (if b<a then b else a))else none
 | _=>none
def X.Vi(h:Nat→Option dy):X→Bool
 | .ptr o bf _ _=>dv h o bf
 | .int .. | .bool _ | .str _ | .sl .. | .nil | .cp _ _=>true
 | _=>false
def X.at3(h:Nat→Option dy):X→Bool
 | .cp _ _=>true
 | x=>x.Vi h
def aaq(P:Program)(t:TypeId):Bool:=match P.underlying t with
 | some .string=>true
 | _=>false
def Xw(P:Program)(e:Operand→X)(h:Nat→Option dy)(c:Nat)(cl:Call):IP:=
 match cl.callee with
 | .value f=>match e f with
  | .fn g bZ=>if BC P g&&bZ.all (X.at3 h)then .call g (cl.args.toList.map e++bZ)else .bad
  | _=>.bad
 | .builtin .len=>match cl.args.toList,cl.argTypes.toList with
  | [x],[t]=>match e x with
   | .str s=>.val (aaq P t) (.int .i64 s.size)
   | v=>match aoa h v with
    | some n=>.val (dH P t).isSome (.int .i64 n)
    | none=>.bad
  | _,_=>.bad
 | .builtin .append=>match cl.args.toList,cl.argTypes.toList with
  | [x,y],[t,t']=>if t=t' then EN P h c t (e x) (e y)else .bad
  | _,_=>.bad
 | .builtin .max=>match aq1 (cl.args.toList.map e)with | some v=>.val true v | none=>.bad
 | .builtin .min=>match aq0 (cl.args.toList.map e)with | some v=>.val true v | none=>.bad
 | _=>.bad
def Xa(P:Program)(o:Oper)(e:Operand→X)(h:Nat→Option dy)(c:Nat):IP:=
 match o.op with
 | .move x=>.val true (e x)
 | .assign x=>.val true (e x)
 | .pick c a b=>match e c with | .bool t=>(match t with | true=>.val true (e a) | false=>.val true (e b)) | _=>.bad
 | .alloc t=>MJ P c t
 | .box t x=>.new ((e x).fB h&&decide ((e x).cells.length=aB P t)) (.u c t (aB P t) (!(e x).pure) [(e x).cells]) false
 | .build t parts=>MH P h t (parts.toList.map fun q=>(q.1,e q.2))
 | .buildSlice t len parts=>oH P h c t len (parts.toList.map fun q=>(q.1,e q.2))
 | .load t x=>if 0<aB P t then Qf P h t (e x)else .bad
 | .store t x y=>if 0<aB P t then Mz P h t (e x) (e y)else .bad
 | .binOp op t x y _=>match ap7 P op t (e x) (e y)with | some (p,v)=>.val p v | none=>.bad
 | .unOp .not _ x=>match e x with | .bool b=>.val true (.bool (!b)) | _=>.bad
 | .unOp .neg _ x=>match e x with | .int k n=>.val true (.int k (k.wrap (0-n))) | _=>.bad
 | .convert src dst x=>match e x with
  | .int _ n=>match P.underlying src,P.underlying dst with
   | some _,some (.int k)=>.val true (.int k (k.wrap n))
   | _,_=>.bad
  | _=>.bad
 | .slice t x lo hi none=>MC P t (e x) (lo.map e) (hi.map e)
 | .fieldAddr t x f=>s7 P h t f (e x)
 | .field t x f=>MF P t f (e x)
 | .indexAddr t x i=>amq P h t (e x) (e i)
 | .extract x i=>match e x with | .kQ vs=>(match vs[i]? with | some v=>.val true v | none=>.bad) | _=>.bad
 | .makeFunc (.func f) first bZ=>if first.toList.isEmpty&&(bZ.toList.map e).all (X.Vi h)then .val true (.fn f (bZ.toList.map e))else .bad
 | .nilCheck x=>match e x with
  | .ptr o bf i j=>.val (dv h o bf) (.ptr o bf i j)
  | _=>.bad
 | .call c'=>Xw P e h c c'
 | .makeSlice t l m=>Xu P c t (e l) (e m)
 | _=>.bad
