/- AI. -/
import Derived.Test.YtfggefeflojnkaaGreatAlFn
set_option linter.unusedVariables false
namespace Go.AL
def aJ{A B:Type}(R:A→B→Prop):List A→List B→Prop
 | [],[]=>True
 | a::as,b::bs=>R a b∧aJ R as bs
 | _,_=>False
theorem aJ.len{A B:Type}{R:A→B→Prop}:∀{as:List A} {bs:List B},aJ R as bs→as.length=bs.length
 | [],[],_=>rfl
 | a::as,b::bs,h=>by simp[aJ.len h.2]
 | [],_::_,h=>h.elim
 | _::_,[],h=>h.elim
theorem aJ.get{A B:Type}{R:A→B→Prop}:∀{as:List A} {bs:List B},aJ R as bs→∀(i:Nat) (a:A),as[i]? = some a→∃b,bs[i]? = some b∧R a b
 | [],[],_,i,a,h=>by simp at h
 | a::as,b::bs,h,0,x,hx=>by simp at hx;subst hx;exact⟨b,rfl,h.1⟩
 | a::as,b::bs,h,i+1,x,hx=>by
  obtain⟨y,h1,h2⟩:=aJ.get h.2 i x (by grind);grind
 | [],_::_,h,_,_,_=>h.elim
 | _::_,[],h,_,_,_=>h.elim
theorem aJ.uS{A B:Type}{R:A→B→Prop}:∀{as:List A} {bs:List B},aJ R as bs→∀(i:Nat) (b:B),bs[i]? = some b→∃a,as[i]? = some a∧R a b
 | [],[],_,i,a,h=>by simp at h
 | a::as,b::bs,h,0,x,hx=>by simp at hx;subst hx;exact⟨a,rfl,h.1⟩
 | a::as,b::bs,h,i+1,x,hx=>by
  obtain⟨y,h1,h2⟩:=aJ.uS h.2 i x (by grind);grind
 | [],_::_,h,_,_,_=>h.elim
 | _::_,[],h,_,_,_=>h.elim
theorem aJ.app{A B:Type}{R:A→B→Prop}{cs:List A}{ds:List B}(h2:aJ R cs ds):∀{as:List A} {bs:List B},aJ R as bs→aJ R (as++cs) (bs++ds)
 | [],[],_=>h2
 | a::as,b::bs,h=>⟨h.1,aJ.app h2 h.2⟩
 | [],_::_,h=>h.elim
 | _::_,[],h=>h.elim
theorem aJ.take{A B:Type}{R:A→B→Prop}:∀(n:Nat) {as:List A} {bs:List B},aJ R as bs→aJ R (as.take n) (bs.take n)
 | 0,_,_,_=>by simp[aJ]
 | n+1,[],[],_=>trivial
 | n+1,a::as,b::bs,h=>⟨h.1,aJ.take n h.2⟩
 | _+1,[],_::_,h=>h.elim
 | _+1,_::_,[],h=>h.elim
theorem aJ.drop{A B:Type}{R:A→B→Prop}:∀(n:Nat) {as:List A} {bs:List B},aJ R as bs→aJ R (as.drop n) (bs.drop n)
 | 0,_,_,h=>h
 | n+1,[],[],_=>trivial
 | n+1,a::as,b::bs,h=>aJ.drop n h.2
 | _+1,[],_::_,h=>h.elim
 | _+1,_::_,[],h=>h.elim
theorem aJ.set{A B:Type}{R:A→B→Prop}{x:A}{y:B}(uH:R x y):∀(n:Nat) {as:List A} {bs:List B},aJ R as bs→aJ R (as.set n x) (bs.set n y)
 | _,[],[],_=>trivial
 | 0,a::as,b::bs,h=>⟨uH,h.2⟩
 | n+1,a::as,b::bs,h=>⟨h.1,aJ.set uH n h.2⟩
 | _,[],_::_,h=>h.elim
 | _,_::_,[],h=>h.elim
theorem aJ.mono{A B:Type}{R S:A→B→Prop}(hRS:∀a b,R a b→S a b):∀{as:List A} {bs:List B},aJ R as bs→aJ S as bs
 | [],[],_=>trivial
 | a::as,b::bs,h=>⟨hRS _ _ h.1,aJ.mono hRS h.2⟩
 | [],_::_,h=>h.elim
 | _::_,[],h=>h.elim
inductive Ty where
 | int (k:IntKind)
 | bool
 | str
 | sl (cs:List Ty)
mutual
def Ty.T:Ty→Type
 | .int _=>Int
 | .bool=>Bool
 | .str=>ByteArray
 | .sl cs=>List (aA cs)
def aA:List Ty→Type
 | []=>Unit
 | t::ts=>cI t.T ts
def cI(A:Type):List Ty→Type
 | []=>A
 | t::ts=>A×cI t.T ts
end
example:aA [.int .i64,.bool,.sl [.int .i64]]=(Int×Bool×List Int):=rfl
def IntKind.eq:IntKind→IntKind→Bool
 | .i8,.i8 | .i16,.i16 | .i32,.i32 | .i64,.i64 | .u8,.u8 | .u16,.u16 | .u32,.u32 | .u64,.u64=>true
 | _,_=>false
theorem IntKind.Qv{a b:IntKind}(h:IntKind.eq a b=true):a=b:=by cases a<;>cases b<;>first | rfl | cases h
mutual
def Ty.eq:Ty→Ty→Bool
 | .int k,.int k'=>IntKind.eq k k'
 | .bool,.bool=>true
 | .str,.str=>true
 | .sl a,.sl b=>eh a b
 | _,_=>false
def eh:List Ty→List Ty→Bool
 | [],[]=>true
 | a::as,b::bs=>Ty.eq a b&&eh as bs
 | _,_=>false
end
mutual
theorem Ty.Qv:∀{a b:Ty},Ty.eq a b=true→a=b
 | .int k,.int k',h=>by
  grind[Ty.eq,IntKind.Qv]
 | .bool,.bool,_=>rfl
 | .str,.str,_=>rfl
 | .sl a,.sl b,h=>by
  simp only[Ty.eq]at h;have:=ju h;grind
 | .int _,.bool,h=>by grind[Ty.eq]
 | .int _,.str,h=>by grind[Ty.eq]
 | .int _,.sl _,h=>by grind[Ty.eq]
 | .bool,.int _,h=>by grind[Ty.eq]
 | .bool,.str,h=>by grind[Ty.eq]
 | .bool,.sl _,h=>by grind[Ty.eq]
 | .str,.int _,h=>by grind[Ty.eq]
 | .str,.bool,h=>by grind[Ty.eq]
 | .str,.sl _,h=>by grind[Ty.eq]
 | .sl _,.int _,h=>by grind[Ty.eq]
 | .sl _,.bool,h=>by grind[Ty.eq]
 | .sl _,.str,h=>by grind[Ty.eq]
theorem ju:∀{a b:List Ty},eh a b=true→a=b
 | [],[],_=>rfl
 | a::as,b::bs,h=>by
  simp only[eh,azF]at h;have h1:=Ty.Qv h.1;have h2:=ju h.2;grind
 | [],_::_,h=>by grind[eh]
 | _::_,[],h=>by grind[eh]
end
inductive X where
 | int (k:IntKind) (n:Int)
 | bool (b:Bool)
 | str (s:ByteArray)
 | nil
 | sl (τ:List Ty) (l:List (aA τ))
 | rd (τ:List Ty) (l:List (aA τ))
 | ref (o aU:Nat)
 | ptr (o aU i j:Nat)
 | cp (row:List X) (j:Nat)
 | agg (imp:Bool) (cs:List X)
 | kI (vs:List X)
 | raw (v:Value)
 | fn (f:FuncId) (aw:List X)
 | dead
inductive du where
 | t (aU ty es:Nat) (τ:List Ty) (l:List (aA τ))
 | u (aU ty es:Nat) (imp:Bool) (rows:List (List X))
def du.aU:du→Nat
 | .t v ..=>v
 | .u v ..=>v
structure br where
 t:Nat→X
 h:Nat→Option du
 c:Nat
mutual
def eM:(t:Ty)→t.T→V→Prop
 | .int k,n,v=>v=.int k n
 | .bool,b,v=>v=.bool b
 | .str,s,v=>v=.str s
 | .sl cs,l,v=>((l:List (aA cs))=[]∧v=.nil)∨∃rows,v=.sl rows∧aJ (bW cs) l rows
def bW:(τ:List Ty)→aA τ→List V→Prop
 | [],_,row=>row=[]
 | t::ts,x,row=>dz (eM t) ts x row
def dz{A:Type}(R:A→V→Prop):(τ:List Ty)→cI A τ→List V→Prop
 | [],x,row=>∃v,row=[v]∧R x v
 | t::ts,x,row=>∃v r,row=v::r∧R (Prod.fst x) v∧dz (eM t) ts (Prod.snd x) r
end
def bD(τ:List Ty)(l:List (aA τ))(rows:List (List V)):Prop:=aJ (bW τ) l rows
structure jg where
 c:Nat
 x:Nat→Option du
 v:Nat→Option Ob
def X.Gl(H:jg):X→Prop
 | .ref o aU=>∃bn,H.x o=some bn∧bn.aU=aU
 | .ptr o aU _ _=>∃bn,H.x o=some bn∧bn.aU=aU
 | _=>True
def X.Gn(c:Nat):X→Prop
 | .ref _ _=>False
 | .fn _ _=>False
 | .dead=>False
 | .ptr _ aU _ _=>aU<c
 | _=>True
theorem X.xk{c c':Nat}(h:c≤c'){x:X}(hx:x.Gn c):x.Gn c':=by
 cases x<;>simp only[X.Gn]at hx ⊢
 grind
mutual
def XV(H:jg):X→V→Prop
 | .int k n,v=>v=.int k n
 | .bool b,v=>v=.bool b
 | .str s,v=>v=.str s
 | .nil,v=>v=.nil
 | .sl τ l,v=>(l=[]∧v=.nil)∨∃rows,v=.sl rows∧bD τ l rows
 | .rd τ l,v=>∃rows,v=.rd rows∧bD τ l rows
 | .ref o aU,v=>aU<H.c∧∀bn,H.x o=some bn→bn.aU=aU→∃ob,H.v o=some ob∧v=.ref o ob.rows.length
 | .ptr o aU i j,v=>aU<H.c∧∀bn,H.x o=some bn→bn.aU=aU→∃ob,H.v o=some ob∧i<ob.rows.length∧v=.ptr o ob.rows.length i j
 | .cp row j,v=>∃vs,v=.cp vs j∧aW H row vs
 | .agg imp cs,v=>∃vs,v=np imp vs∧aW H cs vs
 | .kI xs,v=>∃vs,v=.kI vs∧aW H xs vs
 | .raw u,v=>v=.raw u
 | .fn f aw,v=>(∀x∈aw,x.Gn H.c)∧((∀x∈aw,x.Gl H)→∃vs,v=.fn f vs∧aW H aw vs)
 | .dead,_=>True
def aW(H:jg):List X→List V→Prop
 | [],vs=>vs=[]
 | x::xs,vs=>∃v r,vs=v::r∧XV H x v∧aW H xs r
end
def fT(H:jg):du→Ob→Prop
 | .t _ ty es τ l,ob=>ob.ty=ty∧ob.es=es∧ob.imp=false∧bD τ l ob.rows
 | .u _ ty es imp rows,ob=>ob.ty=ty∧ob.es=es∧ob.imp=imp∧aJ (aW H) rows ob.rows
structure RS (xs:br) (s:St):Prop where
 t:∀i,XV ⟨xs.c,xs.h,s.h⟩ (xs.t i) (s.t i)
 h:∀o bn,xs.h o=some bn→bn.aU<xs.c∧∃ob,s.h o=some ob∧fT ⟨xs.c,xs.h,s.h⟩ bn ob
def lH:(t:Ty)→t.T→X
 | .int k,n=>.int k n
 | .bool,b=>.bool b
 | .str,s=>.str s
 | .sl cs,l=>.sl cs l
def kU{A:Type}(f:A→X):(τ:List Ty)→cI A τ→List X
 | [],x=>[f x]
 | t::ts,x=>f (Prod.fst x)::kU (lH t) ts (Prod.snd x)
def iF:(τ:List Ty)→aA τ→List X
 | [],_=>[]
 | t::ts,x=>kU (lH t) ts x
def aiN:(t:Ty)→t.T
 | .int _=>(0:Int)
 | .bool=>false
 | .str=>ByteArray.empty
 | .sl _=>[]
def ahQ{A:Type}(a:A):(τ:List Ty)→cI A τ
 | []=>a
 | t::ts=>(a,ahQ (aiN t) ts)
def FE:(τ:List Ty)→aA τ
 | []=>()
 | t::ts=>ahQ (aiN t) ts
theorem vg{H:jg}:∀(t:Ty) (x:t.T) (v:V),eM t x v→XV H (lH t x) v
 | .int k,n,v,h=>by grind[lH,XV,eM]
 | .bool,b,v,h=>by grind[lH,XV,eM]
 | .str,s,v,h=>by grind[lH,XV,eM]
 | .sl cs,l,v,h=>by
  grind[eM,lH,XV,bD]
theorem Py{H:jg}{A:Type}{R:A→V→Prop}{f:A→X}(hf:∀x v,R x v→XV H (f x) v):∀(τ:List Ty) (x:cI A τ) (row:List V),dz R τ x row→aW H (kU f τ x) row
 | [],x,row,h=>by
  grind[dz,kU,aW]
 | t::ts,x,row,h=>by
  simp only[dz]at h;obtain⟨v,r,rfl,hv,hr⟩:=h;simp only[kU,aW];exact⟨v,r,rfl,hf _ _ hv,Py (vg t) ts _ r hr⟩
theorem eo{H:jg}:∀(τ:List Ty) (x:aA τ) (row:List V),bW τ x row→aW H (iF τ x) row
 | [],x,row,h=>by grind[bW,iF,aW]
 | t::ts,x,row,h=>by grind[bW,iF,Py,vg]
def iP{τ σ:List Ty}(l:List (aA τ))(h:eh τ σ=true):List (aA σ):=(ju h)▸l
def Xa(σ:List Ty)(x:X):Option (List (aA σ)):=match x with
 | .sl τ l=>if h:eh τ σ=true then some (iP l h)else none
 | .nil=>some []
 | _=>none
def BI(k:IntKind)(x:X):Option Int:=match x with
 | .int k' n=>bif IntKind.eq k' k then some n else none
 | _=>none
def vj(x:X):Option Bool:=match x with
 | .bool b=>some b
 | _=>none
def AS(x:X):Option ByteArray:=match x with
 | .str b=>some b
 | _=>none
def EC(t:Ty)(x:X):Option t.T:=match t with
 | .int k=>BI k x
 | .bool=>vj x
 | .str=>AS x
 | .sl cs=>Xa cs x
def lg{A B:Type}(a:Option A)(b:Option B):Option (A×B):=match a with
 | some a=>match b with
  | some b=>some (a,b)
  | none=>none
 | none=>none
def Px{A:Type}(f:X→Option A):(τ:List Ty)→List X→Option (cI A τ)
 | []=>fun xs=>match xs with
  | [x]=>f x
  | _=>none
 | t::ts=>fun xs=>match xs with
  | x::r=>lg (f x) (Px (EC t) ts r)
  | []=>none
def wE:(τ:List Ty)→List X→Option (aA τ)
 | []=>fun xs=>match xs with
  | []=>some ()
  | _=>none
 | t::ts=>fun xs=>Px (EC t) ts xs
def aae{A:Type}(a:Option A)(b:Option (List A)):Option (List A):=match a with
 | some a=>match b with
  | some b=>some (a::b)
  | none=>none
 | none=>none
def jz(τ:List Ty):List (List X)→Option (List (aA τ))
 | []=>some []
 | r::rs=>aae (wE τ r) (jz τ rs)
theorem cg{τ σ:List Ty}(l:List (aA τ))(h:eh τ σ=true)(rows:List (List V)):bD σ (iP l h) rows↔bD τ l rows:=by
 have:=ju h;subst this;exact Iff.rfl
theorem Us{τ σ:List Ty}(l:List (aA τ))(h:eh τ σ=true):iP l h=[]↔l=[]:=by
 have:=ju h;subst this;exact Iff.rfl
theorem Pp{H:jg}{σ:List Ty}{x:X}{l:List (aA σ)}{v:V}(hx:Xa σ x=some l)(hv:XV H x v):(l=[]∧v=.nil)∨∃rows,v=.sl rows∧bD σ l rows:=by
 cases x<;>simp only[Xa]at hx<;>try (cases hx;done)
 ·have:=az9 hx
  grind[XV]
 ·split at hx<;>try (cases hx;done)
  rename_i h;have:=az9 hx;grind[XV,Us,cg]
theorem Ek{k:IntKind}{x:X}{n:Int}(h:BI k x=some n):x=.int k n:=by
 cases x<;>simp only[BI]at h<;>try trivial
 grind[IntKind.eq,IntKind.Qv]
theorem Cy{x:X}{b:Bool}(h:vj x=some b):x=.bool b:=by
 cases x<;>simp only[vj]at h<;>first | (cases h;done) | (cases h;rfl)
theorem DJ{x:X}{b:ByteArray}(h:AS x=some b):x=.str b:=by
 cases x<;>simp only[AS]at h<;>first | (cases h;done) | (cases h;rfl)
theorem B6{H:jg}(t:Ty)(x:X)(y:t.T)(v:V)(h:EC t x=some y)(hv:XV H x v):eM t y v:=by
 cases t with
 | int k=>have:=Ek h;grind[XV,eM]
 | bool=>have:=Cy h;grind[XV,eM]
 | str=>have:=DJ h;grind[XV,eM]
 | sl cs=>have:=Pp (σ:=cs) h hv;simp only[eM];exact this
theorem gK{A B:Type}{a:Option A}{b:Option B}{p:A×B}(h:lg a b=some p):a=some p.1∧b=some p.2:=by
 cases a<;>cases b<;>simp[lg]at h
 grind
theorem JE{H:jg}{A:Type}{f:X→Option A}{R:A→V→Prop}(hf:∀x y v,f x=some y→XV H x v→R y v):∀(τ:List Ty) (xs:List X) (y:cI A τ) (vs:List V),Px f τ xs=some y→aW H xs vs→dz R τ y vs
 | [],xs,y,vs,h,hv=>by
  match xs,h,hv with
  | [x],h,hv=>
   have h:f x=some y:=h;simp only[aW]at hv;obtain⟨v,r,rfl,h1,rfl⟩:=hv;simp only[dz];exact⟨v,rfl,hf _ _ _ h h1⟩
 | t::ts,xs,y,vs,h,hv=>by
  match xs,h,hv with
  | x::r,h,hv=>
   have h:lg (f x) (Px (EC t) ts r)=some y:=h;obtain⟨ha,hr⟩:=gK h;simp only[aW]at hv;obtain⟨v,r',rfl,h1,h2⟩:=hv;simp only[dz];exact⟨v,r',rfl,hf _ _ _ ha h1,JE (B6 t) ts r _ r' hr h2⟩
theorem gh{H:jg}(τ:List Ty)(xs:List X)(y:aA τ)(vs:List V)(h:wE τ xs=some y)(hv:aW H xs vs):bW τ y vs:=by
 cases τ with
 | nil=>
  match xs,h,hv with
  | [],h,hv=>simp only[aW]at hv;simp only[bW];exact hv
 | cons t ts=>
  simp only[bW];exact JE (B6 t) ts xs y vs h hv
structure LK (K:Nat→Bool) (H H':jg):Prop where
 c:H.c≤H'.c
 o:∀o cN,H'.x o=some cN→cN.aU<H.c→K o=false∧(∃bn,H.x o=some bn∧bn.aU=cN.aU)∧∀ob,H.v o=some ob→∃ob',H'.v o=some ob'∧ob'.rows.length=ob.rows.length
theorem my{K:Nat→Bool}{H H':jg}(L:LK K H H'){x:X}(hc:∀o aU i j,x=.ptr o aU i j→aU<H.c)(hr:∀o aU,x=.ref o aU→aU<H.c)(h:x.Gl H'):x.Gl H:=by
 cases x<;>simp only[X.Gl]at h ⊢
 ·obtain⟨cN,h1,h2⟩:=h
  obtain⟨_,⟨bn,h3,h4⟩,_⟩:=L.o _ cN h1 (by grind);grind
 ·obtain⟨cN,h1,h2⟩:=h
  obtain⟨_,⟨bn,h3,h4⟩,_⟩:=L.o _ cN h1 (by grind);grind
mutual
theorem XV.frame{K:Nat→Bool}{H H':jg}(L:LK K H H'):∀(x:X) (v:V),XV H x v→XV H' x v
 | .int k n,v,h=>by grind[XV]
 | .bool b,v,h=>by grind[XV]
 | .str s,v,h=>by grind[XV]
 | .nil,v,h=>by grind[XV]
 | .sl τ l,v,h=>by grind[XV]
 | .rd τ l,v,h=>by grind[XV]
 | .raw u,v,h=>by grind[XV]
 | .dead,v,h=>by grind[XV]
 | .ref o aU,v,h=>by
  simp only[XV]at h ⊢;refine⟨az3 h.1 L.c,fun cN h1 h2=>?_⟩;obtain⟨_,⟨bn,h3,h4⟩,h5⟩:=L.o o cN h1 (by grind);grind
 | .ptr o aU i j,v,h=>by
  simp only[XV]at h ⊢;refine⟨az3 h.1 L.c,fun cN h1 h2=>?_⟩;obtain⟨_,⟨bn,h3,h4⟩,h5⟩:=L.o o cN h1 (by grind);grind
 | .cp row j,v,h=>by
  simp only[XV]at h ⊢;obtain⟨vs,h1,h2⟩:=h;exact⟨vs,h1,aW.frame L row vs h2⟩
 | .agg imp cs,v,h=>by
  simp only[XV]at h ⊢;obtain⟨vs,h1,h2⟩:=h;exact⟨vs,h1,aW.frame L cs vs h2⟩
 | .kI cs,v,h=>by
  simp only[XV]at h ⊢;obtain⟨vs,h1,h2⟩:=h;exact⟨vs,h1,aW.frame L cs vs h2⟩
 | .fn f aw,v,h=>by
  simp only[XV]at h ⊢;refine⟨fun x hx=>X.xk L.c (h.1 x hx),fun hc=>?_⟩;obtain⟨vs,h1,h2⟩:=h.2 fun x hx=>my L (fun o aU i j e=>by have:=h.1 x hx;rw[e]at this;exact this) (fun o aU e=>by have:=h.1 x hx;rw[e]at this;exact this.elim) (hc x hx)
  exact⟨vs,h1,aW.frame L aw vs h2⟩
theorem aW.frame{K:Nat→Bool}{H H':jg}(L:LK K H H'):∀(xs:List X) (vs:List V),aW H xs vs→aW H' xs vs
 | [],vs,h=>by grind[aW]
 | x::xs,vs,h=>by
  simp only[aW]at h ⊢;obtain⟨v,r,h1,h2,h3⟩:=h;exact⟨v,r,h1,XV.frame L x v h2,aW.frame L xs r h3⟩
end
theorem XV.bz{K:Nat→Bool}{H H':jg}(L:LK K H H')(x:X)(v:V)(h:XV H x v):XV H' x (v.bz K):=by
 have h1:=XV.frame L x v h;cases v with
 | ref p n=>
  simp only[V.bz]
  split
  ·rename_i hp
   cases x<;>simp only[XV]at h1 h ⊢<;>try (cases h1;done)
   ·grind
   ·grind
   ·refine⟨h1.1,fun cN h2 h3=>?_⟩
    obtain⟨_,h4,h5⟩:=h1.2 cN h2 h3;cases h5;rw[(L.o _ cN h2 (by grind)).1]at hp;cases hp
   ·grind
   ·grind
   ·obtain⟨_,h1,_⟩:=h1
    rename_i imp _ _ _;cases imp<;>cases h1
   all_goals grind
  ·exact h1
 | ptr p n i j=>
  simp only[V.bz]
  split
  ·rename_i hp
   cases x<;>simp only[XV]at h1 h ⊢<;>try (cases h1;done)
   ·grind
   ·grind
   ·grind
   ·refine⟨h1.1,fun cN h2 h3=>?_⟩
    obtain⟨_,h4,_,h5⟩:=h1.2 cN h2 h3;cases h5;rw[(L.o _ cN h2 (by grind)).1]at hp;cases hp
   ·grind
   ·obtain⟨_,h1,_⟩:=h1
    rename_i imp _ _ _;cases imp<;>cases h1
   all_goals grind
  ·exact h1
 | _=>exact h1
theorem aW.bz{K:Nat→Bool}{H H':jg}(L:LK K H H'):∀(xs:List X) (vs:List V),aW H xs vs→aW H' xs (vs.map (V.bz K))
 | [],vs,h=>by grind[aW]
 | x::xs,vs,h=>by
  simp only[aW]at h ⊢;obtain⟨v,r,rfl,h2,h3⟩:=h;exact⟨_,_,rfl,h2.bz L,aW.bz L xs r h3⟩
theorem XV.cc{K:Nat→Bool}{H H':jg}(L:LK K H H')(x:X)(v:V)(h:XV H x v):XV H' x (v.cc K):=by
 cases v with
 | eA cs=>
  simp only[V.cc];cases x<;>simp only[XV]at h ⊢<;>try trivial
  ·grind
  ·grind
  ·refine⟨az3 h.1 L.c,fun cN h2 h3=>?_⟩
   obtain⟨_,⟨bn,h4,h5⟩,_⟩:=L.o _ cN h2 (by grind);grind
  ·refine⟨az3 h.1 L.c,fun cN h2 h3=>?_⟩
   obtain⟨_,⟨bn,h4,h5⟩,_⟩:=L.o _ cN h2 (by grind);grind
  ·grind
  ·obtain⟨vs,h1,h2⟩:=h
   rename_i imp eL;cases imp
   ·cases h1
   ·simp only[np,V.eA.injEq]at h1
    subst h1;exact⟨_,rfl,aW.bz L _ _ h2⟩
  ·grind
  ·refine⟨fun y hy=>X.xk L.c (h.1 y hy),fun hc=>?_⟩
   obtain⟨_,h2,_⟩:=h.2 fun y hy=>my L (fun o aU i j e=>by have:=h.1 y hy;rw[e]at this;exact this) (fun o aU e=>by have:=h.1 y hy;rw[e]at this;exact this.elim) (hc y hy)
   cases h2
 | _=>exact h.bz L
theorem aW.cc{K:Nat→Bool}{H H':jg}(L:LK K H H'):∀(xs:List X) (vs:List V),aW H xs vs→aW H' xs (vs.map (V.cc K))
 | [],vs,h=>by grind[aW]
 | x::xs,vs,h=>by
  simp only[aW]at h ⊢;obtain⟨v,r,rfl,h2,h3⟩:=h;exact⟨_,_,rfl,h2.cc L,aW.cc L xs r h3⟩
theorem aW.get{H:jg}:∀{xs:List X} {vs:List V},aW H xs vs→∀(v:V),v∈vs→∃x∈xs,XV H x v
 | [],vs,h,v,hv=>by grind[aW]
 | x::xs,vs,h,v,hv=>by
  simp only[aW]at h;obtain⟨v',r,rfl,h2,h3⟩:=h;rcases azW.1 hv with rfl | hv
  ·grind
  ·obtain⟨y,h4,h5⟩:=aW.get h3 v hv
   grind
theorem XV.kill{K:Nat→Bool}{H H':jg}(L:LK K H H')(x:X)(v:V)(h:XV H x v):XV H' x (v.kill K):=by
 cases v with
 | kI ws=>
  simp only[V.kill];cases x<;>simp only[XV]at h ⊢<;>try trivial
  ·grind
  ·grind
  ·refine⟨az3 h.1 L.c,fun cN h2 h3=>?_⟩
   obtain⟨_,⟨bn,h4,h5⟩,_⟩:=L.o _ cN h2 (by grind);grind
  ·refine⟨az3 h.1 L.c,fun cN h2 h3=>?_⟩
   obtain⟨_,⟨bn,h4,h5⟩,_⟩:=L.o _ cN h2 (by grind);grind
  ·grind
  ·obtain⟨_,h,_⟩:=h
   rename_i imp _ _ _;cases imp<;>cases h
  ·grind[aW.cc]
  ·refine⟨fun y hy=>X.xk L.c (h.1 y hy),fun hc=>?_⟩
   obtain⟨_,h2,_⟩:=h.2 fun y hy=>my L (fun o aU i j e=>by have:=h.1 y hy;rw[e]at this;exact this) (fun o aU e=>by have:=h.1 y hy;rw[e]at this;exact this.elim) (hc y hy)
   cases h2
 | fn f ws=>
  simp only[V.kill]
  split
  ·rename_i Nv
   have h1:=XV.frame L x _ h;cases x<;>simp only[XV]at h h1 ⊢<;>try trivial
   ·grind
   ·grind
   ·grind
   ·grind
   ·grind
   ·obtain⟨_,h,_⟩:=h
    rename_i imp _ _ _;cases imp<;>cases h
   ·grind
   ·refine⟨h1.1,fun hc=>?_⟩
    exfalso;obtain⟨vs,h2,h3⟩:=h.2 fun y hy=>my L (fun o aU i j e=>by have:=h.1 y hy;rw[e]at this;exact this) (fun o aU e=>by have:=h.1 y hy;rw[e]at this;exact this.elim) (hc y hy)
    cases h2
    obtain⟨u,hu,hn⟩:=aBm.1 Nv;obtain⟨y,hy,H9⟩:=aW.get h3 u hu;have hcy:=hc y hy;have hgy:=h.1 y hy;cases u<;>simp[V.names]at hn
    ·rename_i p m
     cases y<;>simp only[XV]at H9<;>try (cases H9;done)
     ·grind
     ·grind
     ·exact hgy
     ·obtain⟨cN,h5,h6⟩:=hcy
      obtain⟨_,⟨bn,h7,h8⟩,_⟩:=L.o _ cN h5 (by grind);grind
     ·grind
     ·obtain⟨_,h,_⟩:=H9
      rename_i imp _ _ _;cases imp<;>cases h
     ·grind
     ·exact hgy
     ·exact hgy
    ·rename_i p m i j
     cases y<;>simp only[XV]at H9<;>try (cases H9;done)
     ·grind
     ·grind
     ·exact hgy
     ·obtain⟨cN,h5,h6⟩:=hcy
      obtain⟨V5,⟨bn,h7,h8⟩,_⟩:=L.o _ cN h5 (by grind);grind
     ·grind
     ·obtain⟨_,h,_⟩:=H9
      rename_i imp _ _ _;cases imp<;>cases h
     ·grind
     ·exact hgy
     ·exact hgy
  grind[XV.frame]
 | _=>exact h.cc L
abbrev zI:Ty:=.int .i64
inductive Ip where
 | val (c:Bool) (x:X)
 | new (c:Bool) (ob:du) (isRef:Bool)
 | H3 (c:Bool) (o:Nat) (ob:du)
 | app (c:Bool) (o:Nat) (ob:du)
 | call (f:FuncId) (args:List X)
 | bad
def X.db:Value→X
 | .int k n=>.int k n
 | .bool b=>.bool b
 | .string s=>.str s
 | .slice none 0 0=>.nil
 | v=>if v.oneCell' then .raw v else .dead
def X.oD:Value→X
 | .agg cs=>if cs.toList.all (·.oneCell')then .agg false (cs.toList.map X.db)else .dead
 | v=>.db v
def br.ev(s:br):Operand→X
 | .tmp i=>bif Nat.blt i 100000 then s.t i else .dead
 | .const v=>.oD v
 | .func f=>.fn f []
 | .global _=>.dead
def FF(rec:TypeId→Option (List Ty)):List Field→Nat→Option (List Ty)
 | [],_=>some []
 | f::fs,off=>match Nat.beq f.offset off with
  | true=>(match rec f.type with
   | some τ=>(match FF rec fs (off+τ.length)with
    | some r=>some (τ++r)
    | none=>none)
   | none=>none)
  | false=>none
def gf(P:Program):Nat→TypeId→Option (List Ty)
 | 0,_=>none
 | d+1,t=>match P.underlying t with
  | some .bool=>some [.bool]
  | some .string=>some [.str]
  | some (.int k)=>some [.int k]
  | some (.slice e)=>(match gf P d e with
   | some (c::r)=>some [.sl (c::r)]
   | _=>none)
  | some (.struct fs)=>(match FF (gf P d) fs.toList 0 with
   | some τ=>(match Nat.beq τ.length (P.cellsOf t)with
    | true=>some τ
    | false=>none)
   | none=>none)
  | _=>none
def Is(P:Program)(t:TypeId):Option (List X):=
 match(P.info? t).bind (·.zero)with
 | some v=>if v.cells.toList.all (·.oneCell')&&v.cells.size == aq P t then some (v.cells.toList.map X.db)else none
 | none=>none
def X.pure:X→Bool
 | .int .. | .bool _ | .str _ | .nil | .sl .. | .raw _=>true
 | .agg imp _=>!imp
 | _=>false
def X.cells:X→List X
 | .agg _ cs=>cs
 | x=>[x]
def dt(h:Nat→Option du)(o aU:Nat):Bool:=match h o with
 | some ob=>Nat.beq ob.aU aU
 | none=>false
def X.fC(h:Nat→Option du):X→Bool
 | .int .. | .bool _ | .str _ | .nil | .sl .. | .rd .. | .raw _ | .agg ..=>true
 | .ref o v=>dt h o v
 | .ptr o v _ _=>dt h o v
 | _=>false
def amM(row:List X)(j n:Nat):List X:=(row.drop j).take n
def XM(row:List X)(j:Nat)(cs:List X):List X:=row.take j++cs++row.drop (j+cs.length)
def KF(place:Nat→Option (Nat×Nat)):List X→List (Nat×X)→Option (List X)
 | cs,[]=>some cs
 | cs,(i,v)::rest=>match place i with
  | none=>none
  | some (off,size)=>if v.cells.length=size∧off+v.cells.length≤cs.length then KF place (XM cs off v.cells) rest else none
def uV:List X→List X→Option Bool
 | [],[]=>some true
 | .int k a::xs,.int k' b::ys=>if k=k' then(uV xs ys).map (a == b&&·)else none
 | .bool a::xs,.bool b::ys=>(uV xs ys).map (a == b&&·)
 | _,_=>none
def P1:X→Option Bool
 | .int ..=>some true
 | .bool _=>some false
 | _=>none
def zq:List Bool→List Bool→Bool
 | [],[]=>true
 | a::as,b::bs=>(a == b)&&zq as bs
 | _,_=>false
def Qw(P:Program)(t:TypeId)(xs:List X):Bool:=match T7 P t with
 | some m=>zq m (xs.filterMap P1)
 | none=>false
def apv(op:BinOp)(k:IntKind)(a b:Int):Option (Bool×X):=
 match op with
 | .add=>some (true,.int k (k.wrap (a+b)))
 | .sub=>some (true,.int k (k.wrap (a-b)))
 | .mul=>some (true,.int k (k.wrap (a*b)))
 | .quo=>some (b != 0,.int k (k.wrap (a.tdiv b)))
 | .rem=>some (b != 0,.int k (a.tmod b))
 | .and=>some (true,.int k (k.wrap ((BitVec.ofInt k.bits a&&&BitVec.ofInt k.bits b).toNat)))
 | .or=>some (true,.int k (k.wrap ((BitVec.ofInt k.bits a ||| BitVec.ofInt k.bits b).toNat)))
 | .eql=>some (true,.bool (a == b))
 | .neq=>some (true,.bool (a != b))
 | .lss=>some (true,.bool (decide (a<b)))
 | .leq=>some (true,.bool (decide (a≤b)))
 | .gtr=>some (true,.bool (decide (a>b)))
 | .geq=>some (true,.bool (decide (a≥b)))
 | _=>none
def Xc(op:BinOp)(k:IntKind)(a b:Int):Option (Bool×X):=
 match op with
 | .shl=>some (decide (0≤b),.int k (k.wrap (a*2 ^ (min b.toNat k.bits))))
 | .shr=>some (decide (0≤b),.int k (a.fdiv (2 ^ (min b.toNat k.bits))))
 | _=>none
def zr(P:Program)(t:TypeId):Bool:=match P.underlying t with
 | some .bool=>true
 | _=>false
def X9(P:Program)(op:BinOp)(t:TypeId)(p b:Bool):Option (Bool×X):=match op with
 | .eql=>some (p&&(dC P t).isSome,.bool b)
 | .neq=>some (p&&(dC P t).isSome,.bool (!b))
 | _=>none
def am9(P:Program)(op:BinOp)(t:TypeId)(x y:X):Option (Bool×X):=
 match x,y with
 | .int k a,.int k' b=>if FY op then Xc op k a b else if k=k' then apv op k a b else none
 | .bool a,.bool b=>match op with
  | .eql=>some (zr P t,.bool (a == b))
  | .neq=>some (zr P t,.bool (a != b))
  | _=>none
 | .agg false xs,.agg false ys=>match op with
  | .eql=>(uV xs ys).map fun b=>(cE P t&&Qw P t xs,.bool b)
  | .neq=>(uV xs ys).map fun b=>(cE P t&&Qw P t xs,.bool (!b))
  | _=>none
 | .nil,.nil=>X9 P op t true true
 | .rd _ l,.nil=>X9 P op t (decide (0<l.length)) false
 | .raw (.slice (some _) _ _),.nil=>X9 P op t true false
 | _,_=>none
def AG(P:Program)(t:TypeId)(imp:Bool)(row:List X)(j:Nat):Ip:=
 if cE P t then .val (decide (j+aq P t≤row.length)) (.agg imp (amM row j (aq P t)))
 else if(P.underlying t).isSome then match row[j]? with
  | some x=>if imp || x.pure then .val true x else .bad
  | none=>.bad
 else .bad
def Pg(P:Program)(h:Nat→Option du)(t:TypeId):X→Ip
 | .ptr o aU i j=>match h o with
  | some (.t v _ _ τ l)=>if Nat.beq v aU then AG P t false (iF τ (l.getD i (FE τ))) j else .bad
  | some (.u v _ _ imp rows)=>if Nat.beq v aU then match rows[i]? with
   | some row=>AG P t imp row j
   | none=>.bad
   else .bad
  | none=>.bad
 | .cp row j=>AG P t false row j
 | _=>.bad
def L9(P:Program)(h:Nat→Option du)(t:TypeId)(x y:X):Ip:=
 match x with
 | .ptr o aU i j=>match h o with
  | some (.t v ty es τ l)=>if Nat.beq v aU&&y.pure then match wE τ (XM (iF τ (l.getD i (FE τ))) j y.cells)with
    | some r=>.H3 (decide (y.cells.length=aq P t)&&decide (j+y.cells.length≤τ.length)) o (.t v ty es τ (l.set i r))
    | none=>.bad
   else .bad
  | some (.u v ty es imp rows)=>if Nat.beq v aU then match rows[i]? with
    | some row=>.H3 (y.fC h&&decide (y.cells.length=aq P t)&&decide (j+y.cells.length≤row.length)) o (.u v ty es (imp || !y.pure) (rows.set i (XM row j y.cells)))
    | none=>.bad
   else .bad
  | none=>.bad
 | _=>.bad
def Mh(P:Program)(h:Nat→Option du)(t:TypeId)(parts:List (Nat×X)):Ip:=
 if Be P t then match Is P t with
  | some z=>match KF (fun i=>(eQ P t i).map fun f=>(f.1,aq P f.2)) z parts with
   | some cs=>.val (parts.all fun q=>q.2.fC h) (.agg (!(parts.all (·.2.pure))) cs)
   | none=>.bad
  | none=>.bad
 else .bad
def aln(P:Program)(c e:Nat)(imp:Bool)(rows:List (List X)):du:=match imp with
 | true=>.u c e (aq P e) true rows
 | false=>match gf P 8 e with
  | some τ=>match jz τ rows with
   | some l=>.t c e (aq P e) τ l
   | none=>.u c e (aq P e) false rows
  | none=>.u c e (aq P e) false rows
def FT:List Nat→List Nat→Bool
 | [],[]=>true
 | a::as,b::bs=>Nat.beq a b&&FT as bs
 | _,_=>false
def nX(P:Program)(h:Nat→Option du)(c:Nat)(t:TypeId)(len:Nat)(parts:List (Nat×X)):Ip:=
 match dC P t with
 | some e=>if FT (parts.map (·.1)) (List.range len)&&decide (len*aq P e≤2 ^ 24)&&decide (0<aq P e)&&(eX P e).isSome then
   .new (parts.all fun q=>q.2.fC h&&decide (q.2.cells.length=aq P e)) (aln P c e (!(parts.all (·.2.pure))) (parts.map (·.2.cells))) true else .bad
 | none=>.bad
def Wi(P:Program)(c:Nat)(t:TypeId)(x y:X):Ip:=
 match dC P t with
 | some e=>match x with
  | .int _ l=>match y with
   | .int _ m=>match Is P e with
    | some z=>match gf P 8 e with
     | some τ=>match wE τ z with
      | some r=>if 0<aq P e then .new (decide (0≤l)&&(decide (l≤m)&&(decide ((bytesOf P e:Int)*m≤140737488355328)&&decide (m≤9223372036854775807)))) (.t c e (aq P e) τ (List.replicate l.toNat r)) true else .bad
      | none=>.bad
     | none=>.bad
    | none=>.bad
   | _=>.bad
  | _=>.bad
 | none=>.bad
def sB(P:Program)(h:Nat→Option du)(t:TypeId)(f:Nat):X→Ip
 | .ptr o aU i j=>match eQ P t f with
  | some (off,_)=>.val (dt h o aU) (.ptr o aU i (j+off))
  | none=>.bad
 | .cp row j=>match eQ P t f with | some (off,_)=>.val true (.cp row (j+off)) | none=>.bad
 | _=>.bad
def Mf(P:Program)(t:TypeId)(f:Nat):X→Ip
 | .agg false cs=>match eQ P t f with
  | some (off,ft)=>if cE P ft then .val (decide (off+aq P ft≤cs.length)) (.agg false (amM cs off (aq P ft)))
   else if(P.underlying ft).isSome∧aq P ft=1 then match cs[off]? with | some x=>.val true x | none=>.bad
   else .bad
  | none=>.bad
 | _=>.bad
def sA(P:Program)(h:Nat→Option du)(t:TypeId)(x ix:X):Ip:=
 match dC P t,ix with
 | some e,.int _ i=>if aq P e=0 then .bad else match x with
  | .sl τ l=>.val (decide (τ.length=aq P e)&&(decide (0≤i)&&decide (i<l.length))) (.cp (iF τ (l.getD i.toNat (FE τ))) 0)
  | .rd τ l=>.val (decide (τ.length=aq P e)&&(decide (0≤i)&&decide (i<l.length))) (.cp (iF τ (l.getD i.toNat (FE τ))) 0)
  | .ref o aU=>match h o with
   | some (.t v _ es τ l)=>.val (Nat.beq v aU&&(decide (es=aq P e)&&(decide (0≤i)&&decide (i<l.length)))) (.ptr o aU i.toNat 0)
   | some (.u v _ es _ rows)=>.val (Nat.beq v aU&&(decide (es=aq P e)&&(decide (0≤i)&&decide (i<rows.length)))) (.ptr o aU i.toNat 0)
   | none=>.bad
  | _=>.bad
 | _,_=>.bad
def Mj(P:Program)(c:Nat)(t:TypeId):Ip:=match Is P t with
 | some z=>match EN P t with
  | some (m,e)=>match gf P 8 e with
   | some τ=>match jz τ (cL (aq P e) m z)with
    | some l=>if 0<m∧0<aq P e∧z.length=m*aq P e then .new true (.t c t (aq P e) τ l) false else .bad
    | none=>.bad
   | none=>.bad
  | none=>.new true (.u c t (aq P t) false [z]) false
 | none=>.bad
def wy(P:Program)(h:Nat→Option du)(t:TypeId)(x ix:X):Ip:=
 match EN P t,ix with
 | some (m,e),.int _ i=>if aq P e=0 then .bad else match x with
  | .ptr o aU 0 0=>match h o with
   | some (.t v _ es τ l)=>.val (Nat.beq v aU&&(decide (es=aq P e)&&(Nat.beq m l.length&&(decide (0≤i)&&decide (i<l.length))))) (.ptr o aU i.toNat 0)
   | _=>.bad
  | _=>.bad
 | _,_=>.bad
def aj5(P:Program)(h:Nat→Option du)(t:TypeId)(x ix:X):Ip:=match x with
 | .ptr ..=>wy P h t x ix
 | _=>sA P h t x ix
def an8(P:Program)(e:TypeId)(x:X)(lo hi:Option Int):Ip:=
 match x with
 | .sl τ l=>match lo,hi with
  | none,some h=>.val (decide (0≤h)&&decide (h≤l.length)) (.sl τ (l.take h.toNat))
  | some a,none=>.val (decide (τ.length=aq P e)&&(decide (0≤a)&&decide (a≤l.length))) (.sl τ (l.drop a.toNat))
  | some a,some h=>.val (decide (τ.length=aq P e)&&(decide (0≤a)&&(decide (a≤h)&&decide (h≤l.length)))) (.sl τ ((l.take h.toNat).drop a.toNat))
  | none,none=>.bad
 | .rd τ l=>match lo,hi with
  | none,some h=>.val (decide (0≤h)&&decide (h≤l.length)) (.rd τ (l.take h.toNat))
  | some a,none=>.val (decide (τ.length=aq P e)&&(decide (0≤a)&&decide (a≤l.length))) (.rd τ (l.drop a.toNat))
  | some a,some h=>.val (decide (τ.length=aq P e)&&(decide (0≤a)&&(decide (a≤h)&&decide (h≤l.length)))) (.rd τ ((l.take h.toNat).drop a.toNat))
  | none,none=>.bad
 | _=>.bad
def YT:Option X→Option (Option Int)
 | none=>some none
 | some (.int _ n)=>some (some n)
 | _=>none
def Mc(P:Program)(t:TypeId)(x:X)(lo hi:Option X):Ip:=
 match dC P t with
 | none=>.bad
 | some e=>if aq P e=0 then .bad else match YT lo,YT hi with
  | some a,some b=>an8 P e x a b
  | _,_=>.bad
def Xm(P:Program)(e:TypeId)(h:Nat→Option du):X→Option (Σ τ:List Ty,List (aA τ))
 | .nil=>(gf P 8 e).map fun τ=>⟨τ,[]⟩
 | .raw (.slice _ 0 _)=>(gf P 8 e).map fun τ=>⟨τ,[]⟩
 | .sl τ l=>some ⟨τ,l⟩
 | .rd τ l=>some ⟨τ,l⟩
 | .ref o aU=>match h o with
  | some (.t v _ _ τ l)=>if Nat.beq v aU then some ⟨τ,l⟩else none
  | some (.u v _ _ imp rows)=>if Nat.beq v aU&&!imp then match gf P 8 e with
    | some τ=>(jz τ rows).map fun l=>⟨τ,l⟩
    | none=>none
   else none
  | none=>none
 | _=>none
def Fj(P:Program)(h:Nat→Option du)(c:Nat)(t:TypeId)(x y:X):Ip:=
 match dC P t with
 | none=>.bad
 | some e=>match Xm P e h y with
  | none=>.bad
  | some ⟨σ,new⟩=>if aq P e=0∨(eX P e).isNone then .bad else match x with
   | .nil=>.new (decide (σ.length=aq P e)&&(decide (1≤bytesOf P e)&&decide (new.length*bytesOf P e≤140737488355328))) (.t c e (aq P e) σ new) true
   | .ref o aU=>match h o with
    | some (.t v ty es τ l)=>if hτ:eh σ τ=true then
      .app (Nat.beq v aU&&(decide (ty=e)&&(decide (es=aq P e)&&(decide (σ.length=aq P e)&&(decide (1≤bytesOf P e)&&decide ((l.length+new.length)*bytesOf P e≤140737488355328)))))) o (.t c ty es τ (l++iP new hτ))
     else .bad
    | some (.u v ty es imp rows)=>if imp then .bad else match jz σ rows with
     | some l=>.app (Nat.beq v aU&&(decide (ty=e)&&(decide (es=aq P e)&&(decide (σ.length=aq P e)&&(decide (1≤bytesOf P e)&&decide ((l.length+new.length)*bytesOf P e≤140737488355328)))))) o (.t c ty es σ (l++new))
     | none=>.bad
    | none=>.bad
   | _=>.bad
def alv(h:Nat→Option du):X→Option Nat
 | .nil=>some 0
 | .sl _ l=>some l.length
 | .rd _ l=>some l.length
 | .ref o aU=>match h o with
  | some (.t v _ _ _ l)=>if Nat.beq v aU then some l.length else none
  | some (.u v _ _ _ rows)=>if Nat.beq v aU then some rows.length else none
  | none=>none
 | _=>none
def an7:List X→Option X
 | [.int k a,.int k' b]=>if k=k' then some (.int k (if b>a then b else a))else none
 | _=>none
def an6:List X→Option X
 | [.int k a,.int k' b]=>if k=k' then some (.int k (if b<a then b else a))else none
 | _=>none
def X.Ut(h:Nat→Option du):X→Bool
 | .ptr o aU _ _=>dt h o aU
 | .int .. | .bool _ | .str _ | .sl .. | .nil | .cp _ _=>true
 | _=>false
def X.aq2(h:Nat→Option du):X→Bool
 | .cp _ _=>true
 | x=>x.Ut h
def YS(P:Program)(t:TypeId):Bool:=match P.underlying t with
 | some .string=>true
 | _=>false
def Wk(P:Program)(e:Operand→X)(h:Nat→Option du)(c:Nat)(cl:Call):Ip:=
 match cl.callee with
 | .value f=>match e f with
  | .fn g aw=>if B8 P g&&aw.all (X.aq2 h)then .call g (cl.args.toList.map e++aw)else .bad
  | _=>.bad
 | .builtin .len=>match cl.args.toList,cl.argTypes.toList with
  | [x],[t]=>match e x with
   | .str s=>.val (YS P t) (.int .i64 s.size)
   | v=>match alv h v with
    | some n=>.val (dC P t).isSome (.int .i64 n)
    | none=>.bad
  | _,_=>.bad
 | .builtin .append=>match cl.args.toList,cl.argTypes.toList with
  | [x,y],[t,t']=>if t=t' then Fj P h c t (e x) (e y)else .bad
  | _,_=>.bad
 | .builtin .max=>match an7 (cl.args.toList.map e)with | some v=>.val true v | none=>.bad
 | .builtin .min=>match an6 (cl.args.toList.map e)with | some v=>.val true v | none=>.bad
 | _=>.bad
def Wg(P:Program)(o:Oper)(e:Operand→X)(h:Nat→Option du)(c:Nat):Ip:=
 match o.op with
 | .move x=>.val true (e x)
 | .assign x=>.val true (e x)
 | .pick c a b=>match e c with | .bool t=>(match t with | true=>.val true (e a) | false=>.val true (e b)) | _=>.bad
 | .alloc t=>Mj P c t
 | .box t x=>.new ((e x).fC h&&decide ((e x).cells.length=aq P t)) (.u c t (aq P t) (!(e x).pure) [(e x).cells]) false
 | .build t parts=>Mh P h t (parts.toList.map fun q=>(q.1,e q.2))
 | .buildSlice t len parts=>nX P h c t len (parts.toList.map fun q=>(q.1,e q.2))
 | .load t x=>if 0<aq P t then Pg P h t (e x)else .bad
 | .store t x y=>if 0<aq P t then L9 P h t (e x) (e y)else .bad
 | .binOp op t x y _=>match am9 P op t (e x) (e y)with | some (p,v)=>.val p v | none=>.bad
 | .unOp .not _ x=>match e x with | .bool b=>.val true (.bool (!b)) | _=>.bad
 | .unOp .neg _ x=>match e x with | .int k n=>.val true (.int k (k.wrap (0-n))) | _=>.bad
 | .convert src dst x=>match e x with
  | .int _ n=>match P.underlying src,P.underlying dst with
   | some _,some (.int k)=>.val true (.int k (k.wrap n))
   | _,_=>.bad
  | _=>.bad
 | .slice t x lo hi none=>Mc P t (e x) (lo.map e) (hi.map e)
 | .fieldAddr t x f=>sB P h t f (e x)
 | .field t x f=>Mf P t f (e x)
 | .indexAddr t x i=>aj5 P h t (e x) (e i)
 | .extract x i=>match e x with | .kI vs=>(match vs[i]? with | some v=>.val true v | none=>.bad) | _=>.bad
 | .makeFunc (.func f) first aw=>if first.toList.isEmpty&&(aw.toList.map e).all (X.Ut h)then .val true (.fn f (aw.toList.map e))else .bad
 | .nilCheck x=>match e x with
  | .ptr o aU i j=>.val (dt h o aU) (.ptr o aU i j)
  | _=>.bad
 | .call c'=>Wk P e h c c'
 | .makeSlice t l m=>Wi P c t (e l) (e m)
 | _=>.bad
