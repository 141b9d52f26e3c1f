/- AI. -/
import Derived.Test.YtfggefeflojnkaaGreatAxEx
namespace Go.AL
mutual
theorem AP:∀(t:Ty) (x:t.T) (v:V),eM t x v→bJ v
 | .int k,x,v,h=>by simp only[eM]at h;subst h;exact .int _ _
 | .bool,x,v,h=>by simp only[eM]at h;subst h;exact .bool _
 | .str,x,v,h=>by simp only[eM]at h;subst h;exact .str _
 | .sl cs,x,v,h=>by
  simp only[eM]at h;rcases h with⟨_,rfl⟩ | ⟨rows,rfl,hr⟩
  ·exact .nil
  ·refine .sl rows fun row aK y hy=>?_
   obtain⟨i,hi⟩:=aAr aK;obtain⟨a,_,ha⟩:=aJ.uS hr i row hi;exact kX cs a row ha y hy
theorem kX:∀(τ:List Ty) (x:aA τ) (row:List V),bW τ x row→∀y∈row,bJ y
 | [],x,row,h,y,hy=>by grind[bW]
 | t::ts,x,row,h,y,hy=>by
  simp only[bW]at h;exact A4 ts (eM t) (fun x v=>AP t x v) x row h y hy
theorem A4{A:Type}:∀(τ:List Ty) (R:A→V→Prop),(∀x v,R x v→bJ v)→∀(x:cI A τ) (row:List V),dz R τ x row→∀y∈row,bJ y
 | [],R,hR,x,row,h,y,hy=>by
  grind[dz]
 | t::ts,R,hR,x,row,h,y,hy=>by
  simp only[dz]at h;obtain⟨v,r,rfl,hv,hr⟩:=h;rcases azW.1 hy with rfl | hy
  ·grind
  ·exact A4 ts (eM t) (fun x v=>AP t x v) _ r hr y hy
end
theorem D2(k:RK)(x:k.T)(rd:RD)(h:tn k x rd):rd.deep:=by
 cases k with
 | v t=>
  obtain⟨y,rfl,hy⟩:=h;have:=AP t x y hy;have F9:=(nZ t x y hy).2;show iD (fun _=>true) y;cases this<;>first | exact bJ.int _ _ | exact bJ.bool _ | exact bJ.str _ | exact bJ.nil | exact bJ.raw _ | exact bJ.sl _ ‹_›
 | g τ=>
  obtain⟨row,rfl,hy⟩:=h;exact kX τ x row hy
 | o ty es τ=>
  obtain⟨rows,rfl,hy⟩:=h;intro row aK;obtain⟨i,hi⟩:=aAr aK;obtain⟨a,_,ha⟩:=aJ.uS hy i row hi;grind[kX]
theorem A9{A:Type}{f:A→RD→Prop}(hf:∀x rd,f x rd→rd.deep):∀(ks:List RK) (x:eC.jV A ks) (rds:List RD),df f ks x rds→∀rd∈rds,rd.deep
 | [],x,rds,h,rd,hr=>by
  grind[df]
 | k::ks,x,rds,h,rd,hr=>by
  simp only[df]at h;obtain⟨y,r,rfl,h1,h2⟩:=h;rcases azW.1 hr with rfl | hr
  ·grind
  ·exact A9 (fun x rd=>D2 k x rd) ks _ r h2 rd hr
theorem Tc(ks:List RK)(x:eC ks)(rds:List RD)(h:cf ks x rds):∀rd∈rds,rd.deep:=by
 cases ks with
 | nil=>grind[cf]
 | cons k ks=>grind[cf,A9,D2]
theorem du.sL(v:Nat)(ob:du):(ob.l8 v).aU=v:=by cases ob<;>rfl
theorem fT.l8{H:jg}{ob:du}{ob':Ob}(v:Nat)(h:fT H ob ob'):fT H (ob.l8 v) ob':=by cases ob<;>exact h
theorem uY{n:Nat}{d:Option Nat}(h:Uc n d=true):dOK n d:=by
 cases d with
 | none=>trivial
 | some d=>exact aBz h
def iN(s:St)(F:Nat→Prop)(x x':V):Prop:=(x'=x∧x.pure=true∧∀cs,x ≠ .agg cs)∨∃p n ob,x=.ref p n∧F p∧s.h p=some ob∧ob.imp=false∧n=ob.rows.length∧x'=.sl ob.rows
section
variable {xs:br} {s:St} {F:Nat→Prop}
theorem agN(R:RS xs s){σ:List Ty}{x:X}{l:List (aA σ)}{f:List Nat}{v:V}(h:amt xs.h σ x=some (l,f))(hv:XV ⟨xs.c,xs.h,s.h⟩ x v)(hF:∀p∈f,F p):∃v',iN s F v v'∧((l=[]∧v'=.nil)∨∃rows,v'=.sl rows∧bD σ l rows):=by
 have sl:∀{x:X} {l:List (aA σ)} {v:V},Xa σ x=some l→XV ⟨xs.c,xs.h,s.h⟩ x v→∃v',iN s F v v'∧((l=[]∧v'=.nil)∨∃rows,v'=.sl rows∧bD σ l rows):=by
  intro x l v h hv;have h1:=Pp h hv;refine⟨v,.inl ⟨rfl,?_⟩,h1⟩;rcases h1 with⟨_,rfl⟩ | ⟨rows,rfl,_⟩<;>exact⟨rfl,fun cs h=>by cases h⟩
 unfold amt at h
 split at h
 ·rename_i p aU
  split at h
  ·rename_i v' ty es τ l' ho
   split at h<;>try trivial
   rename_i hτ;obtain⟨hb,h⟩:=aS h;simp only[azN,azY]at h;obtain⟨rfl,rfl⟩:=h;obtain⟨bn,ob,h1,h2,h3,h4,rfl⟩:=cM (H:=⟨xs.c,xs.h,s.h⟩) R.h hv (by unfold dt;simp only;rw[ho];exact hb);simp only at h1 h3;rw[ho]at h1;cases h1;obtain⟨_,_,himp,h8⟩:=h4;refine⟨.sl ob.rows,.inr ⟨p,_,ob,rfl,hF p (by simp),h3,himp,rfl,rfl⟩,?_⟩;grind[cg]
  ·rename_i v' ty es imp rows ho
   obtain⟨hb,h⟩:=aS h;simp only[azF,aAi]at hb
   split at h<;>try trivial
   rename_i l' hl;simp only[azN,azY]at h;obtain⟨rfl,rfl⟩:=h;obtain⟨bn,ob,h1,h2,h3,h4,rfl⟩:=cM (H:=⟨xs.c,xs.h,s.h⟩) R.h hv (by unfold dt;simp only;rw[ho];exact hb.1);simp only at h1 h3;rw[ho]at h1;cases h1;obtain⟨_,_,himp,h8⟩:=h4;refine⟨.sl ob.rows,.inr ⟨p,_,ob,rfl,hF p (by simp),h3,by rw[himp];exact hb.2,rfl,rfl⟩,?_⟩;grind[dq]
  ·cases h
 grind
theorem zh(R:RS xs s)(t:Ty){x:X}{y:t.T}{f:List Nat}{v:V}(h:SY xs.h t x=some (y,f))(hv:XV ⟨xs.c,xs.h,s.h⟩ x v)(hF:∀p∈f,F p):∃v',iN s F v v'∧eM t y v':=by
 cases t with
 | sl σ=>
  obtain⟨v',h1,h2⟩:=agN (σ:=σ) R h hv hF;exact⟨v',h1,by simp only[eM];exact h2⟩
 | int k=>
  change noF (BI k x)=some (y,f)at h
  unfold noF at h
  split at h<;>try trivial
  rename_i a ha;have he:=(Prod.mk.inj (az9 h)).1;have:=Ek ha;subst this;simp only[XV]at hv;exact⟨v,.inl ⟨rfl,by subst hv;exact⟨rfl,fun cs h=>by cases h⟩⟩,by simp only[eM];rw[hv];exact azT _ he⟩
 | bool=>
  change noF (vj x)=some (y,f)at h
  unfold noF at h
  split at h<;>try trivial
  rename_i a ha;have he:=(Prod.mk.inj (az9 h)).1;have:=Cy ha;subst this;simp only[XV]at hv;exact⟨v,.inl ⟨rfl,by subst hv;exact⟨rfl,fun cs h=>by cases h⟩⟩,by simp only[eM];rw[hv];exact azT _ he⟩
 | str=>
  change noF (AS x)=some (y,f)at h
  unfold noF at h
  split at h<;>try trivial
  rename_i a ha;have he:=(Prod.mk.inj (az9 h)).1;have:=DJ ha;subst this;simp only[XV]at hv;exact⟨v,.inl ⟨rfl,by subst hv;exact⟨rfl,fun cs h=>by cases h⟩⟩,by simp only[eM];rw[hv];exact azT _ he⟩
theorem ML{A B:Type}{a:Option (A×List Nat)}{b:Option (B×List Nat)}{p:A×B}{f:List Nat}(h:PG a b=some (p,f)):∃f1 f2,a=some (p.1,f1)∧b=some (p.2,f2)∧f=f1++f2:=by
 unfold PG at h
 grind
theorem DM(R:RS xs s){A:Type}{f:X→Option (A×List Nat)}{Q:A→V→Prop}(hf:∀x y g v,f x=some (y,g)→XV ⟨xs.c,xs.h,s.h⟩ x v→(∀p∈g,F p)→∃v',iN s F v v'∧Q y v'):
  ∀(τ:List Ty) (cs:List X) (y:cI A τ) (g:List Nat) (vs:List V),Fw xs.h f τ cs=some (y,g)→aW ⟨xs.c,xs.h,s.h⟩ cs vs→(∀p∈g,F p)→∃bS,aJ (iN s F) vs bS∧dz Q τ y bS
 | [],cs,y,g,vs,h,hv,hF=>by
  match cs,h,hv with
  | [x],h,hv=>
   have h:f x=some (y,g):=h;simp only[aW]at hv;obtain⟨v,r,rfl,h1,rfl⟩:=hv;obtain⟨v',h2,h3⟩:=hf x y g v h h1 hF;simp only[dz];exact⟨[v'],⟨h2,trivial⟩,v',rfl,h3⟩
 | t::ts,cs,y,g,vs,h,hv,hF=>by
  match cs,h,hv with
  | x::r,h,hv=>
   have h:PG (f x) (Fw xs.h (SY xs.h t) ts r)=some (y,g):=h;obtain⟨f1,f2,h1,h2,rfl⟩:=ML h;simp only[aW]at hv;obtain⟨v,r',rfl,h3,h4⟩:=hv;obtain⟨v',h5,h6⟩:=hf x _ f1 v h1 h3 (fun p hp=>hF p (aBd _ hp));obtain⟨bS,h7,h8⟩:=DM R (fun x y g v=>zh R t) ts r _ f2 r' h2 h4 (fun p hp=>hF p (aBe _ hp));simp only[dz];exact⟨v'::bS,⟨h5,h7⟩,v',bS,rfl,h6,h8⟩
theorem kQ(R:RS xs s)(τ:List Ty){cs:List X}{y:aA τ}{g:List Nat}{vs:List V}(h:tT xs.h τ cs=some (y,g))(hv:aW ⟨xs.c,xs.h,s.h⟩ cs vs)(hF:∀p∈g,F p):∃bS,aJ (iN s F) vs bS∧bW τ y bS:=by
 cases τ with
 | nil=>
  match cs,h,hv with
  | [],h,hv=>simp only[aW]at hv;subst hv;exact⟨[],trivial,by simp only[bW]⟩
 | cons t ts=>
  simp only[bW];exact DM R (fun x y g v=>zh R t) ts cs y g vs h hv hF
end
def Xd:V→Bool
 | .int .. | .bool _ | .str _=>true
 | _=>false
def RD.AX:RD→Bool
 | .v x=>Xd x
 | _=>false
def vwC(x y:V):Prop:=(y=x∧x.atom=true)∨∃rows,x=.sl rows∧y=.rd rows
def vwA(x y:V):Prop:=y=x∨∃cs eL,x=.agg cs∧y=.eA eL∧aJ vwC cs eL
theorem Bd{w:World}{A1 A:Nat→Prop}{rds:List RD}{w':World}{us:List Value}{β':Nat→Option Nat}{A':Nat→Prop}(hA:∀b,A b→b<w.heap.size)(h:vu w A1 rds w' us β' A')(hs:∀rd∈rds,rd.AX=true):vu w A rds w' us iE A:=by
 have hn:∀k,gC rds k=none:=fun k=>by
  unfold gC;cases hr:rds[k]? with
  | none=>rfl
  | some rd=>
   have:=hs rd (azO hr);cases rd with
   | v x=>rfl
   | o ty es rows=>grind[RD.AX]
 refine⟨h.len,⟨fun p ob hp=>(by grind),fun p q o1 o2 b hp=>(by grind),fun b hb=>az3 (hA b hb) h.ev.size⟩,fun k rd hk=>?_,fun b _ hb=>hb,h.ev,fun k ob b hp=>(by grind)⟩;obtain⟨u,h1,h2⟩:=h.rel k rd hk;refine⟨u,h1,?_⟩;have:=hs rd (azO hk);cases rd with
 | v x=>
  cases x<;>simp only[RD.AX,Xd]at this<;>try (cases this;done)
  ·cases (show aY _ _ _ _ from h2);exact cD.aN (.int _ _)
  ·cases (show aY _ _ _ _ from h2);exact cD.aN (.bool _)
  ·cases (show aY _ _ _ _ from h2);exact cD.aN (.str _)
 | o ty es rows=>grind[RD.AX]
def aiO(h:Nat→Option Ob)(x y:V):Prop:=(∃o n ob,x=.ref o n∧h o=some ob∧n=ob.rows.length∧ob.imp=false∧y=.rd ob.rows)∨(y=x∧x.atom=true)
def K9(h:Nat→Option Ob)(x y:V):Prop:=jU h x y∨∃cs eL,x=.eA cs∧y=.eA eL∧aJ (aiO h) cs eL
theorem aaz{w:World}{A:Nat→Prop}{h:Nat→Option Ob}{β:Nat→Option Nat}(H:bU ⟨w,A,h,β⟩){x y:V}{u:Value}(hr:Rel ⟨w,A,h,β⟩ x u)(ha:K9 h x y):Rel ⟨w,A,fB,iE⟩ y u:=by
 rcases ha with ha | ⟨cs,eL,rfl,rfl,hc⟩
 ·grind[GG]
 ·obtain⟨us,hu,hl,j6⟩:=hr
  refine⟨us,hu,by rw[hl,hc.len],fun j z hz=>?_⟩;obtain⟨z',hz',TN⟩:=aJ.uS hc j z hz;obtain⟨q,q1,q2,q3⟩:=j6 j z' hz';refine⟨q,q1,q2,?_⟩;rcases TN with⟨o,n,ob,rfl,h1,h2,h3,rfl⟩ | ⟨rfl,fP⟩
  ·have:Rel ⟨w,A,fB,iE⟩ (.rd ob.rows) q:=GG H (x:=.ref o n) q3 ⟨ob,h1,h2,h3,rfl⟩
   exact this
  grind[wG]
theorem Uz{w:World}{A:Nat→Prop}{h:Nat→Option Ob}{β:Nat→Option Nat}(H:bU ⟨w,A,h,β⟩){xs ys:List V}{vs:Array Value}(ha:aJ (K9 h) xs ys)(hr:∀(i:Nat) (x:V),xs[i]? = some x→∃u,vs[i]? = some u∧Rel ⟨w,A,h,β⟩ x u):
  ∀(i:Nat) (y:V),ys[i]? = some y→∃u,vs[i]? = some u∧Rel ⟨w,A,fB,iE⟩ y u:=fun i y hy=>by
 obtain⟨x,hx,uH⟩:=aJ.uS ha i y hy;grind[aaz]
section
variable {xs:br} {s:St}
theorem Lb(R:RS xs s)(k:AK)(x:X)(a:k.T)(v:V)(h:EP xs.h k x=some a)(hx:XV ⟨xs.c,xs.h,s.h⟩ x v):∃v' VS,lZ k a v'∧vwA v' VS∧K9 s.h v VS:=by
 have oA:aaB xs.h k x=some a→∃v' VS,lZ k a v'∧vwA v' VS∧K9 s.h v VS:=fun h=>by
  obtain⟨v',h1,h2⟩:=GH R.h k x a v h hx;exact⟨v',v',h2,.inl rfl,.inl h1⟩
 cases k with
 | g τ=>
  change gDV xs.h τ x=some a at h
  cases x<;>try trivial
  rename_i imp cs;cases imp with
  | true=>
   change (match tT xs.h τ cs with | some (v,_)=>some v | none=>none)=some a at h
   cases hg:tT xs.h τ cs with
   | none=>grind
   | some q=>
   obtain⟨v0,g⟩:=q;rw[hg]at h;cases h;simp only[XV]at hx;obtain⟨vs,rfl,e2⟩:=hx;obtain⟨bS,h1,h2⟩:=kQ (F:=fun _=>True) R τ hg e2 (fun _ _=>trivial);have key:∀{vs bS:List V},aJ (iN s fun _=>True) vs bS→(∀y∈bS,bJ y)→∃Dk,aJ vwC bS Dk∧aJ (aiO s.h) vs Dk:=by
    intro vs;induction vs with
    | nil=>intro bS h _;cases bS with
     | nil=>exact⟨[],trivial,trivial⟩
     | cons _ _=>exact h.elim
    | cons y vs ih=>intro bS h hp;cases bS with
     | nil=>exact h.elim
     | cons z bS=>
      obtain⟨r,r1,r2⟩:=ih h.2 (fun y hy=>hp y (az6 _ hy));rcases h.1 with⟨rfl,_,_⟩ | ⟨p,n,ob,rfl,_,q1,q2,q3,rfl⟩
      ·have fP:V.atom z=true:=by
        have:=hp z (az1 ..);cases this<;>rfl
       exact⟨z::r,⟨.inl ⟨rfl,fP⟩,r1⟩,⟨.inr ⟨rfl,fP⟩,r2⟩⟩
      ·exact⟨.rd ob.rows::r,⟨.inr ⟨ob.rows,rfl,rfl⟩,r1⟩,⟨.inl ⟨p,n,ob,rfl,q1,q3,q2,rfl⟩,r2⟩⟩
   obtain⟨r,r1,r2⟩:=key h1 (kX τ _ bS h2);exact⟨.agg bS,.eA r,⟨bS,rfl,h2⟩,.inr ⟨bS,r,rfl,rfl,r1⟩,.inr ⟨vs,r,rfl,rfl,r2⟩⟩
  | false=>exact oA h
 | c t=>exact oA h
 | rd τ=>exact oA h
 | cp τ=>exact oA h
 | fn f aw=>exact oA h
 | raw u=>exact oA h
theorem UB(R:RS xs s)(ks:List AK)(l:List X)(a:dA ks)(vs:List V)(h:aax xs.h ks l=some a)(hv:aW ⟨xs.c,xs.h,s.h⟩ l vs):∃bS Dk,bY ks a bS∧aJ vwA bS Dk∧aJ (K9 s.h) vs Dk:=by
 have key:∀(ks:List AK) {A:Type} (f:X→Option A) (Q:A→V→Prop),(∀x a v,f x=some a→XV ⟨xs.c,xs.h,s.h⟩ x v→∃v' VS,Q a v'∧vwA v' VS∧K9 s.h v VS)→∀(l:List X) (a:dA.ky A ks) (vs:List V),z6 xs.h f ks l=some a→aW ⟨xs.c,xs.h,s.h⟩ l vs→
   ∃bS Dk,ed Q ks a bS∧aJ vwA bS Dk∧aJ (K9 s.h) vs Dk:=by
  intro ks;induction ks with
  | nil=>
   intro A f Q hf l a vs h hv
   match l,h,hv with
   | [x],h,hv=>
    have h:f x=some a:=h;simp only[aW]at hv;obtain⟨v,r,rfl,h1,rfl⟩:=hv;obtain⟨v',VS,q1,q2,q3⟩:=hf x a v h h1;simp only[ed];exact⟨[v'],[VS],⟨v',rfl,q1⟩,⟨q2,trivial⟩,⟨q3,trivial⟩⟩
  | cons k ks ih=>
   intro A f Q hf l a vs h hv
   match l,h,hv with
   | x::r,h,hv=>
    have h:lg (f x) (z6 xs.h (EP xs.h k) ks r)=some a:=h;obtain⟨ha,hr⟩:=gK h;simp only[aW]at hv;obtain⟨v,r',rfl,h1,h2⟩:=hv;obtain⟨v',VS,q1,q2,q3⟩:=hf x _ v ha h1;obtain⟨ws',ass,p1,p2,p3⟩:=ih (EP xs.h k) (lZ k) (fun x a v=>Lb R k x a v) r _ r' hr h2;simp only[ed];exact⟨v'::ws',VS::ass,⟨v',ws',rfl,q1,p1⟩,⟨q2,p2⟩,⟨q3,p3⟩⟩
 cases ks with
 | nil=>
  match l,h,hv with
  | [],h,hv=>simp only[aW]at hv;subst hv;exact⟨[],[],by simp only[bY],trivial,trivial⟩
 | cons k ks=>
  simp only[bY];exact key ks (EP xs.h k) (lZ k) (fun x a v=>Lb R k x a v) l a vs h hv
end
theorem WD:∀(t:Ty) (x:t.T) (v:V),ahN t=true→eM t x v→Xd v=true
 | .int k,x,v,_,h=>by simp only[eM]at h;subst h;rfl
 | .bool,x,v,_,h=>by simp only[eM]at h;subst h;rfl
 | .str,x,v,_,h=>by simp only[eM]at h;subst h;rfl
 | .sl cs,x,v,hs,h=>by cases hs
theorem JB:∀(ks:List RK) (x:eC ks) (rds:List RD),ks.all JC=true→cf ks x rds→∀rd∈rds,rd.AX=true:=by
 have one:∀(k:RK) (x:k.T) (rd:RD),JC k=true→tn k x rd→rd.AX=true:=by
  intro k x rd hk h;cases k with
  | v t=>
   obtain⟨y,rfl,hy⟩:=h;exact WD t x y hk hy
  | g τ=>cases hk
  | o ty es τ=>cases hk
 have key:∀(ks:List RK) {A:Type} (Q:A→RD→Prop),(∀x rd,Q x rd→rd.AX=true)→ks.all JC=true→∀(x:eC.jV A ks) (rds:List RD),df Q ks x rds→∀rd∈rds,rd.AX=true:=by
  intro ks;induction ks with
  | nil=>
   grind[df]
  | cons k ks ih=>
   intro A Q hQ ha x rds h rd hr;simp only[aBJ,azF]at ha;grind[df,tn]
 intro ks x rds ha h;cases ks with
 | nil=>grind[cf]
 | cons k ks=>
  simp only[aBJ,azF]at ha;grind[cf]
theorem aJ.amr{A B:Type}{R:A→B→Prop}{as:List A}{bs:List B}(h:aJ R as bs)(i:Nat)(a:A)(ha:as[i]? = some a):∃b,bs[i]? = some b∧R a b:=aJ.get h i a ha
theorem EW.view{P:Program}{g:FuncId}{args dk:List V}{Pd:List RD→Prop}(h:EW P g args Pd)(hs:∀rds,Pd rds→∀rd∈rds,rd.AX=true)(hv:aJ vwA args dk):EW P g dk Pd:=by
 refine⟨h.1,fun w A vs hA dO hrel=>?_⟩;have S:Step ⟨w,A,fB,iE⟩ ⟨w,fun _=>False,fB,iE⟩:=⟨fun _ _ _=>rfl,azJ _,fun _ _ h=>h.elim,fun _ _ h=>h⟩;have H0:bU ⟨w,A,fB,iE⟩:=⟨fun o ob ho=>by simp[fB]at ho,fun o o' ob ob' b ho=>by simp[fB]at ho,hA⟩;have aj7:∀x u,Rel ⟨w,A,fB,iE⟩ x u→Rel ⟨w,fun _=>False,fB,iE⟩ x u:=fun x u hr=>by
  have:=Rel.step H0 S (fun _=>false) (fun p _ ob ho=>by simp[fB]at ho) hr
  grind[V.bK]
 refine(h.2 w (fun _=>False) vs (fun b hb=>hb.elim) (by rw[dO,hv.len]) (fun i x hx=>?_)).mono ?_
 ·obtain⟨y,hy,uH⟩:=hv.amr i x hx
  obtain⟨u,h1,h2⟩:=hrel i y hy;refine⟨u,h1,?_⟩;rcases uH with rfl | ⟨cs,eL,rfl,rfl,hc⟩
  ·grind
  ·obtain⟨us,hu,hl,j6⟩:=h2
   refine⟨us,hu,by rw[hl,hc.len],fun j z hz=>?_⟩;obtain⟨z',hz',TN⟩:=hc.amr j z hz;obtain⟨q,q1,q2,q3⟩:=j6 j z' hz';refine⟨q,q1,?_⟩;rcases TN with⟨rfl,fP⟩ | ⟨rows,rfl,rfl⟩
   ·have:aY w A z' q:=by cases z'<;>first | exact q3 | (simp[V.atom]at fP;done)
    exact this.frame (fun _ _ _=>rfl) (azJ _) (fun _ _ h=>h.elim)
   ·exact me.2 (gF.frame (w:=w) (w':=w) (fun _ _ _=>rfl) (fun _ _ _=>rfl) (azJ _) (fun _ _ h=>h.elim) (fun _ _ h=>h.elim) (show gF w A _ rows q from q3))
 ·rintro e w' ⟨rds,us,β',A',xP,rfl,hp⟩
  exact⟨rds,us,iE,A,xP,rfl,Bd hA hp (hs rds xP)⟩
section
variable {β:Type} {P:Program} {es:List dn} {n:Nat} {r:β}
theorem B9{xs:br}{s:St}(R:RS xs s){g:FuncId}{args:List X}{vs:List V}(hv:aW ⟨xs.c,xs.h,s.h⟩ args vs){dst:Option Nat}{Φ:br→Option β}{Ψ:St→Prop}(hΦ:∀gZ s',RS gZ s'→Φ gZ=some r→Ψ s'):
  ∀(l:List dn),(∀e∈l,e.Ok P)→KY xs g args dst Φ l=some r→∃dk Pd,EW P g dk Pd∧kG s.h vs dk∧∀rds,Pd rds→(∀rd∈rds,rd.deep)∧Ψ (s.call dst rds)
 | [],_,h=>by cases h
 | e::l,hl,h=>by
  simp only[KY]at h;cases hg:Nat.beq e.g g with
  | false=>rw[hg]at h;exact B9 R hv hΦ l (fun e' he'=>hl e' (az6 _ he')) h
  | true=>
   rw[hg]at h;simp only[azH]at h
   split at h
   ·rename_i a ha
    obtain⟨hp,h⟩:=aS h;obtain⟨bS,h1,h2⟩:=K7 R.h e.ad args a vs ha hv;have aO:=hl e (az1 ..) a hp bS h2;rw[azV hg]at aO;refine⟨bS,_,aO,h1,fun rds hr=>⟨Tc _ _ _ hr,hΦ _ _ (R.aao dst e.rk (e.fn a) rds hr) h⟩⟩
   ·exact B9 R hv hΦ l (fun e' he'=>hl e' (az6 _ he')) h
theorem J9(h:Nat→Option du)(qs:List Nat)(p:Nat):BB h qs p=if p∈qs then none else h p:=by
 unfold BB;simp_all
theorem J8{xs:br}{s:St}(qs:List Nat):LK (fun _=>false) ⟨xs.c,xs.h,s.h⟩ ⟨xs.c,BB xs.h qs,oI s.h qs⟩:=by
 refine⟨azJ _,fun o bn h1 _=>?_⟩;simp only[J9]at h1;by_cases ho:o∈qs
 ·grind
 ·rw[azD ho]at h1
  refine⟨rfl,⟨bn,h1,rfl⟩,fun ob h2=>⟨ob,?_,rfl⟩⟩;simp only[oI,azD ho];exact h2
theorem TE{xs:br}{s:St}(R:RS xs s)(qs:List Nat):∀o bn,(⟨xs.c,BB xs.h qs,oI s.h qs⟩:jg).x o=some bn→bn.aU<xs.c∧∃ob,oI s.h qs o=some ob∧fT ⟨xs.c,BB xs.h qs,oI s.h qs⟩ bn ob:=by
 intro o bn h1;simp only[J9]at h1;by_cases ho:o∈qs
 ·grind
 ·rw[azD ho]at h1
  obtain⟨h2,ob,h3,h4⟩:=R.h o bn h1;refine⟨h2,ob,by simp only[oI,azD ho];exact h3,?_⟩;have:=h4.frame (J8 (xs:=xs) (s:=s) qs)
  grind[Ob.bK]
theorem afD{H:jg}(aP:∀o bn,H.x o=some bn→bn.aU<H.c∧∃ob,H.v o=some ob∧fT H bn ob){ty es:Nat}{σ:List Ty}{x:X}{v:V}{q aU:Nat}{l:List (aA σ)}(h:akQ H.x ty es σ x=some (q,aU,l))(hx:XV H x v):
  ∃rows bn,H.v q=some ⟨ty,es,false,rows⟩∧bD σ l rows∧v=.ref q rows.length∧H.x q=some bn∧bn.aU=aU:=by
 unfold akQ at h
 split at h<;>try trivial
 rename_i o aoe
 split at h<;>try trivial
 ·rename_i v' j8 j7 τ l' hh
  split at h<;>try trivial
  rename_i hτ;cases hb:(Nat.beq v' aoe&&(Nat.beq j8 ty&&Nat.beq j7 es))with
  | false=>grind
  | true=>
   rw[hb]at h;simp only[azH]at h;simp only[azF]at hb;obtain⟨h1,h2,h3⟩:=hb;have h1:=azV h1;have h2:=azV h2;have h3:=azV h3;subst h1 h2 h3;cases h;obtain⟨_,ob,h4,h5⟩:=aP _ _ hh;simp only[XV]at hx;obtain⟨bE,h6,rfl⟩:=hx.2 _ hh rfl;rw[h4]at h6;cases h6;obtain⟨e1,e2,e3,e4⟩:=h5;obtain⟨t,e,i,rows⟩:=ob;simp only at e1 e2 e3 e4;subst e1 e2 e3;exact⟨rows,_,h4,(cg _ hτ _).2 e4,rfl,hh,rfl⟩
 ·rename_i v' j8 j7 imp rows hh
  cases hb:(Nat.beq v' aoe&&(Nat.beq j8 ty&&(Nat.beq j7 es&&!imp)))with
  | false=>grind
  | true=>
   rw[hb]at h;simp only[azH]at h;simp only[azF,aAi]at hb;obtain⟨h1,h2,h3,h3'⟩:=hb;have h1:=azV h1;have h2:=azV h2;have h3:=azV h3;subst h1 h2 h3 h3'
   split at h<;>try trivial
   rename_i l2 hl;cases h;obtain⟨_,ob,h4,h5⟩:=aP _ _ hh;simp only[XV]at hx;obtain⟨bE,h6,rfl⟩:=hx.2 _ hh rfl;rw[h4]at h6;cases h6;obtain⟨e1,e2,e3,e4⟩:=h5;obtain⟨t,e,i,bq⟩:=ob;simp only at e1 e2 e3 e4;subst e1 e2 e3;exact⟨bq,_,h4,dq hl e4,rfl,hh,rfl⟩
theorem CC{h:Nat→Option Ob}:∀{xs ys:List V},kG h xs ys→xs.length=ys.length∧∀(i:Nat) (x y:V),xs[i]? = some x→ys[i]? = some y→jU h x y
 | [],[],_=>⟨rfl,fun i x y h=>by simp at h⟩
 | x::xs,y::ys,ha=>by
  obtain⟨e1,e2⟩:=CC ha.2;refine⟨by simp[e1],fun i a b h1 h2=>?_⟩;cases i with
  | zero=>simp at h1 h2;subst h1 h2;exact ha.1
  | succ i=>grind
 | [],_::_,ha=>ha.elim
 | _::_,[],ha=>ha.elim
theorem EJ{xs:br}{s:St}(R:RS xs s){g:FuncId}{args:List X}{vs:List V}(hv:aW ⟨xs.c,xs.h,s.h⟩ args vs){dst:Option Nat}{Φ:br→Option β}{Ψ:St→Prop}(hΦ:∀gZ s',RS gZ s'→Φ gZ=some r→Ψ s'):
  ∀(l:List dW),(∀e∈l,e.Ok P)→xl xs g args dst Φ l=some r→∃dk qs ls Pd,FnL P g dk ls Pd∧sX s.h qs ls∧GD s.h qs vs dk∧∀rds outs,Pd rds outs→Ψ (s.nt dst rds qs ls outs)
 | [],_,h=>by cases h
 | e::l,hl,h=>by
  have hr:=EJ R (g:=g) (dst:=dst) hv hΦ l (fun e' he'=>hl e' (az6 _ he'));simp only[xl]at h;cases hg:Nat.beq e.g g with
  | false=>grind
  | true=>
   rw[hg]at h;simp only[azH]at h
   split at h<;>try trivial
   rename_i x rest
   split at h
   ·rename_i q aU lr hq
    have F8:=hl e (az1 ..);unfold dW.Ok at F8;simp only[aW]at hv;obtain⟨v,vr,rfl,hv1,VU⟩:=hv;obtain⟨rows,bn,f1,f2,rfl,f4,f5⟩:=afD (H:=⟨xs.c,xs.h,s.h⟩) R.h hq hv1;simp only at f1 f4;cases htm:(e.two || e.mv)with
    | true=>
     grind
    | false=>
     rw[aCb]at htm;obtain⟨TR,hm⟩:=htm;rw[TR,hm]at h;rw[TR]at F8;simp only[Bool.or_self,azI,aAE,aAd]at h F8
     split at h
     ·rename_i a ha
      obtain⟨hp,h⟩:=aS h;obtain⟨bS,h1,h2⟩:=K7 (H:=⟨xs.c,BB xs.h [q],oI s.h [q]⟩) (TE R [q]) e.ad rest a vr ha (aW.frame (J8 [q]) _ _ VU);have aO:=F8 lr a hp rows bS f2 h2;rw[azV hg]at aO;refine⟨_,[q],_,_,aO,⟨aBf.2 ⟨aB4,List.nodup_nil⟩,rfl,fun i q' ob hi j5=>?_⟩,?_,fun rds outs xP=>?_⟩
      ·grind
      ·obtain⟨e1,e2⟩:=CC h1
       refine⟨by simp[e1],fun i x y hx hy=>?_⟩;cases i with
       | zero=>simp at hx hy;subst hx hy;exact .inr (.inl ⟨0,q,rows.length,rfl,rfl,rfl⟩)
       | succ i=>exact .inl (e2 i x y (by grind) (by grind))
      ·obtain⟨p1,p2⟩:=xP
       rw[TR]at p2;simp only[aAE,aAd]at p2;rw[hm]at p2;simp only[aAE,aAd]at p2;obtain⟨bq,rfl,p3,p4⟩:=p2;rw[aap s dst rds q _ f1 rfl bq];have R1:=R.aoQ q (ob:=.t aU e.ty e.es e.τ (e.fn lr [] a).2) (ob':=⟨e.ty,e.es,false,bq⟩) f4 f1 f5.symm p4 ⟨rfl,rfl,rfl,p3⟩ none;exact hΦ _ _ (RS.aao (xs:=xs.bQ q _) (s:=s.bQ q _) R1 dst e.rk (e.fn lr [] a).1 rds p1) h
     grind
   grind
theorem Wf{el:List dW}(sq:∀e∈el,e.Ok P){o:Oper}{Φ:br→Option β}{Ψ:St→Prop}(hΦ:∀gZ s',RS gZ s'→Φ gZ=some r→Ψ s'){xs:br}{s:St}(R:RS xs s)(h:Iv P el n o Φ xs=some r):aiP P n o Ψ s:=by
 unfold Iv at h
 split at h<;>try trivial
 rename_i hg;obtain⟨hd,h⟩:=aS h;have hrel:=ze (P:=P) (H:=⟨xs.c,xs.h,s.h⟩) R.h o xs.ev s.ev (fun x=>R.ev x) xs.c;generalize Wg P o xs.ev xs.h xs.c=ar at h hrel;cases ar<;>try trivial
 rename_i g args;obtain⟨vs,e1,e2⟩:=hrel;exact⟨hg,uY hd,g,vs,e1,EJ R e2 hΦ el sq h⟩
theorem tN(bI:∀e∈es,e.Ok P){o:Oper}{Φ:br→Option β}{Ψ:St→Prop}(hΦ:∀gZ s',RS gZ s'→Φ gZ=some r→Ψ s'){xs:br}{s:St}(R:RS xs s)(h:Md P es n o Φ xs=some r):zc P n o Ψ s:=by
 unfold Md at h;obtain⟨hd,h⟩:=aS h;refine⟨uY hd,?_⟩;have hrel:=ze (P:=P) (H:=⟨xs.c,xs.h,s.h⟩) R.h o xs.ev s.ev (fun x=>R.ev x) xs.c;generalize Wg P o xs.ev xs.h xs.c=ar at h hrel;cases ar with
 | bad=>cases h
 | val c x=>
  obtain⟨hc,h⟩:=aS h;obtain⟨p,v,e1,e2,e3⟩:=hrel hc;rw[e1];exact⟨e2,hΦ _ _ (R.Tn o.dst e3) h⟩
 | new c ob isRef=>
  simp only at h
  split at h<;>try trivial
  rename_i d iY;obtain⟨hc,h⟩:=aS h;obtain⟨p,ob',e1,e2,e3,e4⟩:=hrel hc;rw[e1];simp only[iY];exact⟨e2,.inl (hΦ _ _ (R.apc d isRef (du.sL _ _) (e3.l8 _) e4) h)⟩
 | H3 c q ob=>
  obtain⟨hc,h⟩:=aS h;obtain⟨p,ob',e1,e2,e3,Ix,bA,e4,e5,e6,e7⟩:=hrel hc;rw[e1];exact⟨e2,hΦ _ _ (R.aoQ q e4 e6 e5 e7 e3 o.dst) h⟩
 | app c q ob=>
  obtain⟨hc,h⟩:=aS h;obtain⟨p,ob',e1,e2,e3⟩:=hrel hc;rw[e1];exact⟨e2,hΦ _ _ (R.auS q (du.sL _ _) (e3.l8 _) o.dst) h⟩
 | call g args=>
  obtain⟨vs,e1,e2⟩:=hrel;rw[e1];exact B9 R e2 hΦ es bI h
theorem EI{xs:br}{s:St}(R:RS xs s){g:FuncId}{args:List X}{vs:List V}(hv:aW ⟨xs.c,xs.h,s.h⟩ args vs){dst:Option Nat}{Φ:br→Option β}{Ψ:St→Prop}(hΦ:∀gZ s',RS gZ s'→Φ gZ=some r→Ψ s'):
  ∀(l:List dn),(∀e∈l,e.Ok P)→Ca xs g args dst Φ l=some r→∃dk Pd,EW P g dk Pd∧aJ (K9 s.h) vs dk∧∀rds,Pd rds→Ψ (s.call dst rds)
 | [],_,h=>by cases h
 | e::l,hl,h=>by
  have hr:=EI R (g:=g) (dst:=dst) hv hΦ l (fun e' he'=>hl e' (az6 _ he'));simp only[Ca]at h;cases hg:Nat.beq e.g g&&e.rk.all JC with
  | false=>grind
  | true=>
   rw[hg]at h;simp only[azH]at h;obtain⟨hg1,hg2⟩:=aAk.1 hg
   split at h
   ·rename_i a ha
    obtain⟨hp,h⟩:=aS h;obtain⟨bS,Dk,h1,h2,h3⟩:=UB R e.ad args a vs ha hv;have aO:=hl e (az1 ..) a hp bS h1;rw[azV hg1]at aO;exact⟨Dk,_,aO.view (fun rds hr=>JB e.rk (e.fn a) rds hg2 hr) h2,h3,fun rds hr=>hΦ _ _ (R.aao dst e.rk (e.fn a) rds hr) h⟩
   grind
theorem kK{o:Oper}{Φ:br→Option β}{Ψ:St→Prop}(hΦ:∀gZ s',RS gZ s'→Φ gZ=some r→Ψ s'){xs:br}{s:St}(R:RS xs s)(h:xD n o Φ xs=some r):EU n o Ψ s:=by
 unfold xD at h;obtain⟨hd,h⟩:=aS h;exact⟨uY hd,hΦ _ _ (R.Tn o.dst (by grind[XV,aW])) h⟩
theorem uh{xs:br}{s:St}(R:RS xs s){d:Nat}{b:Bool}(h:(if d<100000 then s.t d else .dead)=.bool b):RS (xs.put (some d) (.bool b)) s:=by
 have h:s.t d=.bool b:=by
  grind
 refine⟨fun i=>?_,R.h⟩;simp only[br.put,eu]
 split
 ·grind[XV]
 ·exact R.t i
theorem Wc(bI:∀e∈es,e.Ok P){ops:Array Oper}{o:Oper}{Φ:br→Option β}{Ψ:St→Prop}(hΦ:∀gZ s',RS gZ s'→Φ gZ=some r→Ψ s'){xs:br}{s:St}(R:RS xs s)(h:Iu P es n ops.toList o Φ xs=some r):ec P n ops o Ψ s:=by
 unfold Iu at h;unfold ec Ge
 split at h
 ·grind[tN]
 ·rename_i j want hg
  rw[hg];rw[KL,aAG]at h;simp only
  split at h<;>try trivial
  rename_i d hd;rw[hd];simp only;have hx:XV _ _ (if d<100000 then s.t d else .dead):=R.ev (.tmp d)
  split at h<;>try trivial
  ·rename_i b hb
   rw[hb]at hx;simp only[XV]at hx;rw[hx];simp only;cases b
   ·have R':=uh R hx
    simp only[azI]at h;cases want
    ·simp only[azI]at h
     grind[tN]
    ·simp only[azH]at h
     grind[kK]
   ·have R':=uh R hx
    simp only[azH]at h;cases want
    ·simp only[azI]at h
     grind[kK]
    ·simp only[azH]at h
     grind[tN]
  grind[XV,kK]
theorem afR{H:jg}{σ:List Ty}{bn:du}{ob:Ob}{l:List (aA σ)}(h:afS σ bn=some l)(hx:fT H bn ob):ob.imp=false∧bD σ l ob.rows:=by
 cases bn with
 | t aU ty es τ l'=>
  simp only[afS]at h
  split at h<;>try trivial
  rename_i hτ;cases az9 h;obtain⟨_,_,h3,h4⟩:=hx;grind[cg]
 | u aU ty es imp rows=>
  simp only[afS]at h;cases imp with
  | true=>cases h
  | false=>
   obtain⟨_,_,h3,h4⟩:=hx;grind[dq]
theorem AE(bI:∀e∈es,e.Ok P){fz:List (Nat×List Ty)}{o:Oper}{Φ:br→Option β}{Ψ:St→Prop}(hΦ:∀gZ s',RS gZ s'→Φ gZ=some r→Ψ s'){xs:br}{s:St}(R:RS xs s)(h:Iw P es n fz o Φ xs=some r):zc P n o Ψ s:=by
 unfold Iw at h
 split at h
 ·grind[tN]
 rename_i d iY
 split at h
 ·grind[tN]
 rename_i k σ hfz;obtain⟨hb,h⟩:=aS h;obtain⟨_,hd⟩:=aAk.1 hb;refine⟨uY hd,?_⟩;have hrel:=ze (P:=P) (H:=⟨xs.c,xs.h,s.h⟩) R.h o xs.ev s.ev (fun x=>R.ev x) xs.c;generalize Wg P o xs.ev xs.h xs.c=ar at h hrel
 split at h<;>try trivial
 rename_i c ob
 split at h<;>try trivial
 rename_i l hl;obtain⟨hc,h⟩:=aS h;obtain⟨p,ob',e1,e2,e3,e4⟩:=hrel hc;rw[e1];simp only[iY];obtain⟨himp,bF⟩:=afR hl e3;refine⟨e2,.inr ⟨trivial,himp,?_⟩⟩;have R1:=R.apc d true (du.sL _ _) (e3.l8 _) e4;have R2:=R1.YP (fun p=>Nat.beq p d);have R3:=R2.Tn (some d) (x:=.sl σ l) (v:=.sl ob'.rows) (by grind[XV]);have e:s.FR d ob'=((s.new d ob' (.ref d ob'.rows.length)).kill fun p=>Nat.beq p d).put (some d) (.sl ob'.rows):=by
  have ZD:(fun p=>Nat.beq p d)=(fun p=>p == d):=by
   funext p
   by_cases h:p=d
   ·simp_all
   ·have:Nat.beq p d=false:=by
     cases hb:Nat.beq p d with
     | false=>rfl
     | true=>simp_all
    grind
  rw[ZD,← KM];rfl
 rw[e];exact hΦ _ _ R3 h
theorem SB(bI:∀e∈es,e.Ok P){fz:List (Nat×List Ty)}{ops:Array Oper}{o:Oper}{Φ:br→Option β}{Ψ:St→Prop}(hΦ:∀gZ s',RS gZ s'→Φ gZ=some r→Ψ s'){xs:br}{s:St}(R:RS xs s)(h:Ma P es n fz ops.toList o Φ xs=some r):ec P n ops o Ψ s:=by
 unfold Ma at h;unfold ec Ge
 split at h
 ·grind[AE]
 ·rename_i j want hg
  rw[hg];rw[KL,aAG]at h;simp only
  split at h<;>try trivial
  rename_i d hd;rw[hd];simp only;have hx:XV _ _ (if d<100000 then s.t d else .dead):=R.ev (.tmp d)
  split at h<;>try trivial
  ·rename_i b hb
   rw[hb]at hx;simp only[XV]at hx;rw[hx];simp only;cases b
   ·have R':=uh R hx
    simp only[azI]at h;cases want
    ·simp only[azI]at h
     grind[AE]
    ·simp only[azH]at h
     grind[kK]
   ·have R':=uh R hx
    simp only[azH]at h;cases want
    ·simp only[azI]at h
     grind[kK]
    ·simp only[azH]at h
     grind[AE]
  grind[XV,kK]
end
theorem alc{H:jg}(aP:∀o bn,H.x o=some bn→bn.aU<H.c∧∃ob,H.v o=some ob∧fT H bn ob){q:Nat}{x:X}{v:V}(h:x.nnX H.x q=true)(hx:XV H x v):nn q v:=by
 cases x<;>simp only[X.nnX]at h<;>try trivial
 case ref p aU=>
  simp only[azF,aAi]at h;obtain⟨_,ob,_,_,_,_,rfl⟩:=cM aP hx h.1;intro e;simp_all
 case ptr p aU i j=>
  simp only[azF,aAi]at h;obtain⟨_,ob,_,_,_,_,_,rfl⟩:=dL aP hx h.1;intro e;simp_all
 case agg imp cs=>
  simp only[aAi]at h;subst h;simp only[XV,np]at hx;obtain⟨vs,rfl,_⟩:=hx;trivial
 case sl τ l=>
  simp only[XV]at hx;rcases hx with⟨_,rfl⟩ | ⟨rows,rfl,_⟩<;>trivial
 case rd τ l=>simp only[XV]at hx;obtain⟨rows,rfl,_⟩:=hx;trivial
 case cp row j=>simp only[XV]at hx;obtain⟨rows,rfl,_⟩:=hx;trivial
 all_goals
  simp only[XV]at hx;subst hx;trivial
theorem Bk{H:jg}(aP:∀o bn,H.x o=some bn→bn.aU<H.c∧∃ob,H.v o=some ob∧fT H bn ob){q:Nat}:∀{xs:List X} {vs:List V},xs.all (X.nnX H.x q)=true→aW H xs vs→Ec q vs
 | [],vs,_,h=>by simp only[aW]at h;subst h;trivial
 | x::xs,vs,ha,h=>by
  simp only[aW]at h;obtain⟨v,r,rfl,h1,h2⟩:=h;simp only[aBJ,azF]at ha;exact⟨alc aP ha.1 h1,Bk aP ha.2 h2⟩
theorem Pf{xs:br}{s:St}(R:RS xs s){l:List Oper}{o:Oper}:∀{js:List Nat},aeR l o xs js=true→afj l o s js
 | [],_=>trivial
 | j::r,h=>by
  simp only[aeR,azF]at h;refine⟨?_,Pf R h.2⟩;have h1:=h.1;have e:akb l j=DI l j:=by grind[akb,DI,zk]
  rw[e]at h1
  split at h1
  ·rename_i x hx
   rw[hx];simp only[aks];have hv:=R.ev x;have hm:=aW.M7 (fun x=>R.ev x) o.op.operands.toList;unfold ahG at h1;generalize xs.ev x=y at h1 hv;cases y<;>simp only at h1<;>try (cases h1;done)
   case ref q aU=>
    simp only[azF]at h1;obtain⟨_,ob,_,_,_,_,e2⟩:=cM (H:=⟨xs.c,xs.h,s.h⟩) R.h hv h1.1;rw[e2];exact Bk (H:=⟨xs.c,xs.h,s.h⟩) R.h h1.2 hm
   case ptr q aU i j=>
    simp only[azF]at h1;obtain⟨_,ob,_,_,_,_,_,e2⟩:=dL (H:=⟨xs.c,xs.h,s.h⟩) R.h hv h1.1;rw[e2];exact Bk (H:=⟨xs.c,xs.h,s.h⟩) R.h h1.2 hm
   case agg imp cs=>
    simp only[XV]at hv;obtain⟨vs,e2,_⟩:=hv;rw[e2];cases imp<;>trivial
   case sl τ l=>
    simp only[XV]at hv;rcases hv with⟨_,e2⟩ | ⟨rows,e2,_⟩<;>(rw[e2];trivial)
   case rd τ l=>simp only[XV]at hv;obtain⟨rows,e2,_⟩:=hv;rw[e2];trivial
   case cp row j=>simp only[XV]at hv;obtain⟨rows,e2,_⟩:=hv;rw[e2];trivial
   all_goals
    simp only[XV]at hv;rw[hv];trivial
  ·rename_i hx
   rw[hx];trivial
def Gb(P:Program)(c:Code)(Q:Exit→Act→World→Prop)(a:Act)(w:World):Prop:=
 ∀(b:Frame) (k:List Go.Item) (cs:List Frame),∃e a' w',Q e a' w'∧Arrives P (lone (b.at a (.code c::.inLoop c::k)) cs w) b k cs e a' w'
theorem Fk{P:Program}{c:Code}{Q:Exit→Act→World→Prop}{a:Act}{w:World}(h:Gb P c Q a w):(Code.loop c).wp P Q a w:=by
 intro b k cs;obtain⟨e,a',w',hq,Ku⟩:=h b k cs;exact⟨e,a',w',hq,.of_steps (.one step_loop) Ku⟩
theorem Kn{P:Program}{c:Code}{Q:Exit→Act→World→Prop}{a:Act}{w:World}(h:c.wp P (Exit.then (Gb P c Q) Q) a w):Gb P c Q a w:=by
 intro b k cs;obtain⟨e,a₁,w₁,hq,Ku⟩:=h b (.inLoop c::k) cs;cases e with
 | normal=>
  obtain⟨e₂,a₂,w₂,hq₂,aqy⟩:=hq b k cs;exact⟨e₂,a₂,w₂,hq₂,.of_steps (Steps.trans Ku (.one step_inLoop)) aqy⟩
 | exit id=>exact⟨_,a₁,w₁,hq,.pass (x:=.inLoop c) rfl (fun _ _=>.inl (by simp)) Ku⟩
 | goto l=>exact⟨_,a₁,w₁,hq,.pass (x:=.inLoop c) rfl (fun _ _=>.inl (by simp)) Ku⟩
 | ret=>exact⟨_,a₁,w₁,hq,.pass (x:=.inLoop c) rfl (fun _ _=>.inl (by simp)) Ku⟩
 | panic ch=>exact⟨_,a₁,w₁,hq,.pass (x:=.inLoop c) rfl (fun _ _=>.inl (by simp)) Ku⟩
 | outgrown=>exact⟨_,a₁,w₁,hq,.pass (x:=.inLoop c) rfl (fun _ _=>.inl (by simp)) Ku⟩
section
variable (P:Program) (Rt:Act→World→Prop)
def KW:List XI→Exit→Act→World→Prop
 | [],.normal,a,w=>Rt a w
 | _,.ret,a,w=>Rt a w
 | .code c::k,.normal,a,w=>c.wp P (KW k) a w
 | .ops ops l::k,.normal,a,w=>wpList P ops (KW k) l a w
 | .inBlock _::k,.normal,a,w=>KW k .normal a w
 | .head c::k,.normal,a,w=>Gb P c (KW k) a w
 | .inBlock id::k,.exit P5,a,w=>if P5=id then KW k .normal a w else KW k (.exit P5) a w
 | .code _::k,.exit id,a,w=>KW k (.exit id) a w
 | .ops _ _::k,.exit id,a,w=>KW k (.exit id) a w
 | .wJ _ _::k,.exit id,a,w=>KW k (.exit id) a w
 | .head _::k,.exit id,a,w=>KW k (.exit id) a w
 | _,_,_,_=>False
end
section
variable {P:Program} {Rt:Act→World→Prop}
theorem tC(k:List XI)(a:Act)(w:World):KW P Rt k .ret a w=Rt a w:=by
 cases k with
 | nil=>rfl
 | cons i k=>cases i<;>rfl
theorem xy(id:Nat)(a:Act)(w:World):∀(k k':List XI),yJ id k=some k'→KW P Rt k' .normal a w→KW P Rt k (.exit id) a w
 | .inBlock P5::k,k',h,hs=>by
  simp only[yJ]at h;simp only[KW];by_cases bf:id=P5
  ·simp_all
  ·rw[azD bf]
   have:Nat.beq id P5=false:=by
    cases hb:Nat.beq id P5 with
    | false=>rfl
    | true=>simp_all
   rw[this]at h;exact xy id a w k k' h hs
 | .head _::k,k',h,hs=>by simp only[KW];exact xy id a w k k' h hs
 | .code _::k,k',h,hs=>by simp only[KW];exact xy id a w k k' h hs
 | .ops _ _::k,k',h,hs=>by simp only[KW];exact xy id a w k k' h hs
 | .wJ _ _::k,k',h,hs=>by simp only[KW];exact xy id a w k k' h hs
theorem gx{k:List XI}{e:Exit}{a:Act}{w:World}(h:KW P Rt k e a w):e=.normal∨e=.ret∨∃id,e=.exit id:=by
 cases e with
 | normal=>grind
 | ret=>grind
 | exit id=>grind
 | _=>cases k with
  | nil=>exact absurd h (by simp[KW])
  | cons i k=>cases i<;>simp[KW]at h
end
def jF(pm:PM):List XI→Prop
 | []=>True
 | .code c::k=>fe pm c=true∧jF pm k
 | .head c::k=>fe pm c=true∧jF pm k
 | _::k=>jF pm k
theorem jF.pop{pm:PM}{id:Nat}:∀{k k':List XI},yJ id k=some k'→jF pm k→jF pm k'
 | .inBlock P5::k,k',h,hs=>by
  simp only[yJ]at h;cases hb:Nat.beq id P5 with
  | true=>rw[hb]at h;cases h;exact hs
  | false=>rw[hb]at h;exact jF.pop (k:=k) h hs
 | .head _::k,k',h,hs=>jF.pop (k:=k) h hs.2
 | .code _::k,k',h,hs=>jF.pop (k:=k) h hs.2
 | .ops _ _::k,k',h,hs=>jF.pop (k:=k) h hs
 | .wJ _ _::k,k',h,hs=>jF.pop (k:=k) h hs
section
variable {β:Type} {C:cX} {r:β} {w0:World} {I:rM} {A0:Nat→Prop} {Rt:Act→World→Prop}
def SX(C:cX)(w0:World)(I:rM)(A0:Nat→Prop)(Rt:Act→World→Prop):List XI→St→Prop
 | .wJ ops perm::k,s=>Jz C.P C.n ops (fun s'=>∀a w,RR w0 I A0 C.n s' a w→KW C.P Rt k .normal a w) perm s
 | k,s=>∀a w,RR w0 I A0 C.n s a w→KW C.P Rt k .normal a w
def C8:List XI→Prop
 | []=>True
 | .wJ _ _::_=>False
 | _::k=>C8 k
def X8:List XI→Prop
 | []=>True
 | _::k=>C8 k
theorem C8.pop{id:Nat}:∀{k k':List XI},yJ id k=some k'→C8 k→C8 k'
 | .inBlock P5::k,k',h,hs=>by
  simp only[yJ]at h;cases hb:Nat.beq id P5 with
  | true=>rw[hb]at h;cases h;exact hs
  | false=>rw[hb]at h;exact C8.pop (k:=k) h hs
 | .head _::k,k',h,hs=>C8.pop (k:=k) h hs
 | .code _::k,k',h,hs=>C8.pop (k:=k) h hs
 | .ops _ _::k,k',h,hs=>C8.pop (k:=k) h hs
 | .wJ _ _::k,k',h,hs=>hs.elim
theorem xr{k:List XI}(h:C8 k){s:St}:SX C w0 I A0 Rt k s↔∀a w,RR w0 I A0 C.n s a w→KW C.P Rt k .normal a w:=by
 cases k with
 | nil=>exact Iff.rfl
 | cons i k=>cases i<;>first | exact Iff.rfl | exact h.elim
theorem ahz{k:List XI}{id:Nat}:∀e a w,KW C.P Rt (.inBlock id::k) e a w→Exit.inBlock id (KW C.P Rt k) e a w:=by
 intro e a w hq;rcases gx hq with rfl | rfl | ⟨P5,rfl⟩
 ·exact hq
 ·simp only[Exit.inBlock];grind[tC]
 ·simp only[KW]at hq
  simp only[Exit.inBlock];grind
theorem Gg{xs:br}{s:St}(R:RS xs s)(n:Nat)(fz:List (Nat×List Ty))(hI:(∀b,¬ I.P b)∨fz=[])(d:Option Nat):
  ∃s'',RS (Dz n fz d xs) s''∧∀a w,RR w0 I A0 n s a w→RR w0 I A0 n s'' a w:=by
 cases d with
 | none=>exact⟨s,R,fun _ _ h=>h⟩
 | some d=>
  rcases hI with hI | rfl
  rotate_left
  ·exact⟨s,R,fun _ _ h=>h⟩
  unfold Dz;simp only
  split
  ·grind
  ·rename_i k σ hσ
   split
   ·rename_i q aU ht
    cases hk:Nat.blt k n
    ·grind
    ·simp only[azH]
     split
     ·rename_i l hl
      have hkn:k<n:=by simp_all
      have hx:=R.t k;rw[ht]at hx;have hc:∃ob,s.h q=some ob∧s.t k=.ref q ob.rows.length:=by
       have fw:dt xs.h q aU=true:=by
        unfold rdD at hl;simp only at hl;unfold dt
        split at hl
        ·rename_i v' ty es τ l' ho
         rw[ho]
         split at hl<;>try (cases hl;done)
         cases hb:Nat.beq v' aU with
         | false=>grind
         | true=>exact hb
        ·rename_i v' ty es imp rows ho
         rw[ho];cases hb:(Nat.beq v' aU&&!imp)with
         | false=>grind
         | true=>exact(aAk.1 hb).1
        ·cases hl
       obtain⟨bn,ob,h1,h2,h3,h4,h5⟩:=cM (H:=⟨xs.c,xs.h,s.h⟩) R.h hx fw;grind
      obtain⟨bA,ho0,hs0⟩:=hc;obtain⟨rows,h1,h2⟩:=XF (H:=⟨xs.c,xs.h,s.h⟩) R.h hl hx;rw[hs0]at h2;obtain⟨ob,ho,_,himp,rfl⟩:=h2;have ho:s.h q=some ob:=ho;rw[ho0]at ho;obtain rfl:=az9 ho;have ZD:(fun p=>Nat.beq p q)=(fun p=>p == q):=by
       funext p
       by_cases h:p=q
       ·simp_all
       ·have:Nat.beq p q=false:=by
         cases hb:Nat.beq p q with
         | false=>rfl
         | true=>simp_all
        grind
      have fw:∀v,XV ⟨xs.c,xs.h,s.h⟩ (.ref q aU) v→v=.ref q bA.rows.length:=fun v hv=>by
       have Ia:dt xs.h q aU=true:=by
        unfold rdD at hl;simp only at hl;unfold dt
        split at hl
        ·rename_i v' ty es τ l' dT
         rw[dT]
         split at hl<;>try (cases hl;done)
         cases hb:Nat.beq v' aU with
         | false=>grind
         | true=>exact hb
        ·rename_i v' ty es imp rows dT
         rw[dT];cases hb:(Nat.beq v' aU&&!imp)with
         | false=>grind
         | true=>exact(aAk.1 hb).1
        ·cases hl
       obtain⟨bn,ob,g1,g2,g3,g4,g5⟩:=cM (H:=⟨xs.c,xs.h,s.h⟩) R.h hv Ia;grind
      have Nh:XV ⟨xs.c,(xs.kill fun p=>Nat.beq p q).h,(s.kill fun p=>Nat.beq p q).h⟩ (.sl σ l) (.sl bA.rows):=by
       grind[XV]
      have RK:=R.YP (fun p=>Nat.beq p q);have one:∀i,∃y,XV ⟨xs.c,(xs.kill fun p=>Nat.beq p q).h,(s.kill fun p=>Nat.beq p q).h⟩ (ams q aU σ l (xs.t i)) y∧(y=(s.t i).kill (fun p=>Nat.beq p q)∨(s.t i=.ref q bA.rows.length∧y=.sl bA.rows)):=fun i=>by
       have hi:=R.t i;have hk:=RK.t i;unfold ams
       split
       ·rename_i p v hpv
        cases hb:(Nat.beq p q&&Nat.beq v aU)
        ·exact⟨_,by rw[← hpv];exact hk,.inl rfl⟩
        ·obtain⟨Nt,nC⟩:=aAk.1 hb
         have Nt:=azV Nt;have nC:=azV nC;grind
       ·exact⟨_,hk,.inl rfl⟩
      refine⟨⟨fun i=>(one i).choose,(s.kill fun p=>Nat.beq p q).h⟩,⟨fun i=>(one i).choose_spec.1,RK.h⟩,?_⟩;rintro a w ⟨β,A,RB⟩;have:=RB.aqK (fun b hb=>(RB.own q bA b ho0 hb).resolve_right (hI b)) ho0 himp (fun i=>(one i).choose) (fun i=>by
       exact((one i).choose_spec.2).imp (fun h=>h.trans (azT (fun K=>(s.t i).kill K) ZD)) (fun h=>h))
      have e:ko s.h q=(s.kill fun p=>Nat.beq p q).h:=by
       rw[ZD,← KM]
      rw[e]at this;exact⟨_,_,this⟩
     grind
   grind
theorem dw{β:Type}{C:cX}{r:β}{w0:World}{I:rM}{A0:Nat→Prop}{Rt:Act→World→Prop}(hI:(∀b,¬ I.P b)∨C.fz=[])(nB:C.inl=[]∨((∀b,¬ I.P b)∧∀o,¬ I.q o))(hm:C.P.follows .mixedOrders=true)(bI:∀e∈C.es,e.Ok C.P)(sq:∀e∈C.el,e.Ok C.P)(iH:∀d∈C.inl,d.Ok C.P){Kr:br→Option β}{Kg:List XI→br→Option β}
  (Dy:∀xs s,RS xs s→Kr xs=some r→∀a w,RR w0 I A0 C.n s a w→Rt a w)
  (L6:∀k xs s,RS xs s→jF C.pm k→C8 k→Kg k xs=some r→∀a w,RR w0 I A0 C.n s a w→KW C.P Rt k .normal a w) :
  ∀(f:Nat) (k:List XI) (xs:br) (s:St),RS xs s→jF C.pm k→X8 k→exec C Kr Kg f k xs=some r→SX C w0 I A0 Rt k s
 | 0,k,xs,s,_,_,_,h=>by cases h
 | f+1,[],xs,s,R,_,_,h=>fun a w hR=>Dy xs s R h a w hR
 | f+1,.inBlock id::k,xs,s,R,aO,so,h=>by
  have h1:=dw hI nB hm bI sq iH Dy L6 f k xs s R aO (by cases k<;>first | trivial | (rename_i i k;cases i<;>first | exact so | exact so.elim)) h;exact fun a w hR=>(xr so).1 h1 a w hR
 | f+1,.head body::k,xs,s,R,aO,so,h=>fun a w hR=>L6 _ xs s R aO (by exact so) h a w hR
 | f+1,.ops ops l::k,xs,s,R,aO,so,h=>by
  have tl:X8 k:=by cases k<;>first | trivial | (rename_i i k;cases i<;>first | exact so | exact so.elim)
  intro a w hR;cases l with
  | nil=>
   have h1:=dw hI nB hm bI sq iH Dy L6 f k xs s R aO tl h;exact(xr so).1 h1 a w hR
  | cons o rest=>
   show wpList C.P ops (KW C.P Rt k) (o::rest) a w;unfold wpList;have hx:(bif alx C o xs then We C o (fun s=>exec C Kr Kg f (.ops ops rest::k) (Dz C.n C.fz o.dst s)) xs else bif isL C.el o then Iv C.P C.el C.n o (fun s=>exec C Kr Kg f (.ops ops rest::k) (Dz C.n C.fz o.dst s)) xs else Iu C.P C.es C.n ops.toList o (fun s=>exec C Kr Kg f (.ops ops rest::k) (Dz C.n C.fz o.dst s)) xs)=some r:=h;cases hvw:alx C o xs with
   | true=>
    rw[hvw]at hx;simp only[azH]at hx;unfold We at hx
    split at hx<;>try (cases hx;done)
    rename_i hg;obtain⟨hdk,hx⟩:=aS hx;have hrel:=ze (P:=C.P) (H:=⟨xs.c,xs.h,s.h⟩) R.h o xs.ev s.ev (fun x=>R.ev x) xs.c;generalize Wg C.P o xs.ev xs.h xs.c=ar at hx hrel;cases ar<;>try (cases hx;done)
    rename_i g args;obtain⟨cG,e1,e2⟩:=hrel;obtain⟨dk,Pd,hc,cZ,hφ⟩:=EI R e2 (Ψ:=fun s'=>∀a w,RR w0 I A0 C.n s' a w→wpList C.P ops (KW C.P Rt k) rest a w) (fun gZ s' R' h'=>by
      obtain⟨s'',R'',Y8⟩:=Gg (w0:=w0) (A0:=A0) R' C.n C.fz hI o.dst;exact fun a w hR=>dw hI nB hm bI sq iH Dy L6 f (.ops ops rest::k) _ s'' R'' aO so h' a w (Y8 a w hR)) C.es bI hx
    obtain⟨β0,A,RB0⟩:=hR;obtain⟨g1,_,_⟩:=kA (ops:=ops) (o:=o) RB0;rw[azE (g1 (by grind[Ge]))];refine .inl ?_;unfold Oper.wp;obtain⟨vs,q1,q2,q3⟩:=tj RB0.au o e1;rw[q1];have q4:=Uz RB0.bZ cZ (fun i x hx=>q3 i x hx);refine(hc.2 w A vs RB0.bZ.lt (by rw[q2,cZ.len]) q4).mono ?_;rintro e w' ⟨rds,us,β',A',xP,rfl,hp⟩;exact hφ rds xP _ _ (RB0.call (hc.1 rds xP) hp o.dst (uZ (uY hdk)))
   | false=>
   rw[hvw]at hx
   replace hx:(bif isL C.el o then Iv C.P C.el C.n o (fun s=>exec C Kr Kg f (.ops ops rest::k) (Dz C.n C.fz o.dst s)) xs else Iu C.P C.es C.n ops.toList o (fun s=>exec C Kr Kg f (.ops ops rest::k) (Dz C.n C.fz o.dst s)) xs)=some r:=hx
   cases hb:isL C.el o with
   | true=>
    rw[hb]at hx;have h1:=Wf sq (Ψ:=fun s'=>∀a w,RR w0 I A0 C.n s' a w→wpList C.P ops (KW C.P Rt k) rest a w)
     (fun gZ s' R' h'=>by
      obtain⟨s'',R'',Y8⟩:=Gg (w0:=w0) (A0:=A0) R' C.n C.fz hI o.dst;exact fun a w hR=>dw hI nB hm bI sq iH Dy L6 f (.ops ops rest::k) _ s'' R'' aO so h' a w (Y8 a w hR)) R hx
    exact Lm (K':=wpList C.P ops (KW C.P Rt k) rest) (fun s' a' w' F3 TZ=>F3 a' w' TZ) hR h1
   | false=>
    rw[hb]at hx;have h1:=Wc bI (Ψ:=fun s'=>∀a w,RR w0 I A0 C.n s' a w→wpList C.P ops (KW C.P Rt k) rest a w)
     (fun gZ s' R' h'=>by
      obtain⟨s'',R'',Y8⟩:=Gg (w0:=w0) (A0:=A0) R' C.n C.fz hI o.dst;exact fun a w hR=>dw hI nB hm bI sq iH Dy L6 f (.ops ops rest::k) _ s'' R'' aO so h' a w (Y8 a w hR)) R hx
    exact qg (K':=wpList C.P ops (KW C.P Rt k) rest) (fun s' a' w' F3 TZ=>F3 a' w' TZ) hR h1
 | f+1,.wJ ops l::k,xs,s,R,aO,so,h=>by
  have tl:X8 k:=by cases k<;>first | trivial | (rename_i i k;cases i<;>first | exact so | exact so.elim)
  cases l with
  | nil=>
   have h1:=dw hI nB hm bI sq iH Dy L6 f k xs s R aO tl h;exact fun a w hR=>(xr so).1 h1 a w hR
  | cons p rr=>
   obtain⟨i,js⟩:=p;simp only[exec,zk,aAG]at h;show Jz C.P C.n ops _ ((i,js)::rr) s;simp only[Jz]
   split at h<;>try trivial
   rename_i o ho;obtain⟨atf,h⟩:=aS h;rw[ho];exact⟨Pf R atf,SB bI (fun gZ s' R' h'=>dw hI nB hm bI sq iH Dy L6 f (.wJ ops rr::k) gZ s' R' aO so h') R h⟩
 | f+1,.code c::k,xs,s,R,aO,so,h=>by
  obtain⟨hc,aO⟩:=aO;have rV:C8 k:=so;have tl:X8 k:=by cases k<;>first | trivial | (rename_i i k;cases i<;>first | exact so | exact so.elim)
  have nx:∀(k':List XI) (gZ:br),RS gZ s→jF C.pm k'→C8 k'→exec C Kr Kg f k' gZ=some r→∀a w,RR w0 I A0 C.n s a w→KW C.P Rt k' .normal a w:=fun k' gZ R' ho hn he=>
   (xr hn).1 (dw hI nB hm bI sq iH Dy L6 f k' gZ s R' ho (by cases k'<;>first | trivial | (rename_i i k';cases i<;>first | exact hn | exact hn.elim)) he)
  intro a w hR;cases c with
  | skip=>exact wp_skip (nx k xs R aO rV h a w hR)
  | label l=>exact wp_label (nx k xs R aO rV h a w hR)
  | seq x y=>
   simp only[fe,azF]at hc;refine wp_seq (wp_mono (nx (.code x::.code y::k) xs R ⟨hc.1,hc.2,aO⟩ rV h a w hR) ?_);intro e a' w' hq;rcases gx hq with rfl | rfl | ⟨id,rfl⟩
   ·exact hq
   ·simp only[Exit.then];grind[tC]
   ·exact hq
  | cond c x y=>
   simp only[fe,azF]at hc;simp only[exec]at h
   split at h<;>try trivial
   rename_i b hb;have hv:=R.ev c;rw[hb]at hv;simp only[XV]at hv;obtain⟨β',A,R'⟩:=hR;have TO:=kB R'.au c;rw[hv]at TO;refine wp_cond_split (ug TO) (fun e=>?_) (fun e=>?_)
   ·rw[e]at h;exact nx (.code x::k) xs R ⟨hc.1,aO⟩ rV h a w ⟨β',A,R'⟩
   ·rw[e]at h;exact nx (.code y::k) xs R ⟨hc.2,aO⟩ rV h a w ⟨β',A,R'⟩
  | block id x=>exact wp_block (wp_mono (nx (.code x::.inBlock id::k) xs R ⟨hc,aO⟩ rV h a w hR) ahz)
  | scope x=>
   refine wp_scope_straight (wp_mono (nx (.code x::k) xs R ⟨hc,aO⟩ rV h a w hR) ?_);intro e a' w' hq;rcases gx hq with rfl | rfl | ⟨id,rfl⟩<;>exact hq
  | exit id=>
   simp only[exec]at h
   split at h<;>try trivial
   rename_i k' wv;exact wp_exit (xy id a w k k' wv (nx k' xs R (jF.pop wv aO) (C8.pop wv rV) h a w hR))
  | ret=>exact wp_ret (by rw[tC];exact Dy xs s R h a w hR)
  | region id ops draw=>
   cases draw with
   | false=>exact wp_region_list (nx (.ops ops ops.toList::k) xs R aO rV h a w hR)
   | true=>
    obtain⟨hc1,Ia⟩:=aAk.1 hc;have h1:=dw hI nB hm bI sq iH Dy L6 f (.wJ (iJ (C.pm id).1.length ops) (C.pm id).1::.ops ops (ops.toList.drop (C.pm id).1.length)::k) _ _ (R.YP (AL.KI (C.pm id).2)) aO rV h;exact Ds hm hc1 Ia (fun s' a' w' hs TZ=>hs a' w' TZ) hR h1
  | loop body=>exact Fk (L6 (.head body::k) xs s R ⟨hc,aO⟩ rV h a w hR)
  | rangeFunc=>cases h
  | goto=>cases h
  | refuse=>cases h
end
end Go.AL
