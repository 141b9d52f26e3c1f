/- By an AI agent. -/
import Derived.Test.YtfggefeflojnkaaGreatAxEx
set_option linter.unusedSimpArgs false
namespace Go.AL
mutual
theorem Aj:∀(t:Ty) (x:t.T) (v:V),fk t x v→bN v
 | .int k,x,v,h=>by simp only[fk]at h;subst h;exact .int _ _
 | .bool,x,v,h=>by simp only[fk]at h;subst h;exact .bool _
 | .str,x,v,h=>by simp only[fk]at h;subst h;exact .str _
 | .sl cs,x,v,h=>by
  simp only[fk]at h;rcases h with⟨_,rfl⟩ | ⟨rows,rfl,hr⟩
  ·exact .nil
  ·refine .sl rows fun row aO y hy=>?_
   obtain⟨i,hi⟩:=aDf aO;obtain⟨a,_,ha⟩:=aP.uZ hr i row hi;exact fX cs a row ha y hy
theorem fX:∀(τ:List Ty) (x:az τ) (row:List V),cD τ x row→∀y∈row,bN y
 | [],x,row,h,y,hy=>by simp only[cD]at h;subst h;cases hy
 | t::ts,x,row,h,y,hy=>by
  simp only[cD]at h;exact Az ts (fk t) (fun x v=>Aj t x v) x row h y hy
theorem Az{A:Type}:∀(τ:List Ty) (R:A→V→Prop),(∀x v,R x v→bN v)→∀(x:cN A τ) (row:List V),dz R τ x row→∀y∈row,bN y
 | [],R,hR,x,row,h,y,hy=>by
  simp only[dz]at h;obtain⟨v,rfl,hv⟩:=h;simp at hy;subst hy;exact hR _ _ hv
 | t::ts,R,hR,x,row,h,y,hy=>by
  simp only[dz]at h;obtain⟨v,r,rfl,hv,hr⟩:=h;rcases aCJ.1 hy with rfl | hy
  ·exact hR _ _ hv
  ·exact Az ts (fk t) (fun x v=>Aj t x v) _ r hr y hy
end
theorem Dy(k:RK)(x:k.T)(rd:RD)(h:sQ k x rd):rd.deep:=by
 cases k with
 | v t=>
  obtain⟨y,rfl,hy⟩:=h;have:=Aj t x y hy;have Ib:=(oI t x y hy).2;show ir (fun _=>true) y;cases this<;>first | exact bN.int _ _ | exact bN.bool _ | exact bN.str _ | exact bN.nil | exact bN.raw _ | exact bN.sl _ ‹_›
 | g τ=>
  obtain⟨row,rfl,hy⟩:=h;exact fX τ x row hy
 | o ty es τ=>
  obtain⟨rows,rfl,hy⟩:=h;intro row aO;obtain⟨i,hi⟩:=aDf aO;obtain⟨a,_,ha⟩:=aP.uZ hy i row hi;exact fX τ a row ha
 | a ty es j τ=>
  obtain⟨pre,rows,post,rfl,hl,hy⟩:=h;have hd:=fX τ x _ hy;refine⟨?_,fun y hy=>hd y (by rcases aC3.1 hy with h | h<;>simp[h])⟩;have h1:=hd (.sl rows) (by simp);cases h1 with
  | sl _ h=>exact h
theorem AE{A:Type}{f:A→RD→Prop}(hf:∀x rd,f x rd→rd.deep):∀(ks:List RK) (x:aA.jE A ks) (rds:List RD),dg f ks x rds→∀rd∈rds,rd.deep
 | [],x,rds,h,rd,hr=>by
  simp only[dg]at h;obtain⟨y,rfl,h1⟩:=h;simp at hr;subst hr;exact hf _ _ h1
 | k::ks,x,rds,h,rd,hr=>by
  simp only[dg]at h;obtain⟨y,r,rfl,h1,h2⟩:=h;rcases aCJ.1 hr with rfl | hr
  ·exact hf _ _ h1
  ·exact AE (fun x rd=>Dy k x rd) ks _ r h2 rd hr
theorem T5(ks:List RK)(x:aA ks)(rds:List RD)(h:cw ks x rds):∀rd∈rds,rd.deep:=by
 cases ks with
 | nil=>simp only[cw]at h;subst h;intro rd hr;cases hr
 | cons k ks=>simp only[cw]at h;exact AE (fun x rd=>Dy k x rd) ks x rds h
theorem dy.tc(v:Nat)(ob:dy):(ob.mJ v).bf=v:=by cases ob<;>rfl
theorem fV.mJ{H:jR}{ob:dy}{ob':Ob}(v:Nat)(h:fV H ob ob'):fV H (ob.mJ v) ob':=by cases ob<;>exact h
theorem vi{n:Nat}{d:Option Nat}(h:N1 n d=true):dOK n d:=by
 cases d with
 | none=>trivial
 | some d=>exact aEA h
def iE(s:St)(F:Nat→Prop)(x x':V):Prop:=(x'=x∧x.pure=true∧∀cs,x ≠ .agg cs)∨∃p n ob,x=.ref p n∧F p∧s.h p=some ob∧ob.imp=false∧n=ob.rows.length∧x'=.sl ob.rows
section
variable {xs:bF} {s:St} {F:Nat→Prop}
theorem aiB(R:RS xs s){σ:List Ty}{x:X}{l:List (az σ)}{f:List Nat}{v:V}(h:ao9 xs.h σ x=some (l,f))(hv:XV ⟨xs.c,xs.h,s.h⟩ x v)(hF:∀p∈f,F p):∃v',iE s F v v'∧((l=[]∧v'=.nil)∨∃rows,v'=.sl rows∧bK σ l rows):=by
 have sl:∀{x:X} {l:List (az σ)} {v:V},Yu σ x=some l→XV ⟨xs.c,xs.h,s.h⟩ x v→∃v',iE s F v v'∧((l=[]∧v'=.nil)∨∃rows,v'=.sl rows∧bK σ l rows):=by
  intro x l v h hv;have h1:=Qq h hv;refine⟨v,.inl ⟨rfl,?_⟩,h1⟩;rcases h1 with⟨_,rfl⟩ | ⟨rows,rfl,_⟩<;>exact⟨rfl,fun cs h=>by cases h⟩
 unfold ao9 at h
 split at h
 ·rename_i p bf
  split at h
  ·rename_i v' ty es τ l' ho
   split at h<;>try (cases h;done)
   rename_i hτ;obtain⟨hb,h⟩:=bg h;simp only[aCA,aCH]at h;obtain⟨rfl,rfl⟩:=h;obtain⟨bD,ob,h1,h2,h3,h4,rfl⟩:=cQ (H:=⟨xs.c,xs.h,s.h⟩) R.h hv (by unfold dv;simp only;rw[ho];exact hb);simp only at h1 h3;rw[ho]at h1;cases h1;obtain⟨_,_,himp,h8⟩:=h4;refine⟨.sl ob.rows,.inr ⟨p,_,ob,rfl,hF p (by simp),h3,himp,rfl,rfl⟩,?_⟩;exact .inr ⟨_,rfl,(cC _ hτ _).2 h8⟩
  ·rename_i v' ty es imp rows ho
   obtain⟨hb,h⟩:=bg h;simp only[aCs,aDe]at hb
   split at h<;>try (cases h;done)
   rename_i l' hl;simp only[aCA,aCH]at h;obtain⟨rfl,rfl⟩:=h;obtain⟨bD,ob,h1,h2,h3,h4,rfl⟩:=cQ (H:=⟨xs.c,xs.h,s.h⟩) R.h hv (by unfold dv;simp only;rw[ho];exact hb.1);simp only at h1 h3;rw[ho]at h1;cases h1;obtain⟨_,_,himp,h8⟩:=h4;refine⟨.sl ob.rows,.inr ⟨p,_,ob,rfl,hF p (by simp),h3,by rw[himp];exact hb.2,rfl,rfl⟩,?_⟩;exact .inr ⟨_,rfl,dq hl h8⟩
  ·cases h
 ·split at h<;>try (cases h;done)
  rename_i l' hl;simp only[aCA,aCH]at h;obtain⟨rfl,rfl⟩:=h;exact sl hl hv
theorem zd(R:RS xs s)(t:Ty){x:X}{y:t.T}{f:List Nat}{v:V}(h:TL xs.h t x=some (y,f))(hv:XV ⟨xs.c,xs.h,s.h⟩ x v)(hF:∀p∈f,F p):∃v',iE s F v v'∧fk t y v':=by
 cases t with
 | sl σ=>
  obtain⟨v',h1,h2⟩:=aiB (σ:=σ) R h hv hF;exact⟨v',h1,by simp only[fk];exact h2⟩
 | int k=>
  change noF (Bc k x)=some (y,f)at h
  unfold noF at h
  split at h<;>try (cases h;done)
  rename_i a ha;have he:=(Prod.mk.inj (aDb h)).1;have:=DN ha;subst this;simp only[XV]at hv;exact⟨v,.inl ⟨rfl,by subst hv;exact⟨rfl,fun cs h=>by cases h⟩⟩,by simp only[fk];rw[hv];exact aCL _ he⟩
 | bool=>
  change noF (vv x)=some (y,f)at h
  unfold noF at h
  split at h<;>try (cases h;done)
  rename_i a ha;have he:=(Prod.mk.inj (aDb h)).1;have:=BF ha;subst this;simp only[XV]at hv;exact⟨v,.inl ⟨rfl,by subst hv;exact⟨rfl,fun cs h=>by cases h⟩⟩,by simp only[fk];rw[hv];exact aCL _ he⟩
 | str=>
  change noF (Am x)=some (y,f)at h
  unfold noF at h
  split at h<;>try (cases h;done)
  rename_i a ha;have he:=(Prod.mk.inj (aDb h)).1;have:=Df ha;subst this;simp only[XV]at hv;exact⟨v,.inl ⟨rfl,by subst hv;exact⟨rfl,fun cs h=>by cases h⟩⟩,by simp only[fk];rw[hv];exact aCL _ he⟩
theorem Nc{A B:Type}{a:Option (A×List Nat)}{b:Option (B×List Nat)}{p:A×B}{f:List Nat}(h:QG a b=some (p,f)):∃f1 f2,a=some (p.1,f1)∧b=some (p.2,f2)∧f=f1++f2:=by
 unfold QG at h
 split at h<;>try (cases h;done)
 split at h<;>try (cases h;done)
 simp only[aCA,aCH]at h;obtain⟨rfl,rfl⟩:=h;exact⟨_,_,rfl,rfl,rfl⟩
theorem Di(R:RS xs s){A:Type}{f:X→Option (A×List Nat)}{Q:A→V→Prop}(hf:∀x y g v,f x=some (y,g)→XV ⟨xs.c,xs.h,s.h⟩ x v→(∀p∈g,F p)→∃v',iE s F v v'∧Q y v'):
  ∀(τ:List Ty) (cs:List X) (y:cN A τ) (g:List Nat) (vs:List V),EY xs.h f τ cs=some (y,g)→bj ⟨xs.c,xs.h,s.h⟩ cs vs→(∀p∈g,F p)→∃cI,aP (iE s F) vs cI∧dz Q τ y cI
 | [],cs,y,g,vs,h,hv,hF=>by
  match cs,h,hv with
  | [x],h,hv=>
   have h:f x=some (y,g):=h;simp only[bj]at hv;obtain⟨v,r,rfl,h1,rfl⟩:=hv;obtain⟨v',h2,h3⟩:=hf x y g v h h1 hF;simp only[dz];exact⟨[v'],⟨h2,trivial⟩,v',rfl,h3⟩
 | t::ts,cs,y,g,vs,h,hv,hF=>by
  match cs,h,hv with
  | x::r,h,hv=>
   have h:QG (f x) (EY xs.h (TL xs.h t) ts r)=some (y,g):=h;obtain⟨f1,f2,h1,h2,rfl⟩:=Nc h;simp only[bj]at hv;obtain⟨v,r',rfl,h3,h4⟩:=hv;obtain⟨v',h5,h6⟩:=hf x _ f1 v h1 h3 (fun p hp=>hF p (aDv _ hp));obtain⟨cI,h7,h8⟩:=Di R (fun x y g v=>zd R t) ts r _ f2 r' h2 h4 (fun p hp=>hF p (aDw _ hp));simp only[dz];exact⟨v'::cI,⟨h5,h7⟩,v',cI,rfl,h6,h8⟩
theorem kX(R:RS xs s)(τ:List Ty){cs:List X}{y:az τ}{g:List Nat}{vs:List V}(h:uk xs.h τ cs=some (y,g))(hv:bj ⟨xs.c,xs.h,s.h⟩ cs vs)(hF:∀p∈g,F p):∃cI,aP (iE s F) vs cI∧cD τ y cI:=by
 cases τ with
 | nil=>
  match cs,h,hv with
  | [],h,hv=>simp only[bj]at hv;subst hv;exact⟨[],trivial,by simp only[cD]⟩
 | cons t ts=>
  simp only[cD];exact Di R (fun x y g v=>zd R t) ts cs y g vs h hv hF
end
def YD:V→Bool
 | .int .. | .bool _ | .str _=>true
 | _=>false
def RD.wQ:RD→Bool
 | .v x=>YD x
 | _=>false
def vwC(x y:V):Prop:=(y=x∧x.atom=true)∨∃rows,x=.sl rows∧y=.rd rows
def vwA(x y:V):Prop:=y=x∨∃cs fj,x=.agg cs∧y=.dP fj∧aP vwC cs fj
theorem AH{w:World}{A1 A:Nat→Prop}{rds:List RD}{w':World}{us:List Value}{β':Nat→Option Nat}{A':Nat→Prop}(hA:∀b,A b→b<w.heap.size)(h:vC w A1 rds w' us β' A')(hs:∀rd∈rds,rd.wQ=true):vC w A rds w' us iF A:=by
 have hn:∀k,fC rds k=none:=fun k=>by
  unfold fC;cases hr:rds[k]? with
  | none=>rfl
  | some rd=>
   have:=hs rd (aCC hr);cases rd with
   | v x=>rfl
   | o ty es rows=>simp[RD.wQ]at this
   | a ty es rows pre post=>simp[RD.wQ]at this
 refine⟨h.len,⟨fun p ob hp=>(by simp only[hn]at hp;cases hp),fun p q o1 o2 b hp=>(by simp only[hn]at hp;cases hp),fun b hb=>aCP (hA b hb) h.ev.size⟩,fun k rd hk=>?_,fun b _ hb=>hb,h.ev,fun k ob b hp=>(by simp only[hn]at hp;cases hp)⟩;obtain⟨u,h1,h2⟩:=h.rel k rd hk;refine⟨u,h1,?_⟩;have:=hs rd (aCC hk);cases rd with
 | v x=>
  cases x<;>simp only[RD.wQ,YD]at this<;>try (cases this;done)
  ·cases (show bh _ _ _ _ from h2);exact cH.aU (.int _ _)
  ·cases (show bh _ _ _ _ from h2);exact cH.aU (.bool _)
  ·cases (show bh _ _ _ _ from h2);exact cH.aU (.str _)
 | o ty es rows=>simp[RD.wQ]at this
 | a ty es rows pre post=>simp[RD.wQ]at this
def alu(h:Nat→Option Ob)(x y:V):Prop:=(∃o n ob,x=.ref o n∧h o=some ob∧n=ob.rows.length∧ob.imp=false∧y=.rd ob.rows)∨(y=x∧x.atom=true)
def Lp(h:Nat→Option Ob)(x y:V):Prop:=jD h x y∨∃cs fj,x=.dP cs∧y=.dP fj∧aP (alu h) cs fj
theorem acj{w:World}{A:Nat→Prop}{h:Nat→Option Ob}{β:Nat→Option Nat}(H:cz ⟨w,A,h,β⟩){x y:V}{u:Value}(hr:Rel ⟨w,A,h,β⟩ x u)(ha:Lp h x y):Rel ⟨w,A,fY,iF⟩ y u:=by
 rcases ha with ha | ⟨cs,fj,rfl,rfl,hc⟩
 ·exact Gt H hr ha
 ·obtain⟨us,hu,hl,iu⟩:=hr
  refine⟨us,hu,by rw[hl,hc.len],fun j z hz=>?_⟩;obtain⟨z',hz',UD⟩:=aP.uZ hc j z hz;obtain⟨q,q1,q2,q3⟩:=iu j z' hz';refine⟨q,q1,q2,?_⟩;rcases UD with⟨o,n,ob,rfl,h1,h2,h3,rfl⟩ | ⟨rfl,fJ⟩
  ·have:Rel ⟨w,A,fY,iF⟩ (.rd ob.rows) q:=Gt H (x:=.ref o n) q3 ⟨ob,h1,h2,h3,rfl⟩
   exact this
  ·exact wT (E:=⟨w,A,h,β⟩) fJ (fun _ _ h=>h) q3
theorem Vr{w:World}{A:Nat→Prop}{h:Nat→Option Ob}{β:Nat→Option Nat}(H:cz ⟨w,A,h,β⟩){xs ys:List V}{vs:Array Value}(ha:aP (Lp h) xs ys)(hr:∀(i:Nat) (x:V),xs[i]? = some x→∃u,vs[i]? = some u∧Rel ⟨w,A,h,β⟩ x u):
  ∀(i:Nat) (y:V),ys[i]? = some y→∃u,vs[i]? = some u∧Rel ⟨w,A,fY,iF⟩ y u:=fun i y hy=>by
 obtain⟨x,hx,uQ⟩:=aP.uZ ha i y hy;obtain⟨u,h1,h2⟩:=hr i x hx;exact⟨u,h1,acj H h2 uQ⟩
section
variable {xs:bF} {s:St}
theorem Lr(R:RS xs s)(k:AK)(x:X)(a:k.T)(v:V)(h:Ep xs.h k x=some a)(hx:XV ⟨xs.c,xs.h,s.h⟩ x v):∃v' Xb,j4 k a v'∧vwA v' Xb∧Lp s.h v Xb:=by
 have sT:acm xs.h k x=some a→∃v' Xb,j4 k a v'∧vwA v' Xb∧Lp s.h v Xb:=fun h=>by
  obtain⟨v',h1,h2⟩:=Gu R.h k x a v h hx;exact⟨v',v',h2,.inl rfl,.inl h1⟩
 cases k with
 | g τ=>
  change gDV xs.h τ x=some a at h
  cases x<;>try (cases h;done)
  rename_i imp cs;cases imp with
  | true=>
   change (match uk xs.h τ cs with | some (v,_)=>some v | none=>none)=some a at h
   cases hg:uk xs.h τ cs with
   | none=>rw[hg]at h;cases h
   | some q=>
   obtain⟨v0,g⟩:=q;rw[hg]at h;cases h;simp only[XV]at hx;obtain⟨vs,rfl,e2⟩:=hx;obtain⟨cI,h1,h2⟩:=kX (F:=fun _=>True) R τ hg e2 (fun _ _=>trivial);have key:∀{vs cI:List V},aP (iE s fun _=>True) vs cI→(∀y∈cI,bN y)→∃CN,aP vwC cI CN∧aP (alu s.h) vs CN:=by
    intro vs;induction vs with
    | nil=>intro cI h _;cases cI with
     | nil=>exact⟨[],trivial,trivial⟩
     | cons _ _=>exact h.elim
    | cons y vs ih=>intro cI h hp;cases cI with
     | nil=>exact h.elim
     | cons z cI=>
      obtain⟨r,r1,r2⟩:=ih h.2 (fun y hy=>hp y (aCQ _ hy));rcases h.1 with⟨rfl,_,_⟩ | ⟨p,n,ob,rfl,_,q1,q2,q3,rfl⟩
      ·have fJ:V.atom z=true:=by
        have:=hp z (aCK ..);cases this<;>rfl
       exact⟨z::r,⟨.inl ⟨rfl,fJ⟩,r1⟩,⟨.inr ⟨rfl,fJ⟩,r2⟩⟩
      ·exact⟨.rd ob.rows::r,⟨.inr ⟨ob.rows,rfl,rfl⟩,r1⟩,⟨.inl ⟨p,n,ob,rfl,q1,q3,q2,rfl⟩,r2⟩⟩
   obtain⟨r,r1,r2⟩:=key h1 (fX τ _ cI h2);exact⟨.agg cI,.dP r,⟨cI,rfl,h2⟩,.inr ⟨cI,r,rfl,rfl,r1⟩,.inr ⟨vs,r,rfl,rfl,r2⟩⟩
  | false=>exact sT h
 | c t=>exact sT h
 | rd τ=>exact sT h
 | cp τ=>exact sT h
 | fn f bZ=>exact sT h
 | raw u=>exact sT h
theorem Vt(R:RS xs s)(ks:List AK)(l:List X)(a:dE ks)(vs:List V)(h:ach xs.h ks l=some a)(hv:bj ⟨xs.c,xs.h,s.h⟩ l vs):∃cI CN,cE ks a cI∧aP vwA cI CN∧aP (Lp s.h) vs CN:=by
 have key:∀(ks:List AK) {A:Type} (f:X→Option A) (Q:A→V→Prop),(∀x a v,f x=some a→XV ⟨xs.c,xs.h,s.h⟩ x v→∃v' Xb,Q a v'∧vwA v' Xb∧Lp s.h v Xb)→∀(l:List X) (a:dE.kE A ks) (vs:List V),zt xs.h f ks l=some a→bj ⟨xs.c,xs.h,s.h⟩ l vs→
   ∃cI CN,et Q ks a cI∧aP vwA cI CN∧aP (Lp s.h) vs CN:=by
  intro ks;induction ks with
  | nil=>
   intro A f Q hf l a vs h hv
   match l,h,hv with
   | [x],h,hv=>
    have h:f x=some a:=h;simp only[bj]at hv;obtain⟨v,r,rfl,h1,rfl⟩:=hv;obtain⟨v',Xb,q1,q2,q3⟩:=hf x a v h h1;simp only[et];exact⟨[v'],[Xb],⟨v',rfl,q1⟩,⟨q2,trivial⟩,⟨q3,trivial⟩⟩
  | cons k ks ih=>
   intro A f Q hf l a vs h hv
   match l,h,hv with
   | x::r,h,hv=>
    have h:lA (f x) (zt xs.h (Ep xs.h k) ks r)=some a:=h;obtain⟨ha,hr⟩:=gI h;simp only[bj]at hv;obtain⟨v,r',rfl,h1,h2⟩:=hv;obtain⟨v',Xb,q1,q2,q3⟩:=hf x _ v ha h1;obtain⟨ws',avg,p1,p2,p3⟩:=ih (Ep xs.h k) (j4 k) (fun x a v=>Lr R k x a v) r _ r' hr h2;simp only[et];exact⟨v'::ws',Xb::avg,⟨v',ws',rfl,q1,p1⟩,⟨q2,p2⟩,⟨q3,p3⟩⟩
 cases ks with
 | nil=>
  match l,h,hv with
  | [],h,hv=>simp only[bj]at hv;subst hv;exact⟨[],[],by simp only[cE],trivial,trivial⟩
 | cons k ks=>
  simp only[cE];exact key ks (Ep xs.h k) (j4 k) (fun x a v=>Lr R k x a v) l a vs h hv
end
theorem XS:∀(t:Ty) (x:t.T) (v:V),akx t=true→fk t x v→YD v=true
 | .int k,x,v,_,h=>by simp only[fk]at h;subst h;rfl
 | .bool,x,v,_,h=>by simp only[fk]at h;subst h;rfl
 | .str,x,v,_,h=>by simp only[fk]at h;subst h;rfl
 | .sl cs,x,v,hs,h=>by cases hs
theorem JV:∀(ks:List RK) (x:aA ks) (rds:List RD),ks.all JW=true→cw ks x rds→∀rd∈rds,rd.wQ=true:=by
 have one:∀(k:RK) (x:k.T) (rd:RD),JW k=true→sQ k x rd→rd.wQ=true:=by
  intro k x rd hk h;cases k with
  | v t=>
   obtain⟨y,rfl,hy⟩:=h;exact XS t x y hk hy
  | g τ=>cases hk
  | o ty es τ=>cases hk
  | a ty es j τ=>cases hk
 have key:∀(ks:List RK) {A:Type} (Q:A→RD→Prop),(∀x rd,Q x rd→rd.wQ=true)→ks.all JW=true→∀(x:aA.jE A ks) (rds:List RD),dg Q ks x rds→∀rd∈rds,rd.wQ=true:=by
  intro ks;induction ks with
  | nil=>
   intro A Q hQ _ x rds h rd hr;simp only[dg]at h;obtain⟨y,rfl,h1⟩:=h;simp at hr;subst hr;exact hQ _ _ h1
  | cons k ks ih=>
   intro A Q hQ ha x rds h rd hr;simp only[aEy,aCs]at ha;simp only[dg]at h;obtain⟨y,r',rfl,h1,h2⟩:=h;rcases aCJ.1 hr with rfl | hr
   ·exact hQ _ _ h1
   ·exact ih (sQ k) (fun x rd=>one k x rd ha.1) ha.2 _ r' h2 rd hr
 intro ks x rds ha h;cases ks with
 | nil=>simp only[cw]at h;subst h;intro rd hr;cases hr
 | cons k ks=>
  simp only[aEy,aCs]at ha;simp only[cw]at h;exact key ks _ (fun x rd=>one k x rd ha.1) ha.2 x rds h
theorem aP.ao6{A B:Type}{R:A→B→Prop}{as:List A}{bs:List B}(h:aP R as bs)(i:Nat)(a:A)(ha:as[i]? = some a):∃b,bs[i]? = some b∧R a b:=aP.get h i a ha
theorem Ew.view{P:Program}{g:FuncId}{args dp:List V}{Pd:List RD→Prop}(h:Ew P g args Pd)(hs:∀rds,Pd rds→∀rd∈rds,rd.wQ=true)(hv:aP vwA args dp):Ew P g dp Pd:=by
 refine⟨h.1,fun w A vs hA dC hrel=>?_⟩;have S:Step ⟨w,A,fY,iF⟩ ⟨w,fun _=>False,fY,iF⟩:=⟨fun _ _ _=>rfl,aCt _,fun _ _ h=>h.elim,fun _ _ h=>h⟩;have H0:cz ⟨w,A,fY,iF⟩:=⟨fun o ob ho=>by simp[fY]at ho,fun o o' ob ob' b ho=>by simp[fY]at ho,hA⟩;have amr:∀x u,Rel ⟨w,A,fY,iF⟩ x u→Rel ⟨w,fun _=>False,fY,iF⟩ x u:=fun x u hr=>by
  have:=Rel.step H0 S (fun _=>false) (fun p _ ob ho=>by simp[fY]at ho) hr
  rwa [V.bV]at this
 refine(h.2 w (fun _=>False) vs (fun b hb=>hb.elim) (by rw[dC,hv.len]) (fun i x hx=>?_)).mono ?_
 ·obtain⟨y,hy,uQ⟩:=hv.ao6 i x hx
  obtain⟨u,h1,h2⟩:=hrel i y hy;refine⟨u,h1,?_⟩;rcases uQ with rfl | ⟨cs,fj,rfl,rfl,hc⟩
  ·exact amr _ _ h2
  ·obtain⟨us,hu,hl,iu⟩:=h2
   refine⟨us,hu,by rw[hl,hc.len],fun j z hz=>?_⟩;obtain⟨z',hz',UD⟩:=hc.ao6 j z hz;obtain⟨q,q1,q2,q3⟩:=iu j z' hz';refine⟨q,q1,?_⟩;rcases UD with⟨rfl,fJ⟩ | ⟨rows,rfl,rfl⟩
   ·have:bh w A z' q:=by cases z'<;>first | exact q3 | (simp[V.atom]at fJ;done)
    exact this.frame (fun _ _ _=>rfl) (aCt _) (fun _ _ h=>h.elim)
   ·exact mM.2 (gC.frame (w:=w) (w':=w) (fun _ _ _=>rfl) (fun _ _ _=>rfl) (aCt _) (fun _ _ h=>h.elim) (fun _ _ h=>h.elim) (show gC w A _ rows q from q3))
 ·rintro e w' ⟨rds,us,β',A',xQ,rfl,hp⟩
  exact⟨rds,us,iF,A,xQ,rfl,AH hA hp (hs rds xQ)⟩
section
variable {β:Type} {P:Program} {es:List db} {n:Nat} {r:β}
theorem BD{xs:bF}{s:St}(R:RS xs s){g:FuncId}{args:List X}{vs:List V}(hv:bj ⟨xs.c,xs.h,s.h⟩ args vs){dst:Option Nat}{Φ:bF→Option β}{Ψ:St→Prop}(hΦ:∀gR s',RS gR s'→Φ gR=some r→Ψ s'):
  ∀(l:List db),(∀e∈l,e.Ok P)→K7 xs g args dst Φ l=some r→∃dp Pd,Ew P g dp Pd∧kM s.h vs dp∧∀rds,Pd rds→(∀rd∈rds,rd.deep)∧Ψ (s.call dst rds)
 | [],_,h=>by cases h
 | e::l,hl,h=>by
  simp only[K7]at h;cases hg:Nat.beq e.g g with
  | false=>rw[hg]at h;exact BD R hv hΦ l (fun e' he'=>hl e' (aCQ _ he')) h
  | true=>
   rw[hg]at h;simp only[aCn]at h
   split at h
   ·rename_i a ha
    obtain⟨hp,h⟩:=bg h;obtain⟨cI,h1,h2⟩:=Ln R.h e.ad args a vs ha hv;have aX:=hl e (aCK ..) a hp cI h2;rw[aCI hg]at aX;refine⟨cI,_,aX,h1,fun rds hr=>⟨T5 _ _ _ hr,hΦ _ _ (R.aca dst e.rk (e.fn a) rds hr) h⟩⟩
   ·exact BD R hv hΦ l (fun e' he'=>hl e' (aCQ _ he')) h
theorem Km(h:Nat→Option dy)(qs:List Nat)(p:Nat):A6 h qs p=if p∈qs then none else h p:=by
 unfold A6;by_cases hp:p∈qs
 ·rw[aCr hp,show qs.any (fun q=>Nat.beq p q)=true from aEf.2 ⟨p,hp,aD7 p⟩];rfl
 ·rw[aCo hp,show qs.any (fun q=>Nat.beq p q)=false from aEq.2 fun q hq hb=>hp (by rw[aCI hb];exact hq)];rfl
theorem Kl{xs:bF}{s:St}(qs:List Nat):LX (fun _=>false) ⟨xs.c,xs.h,s.h⟩ ⟨xs.c,A6 xs.h qs,oX s.h qs⟩:=by
 refine⟨aCt _,fun o bD h1 _=>?_⟩;simp only[Km]at h1;by_cases ho:o∈qs
 ·rw[aCr ho]at h1;cases h1
 ·rw[aCo ho]at h1
  refine⟨rfl,⟨bD,h1,rfl⟩,fun ob h2=>⟨ob,?_,rfl⟩⟩;simp only[oX,aCo ho];exact h2
theorem Ut{xs:bF}{s:St}(R:RS xs s)(qs:List Nat):∀o bD,(⟨xs.c,A6 xs.h qs,oX s.h qs⟩:jR).x o=some bD→bD.bf<xs.c∧∃ob,oX s.h qs o=some ob∧fV ⟨xs.c,A6 xs.h qs,oX s.h qs⟩ bD ob:=by
 intro o bD h1;simp only[Km]at h1;by_cases ho:o∈qs
 ·rw[aCr ho]at h1;cases h1
 ·rw[aCo ho]at h1
  obtain⟨h2,ob,h3,h4⟩:=R.h o bD h1;refine⟨h2,ob,by simp only[oX,aCo ho];exact h3,?_⟩;have:=h4.frame (Kl (xs:=xs) (s:=s) qs)
  rwa [Ob.bV]at this
theorem ahB{H:jR}(aZ:∀o bD,H.x o=some bD→bD.bf<H.c∧∃ob,H.v o=some ob∧fV H bD ob){ty es:Nat}{σ:List Ty}{x:X}{v:V}{q bf:Nat}{l:List (az σ)}(h:anD H.x ty es σ x=some (q,bf,l))(hx:XV H x v):
  ∃rows bD,H.v q=some ⟨ty,es,false,rows⟩∧bK σ l rows∧v=.ref q rows.length∧H.x q=some bD∧bD.bf=bf:=by
 unfold anD at h
 split at h<;>try (cases h;done)
 rename_i o arc
 split at h<;>try (cases h;done)
 ·rename_i v' mG lL τ l' hh
  split at h<;>try (cases h;done)
  rename_i hτ;cases hb:(Nat.beq v' arc&&(Nat.beq mG ty&&Nat.beq lL es))with
  | false=>rw[hb]at h;cases h
  | true=>
   rw[hb]at h;simp only[aCn]at h;simp only[aCs]at hb;obtain⟨h1,h2,h3⟩:=hb;have h1:=aCI h1;have h2:=aCI h2;have h3:=aCI h3;subst h1 h2 h3;cases h;obtain⟨_,ob,h4,h5⟩:=aZ _ _ hh;simp only[XV]at hx;obtain⟨bM,h6,rfl⟩:=hx.2 _ hh rfl;rw[h4]at h6;cases h6;obtain⟨e1,e2,e3,e4⟩:=h5;obtain⟨t,e,i,rows⟩:=ob;simp only at e1 e2 e3 e4;subst e1 e2 e3;exact⟨rows,_,h4,(cC _ hτ _).2 e4,rfl,hh,rfl⟩
 ·rename_i v' mG lL imp rows hh
  cases hb:(Nat.beq v' arc&&(Nat.beq mG ty&&(Nat.beq lL es&&!imp)))with
  | false=>rw[hb]at h;cases h
  | true=>
   rw[hb]at h;simp only[aCn]at h;simp only[aCs,aDe]at hb;obtain⟨h1,h2,h3,h3'⟩:=hb;have h1:=aCI h1;have h2:=aCI h2;have h3:=aCI h3;subst h1 h2 h3 h3'
   split at h<;>try (cases h;done)
   rename_i l2 hl;cases h;obtain⟨_,ob,h4,h5⟩:=aZ _ _ hh;simp only[XV]at hx;obtain⟨bM,h6,rfl⟩:=hx.2 _ hh rfl;rw[h4]at h6;cases h6;obtain⟨e1,e2,e3,e4⟩:=h5;obtain⟨t,e,i,bE⟩:=ob;simp only at e1 e2 e3 e4;subst e1 e2 e3;exact⟨bE,_,h4,dq hl e4,rfl,hh,rfl⟩
theorem BK{h:Nat→Option Ob}:∀{xs ys:List V},kM h xs ys→xs.length=ys.length∧∀(i:Nat) (x y:V),xs[i]? = some x→ys[i]? = some y→jD h x y
 | [],[],_=>⟨rfl,fun i x y h=>by simp at h⟩
 | x::xs,y::ys,ha=>by
  obtain⟨e1,e2⟩:=BK ha.2;refine⟨by simp[e1],fun i a b h1 h2=>?_⟩;cases i with
  | zero=>simp at h1 h2;subst h1 h2;exact ha.1
  | succ i=>exact e2 i a b (by simpa using h1) (by simpa using h2)
 | [],_::_,ha=>ha.elim
 | _::_,[],ha=>ha.elim
theorem D9{xs:bF}{s:St}(R:RS xs s){g:FuncId}{args:List X}{vs:List V}(hv:bj ⟨xs.c,xs.h,s.h⟩ args vs){dst:Option Nat}{Φ:bF→Option β}{Ψ:St→Prop}(hΦ:∀gR s',RS gR s'→Φ gR=some r→Ψ s'):
  ∀(l:List dZ),(∀e∈l,e.Ok P)→xr xs g args dst Φ l=some r→∃dp qs ls Pd,FnL P g dp ls Pd∧tm s.h qs ls∧Gr s.h qs vs dp∧∀rds outs,Pd rds outs→Ψ (s.nX dst rds qs ls outs)
 | [],_,h=>by cases h
 | e::l,hl,h=>by
  have hr:=D9 R (g:=g) (dst:=dst) hv hΦ l (fun e' he'=>hl e' (aCQ _ he'));simp only[xr]at h;cases hg:Nat.beq e.g g with
  | false=>rw[hg]at h;exact hr h
  | true=>
   rw[hg]at h;simp only[aCn]at h
   split at h<;>try (cases h;done)
   rename_i x rest
   split at h
   ·rename_i q bf lr hq
    have zm:=hl e (aCK ..);unfold dZ.Ok at zm;simp only[bj]at hv;obtain⟨v,vr,rfl,hv1,Xd⟩:=hv;obtain⟨rows,bD,f1,f2,rfl,f4,f5⟩:=ahB (H:=⟨xs.c,xs.h,s.h⟩) R.h hq hv1;simp only at f1 f4;cases htm:(e.two || e.mv)with
    | true=>
     rw[htm]at h;cases h
    | false=>
     rw[Bool.or_eq_false_iff]at htm;obtain⟨UG,hm⟩:=htm;rw[UG,hm]at h;rw[UG]at zm;simp only[Bool.or_self,aCq,aDt,aC4]at h zm
     split at h
     ·rename_i a ha
      obtain⟨hp,h⟩:=bg h;obtain⟨cI,h1,h2⟩:=Ln (H:=⟨xs.c,A6 xs.h [q],oX s.h [q]⟩) (Ut R [q]) e.ad rest a vr ha (bj.frame (Kl [q]) _ _ Xd);have aX:=zm lr a hp rows cI f2 h2;rw[aCI hg]at aX;refine⟨_,[q],_,_,aX,⟨aD5.2 ⟨List.not_mem_nil,List.nodup_nil⟩,rfl,fun i q' ob hi kh=>?_⟩,?_,fun rds outs xQ=>?_⟩
      ·cases i with
       | zero=>simp at hi kh;subst hi kh;exact⟨f1,rfl⟩
       | succ i=>simp at hi
      ·obtain⟨e1,e2⟩:=BK h1
       refine⟨by simp[e1],fun i x y hx hy=>?_⟩;cases i with
       | zero=>simp at hx hy;subst hx hy;exact .inr (.inl ⟨0,q,rows.length,rfl,rfl,rfl⟩)
       | succ i=>exact .inl (e2 i x y (by simpa using hx) (by simpa using hy))
      ·obtain⟨p1,p2⟩:=xQ
       rw[UG]at p2;simp only[aDt,aC4]at p2;rw[hm]at p2;simp only[aDt,aC4]at p2;obtain⟨bE,rfl,p3,p4⟩:=p2;rw[acb s dst rds q _ f1 rfl bE];have R1:=R.arS q (ob:=.t bf e.ty e.es e.τ (e.fn lr [] a).2) (ob':=⟨e.ty,e.es,false,bE⟩) f4 f1 f5.symm p4 ⟨rfl,rfl,rfl,p3⟩ none;exact hΦ _ _ (RS.aca (xs:=xs.ca q _) (s:=s.ca q _) R1 dst e.rk (e.fn lr [] a).1 rds p1) h
     ·exact hr h
   ·exact hr h
theorem Xt{el:List dZ}(sW:∀e∈el,e.Ok P){o:Oper}{Φ:bF→Option β}{Ψ:St→Prop}(hΦ:∀gR s',RS gR s'→Φ gR=some r→Ψ s'){xs:bF}{s:St}(R:RS xs s)(h:IW P el n o Φ xs=some r):alv P n o Ψ s:=by
 unfold IW at h
 split at h<;>try (cases h;done)
 rename_i hg;obtain⟨hd,h⟩:=bg h;have hrel:=za (P:=P) (H:=⟨xs.c,xs.h,s.h⟩) R.h o xs.ev s.ev (fun x=>R.ev x) xs.c;generalize Xa P o xs.ev xs.h xs.c=ar at h hrel;cases ar<;>try (cases h;done)
 rename_i g args;obtain⟨vs,e1,e2⟩:=hrel;exact⟨hg,vi hd,g,vs,e1,D9 R e2 hΦ el sW h⟩
theorem ug(bQ:∀e∈es,e.Ok P){o:Oper}{Φ:bF→Option β}{Ψ:St→Prop}(hΦ:∀gR s',RS gR s'→Φ gR=some r→Ψ s'){xs:bF}{s:St}(R:RS xs s)(h:MD P es n o Φ xs=some r):yZ P n o Ψ s:=by
 unfold MD at h;obtain⟨hd,h⟩:=bg h;refine⟨vi hd,?_⟩;have hrel:=za (P:=P) (H:=⟨xs.c,xs.h,s.h⟩) R.h o xs.ev s.ev (fun x=>R.ev x) xs.c;generalize Xa P o xs.ev xs.h xs.c=ar at h hrel;cases ar with
 | bad=>cases h
 | val c x=>
  obtain⟨hc,h⟩:=bg h;obtain⟨p,v,e1,e2,e3⟩:=hrel hc;rw[e1];exact⟨e2,hΦ _ _ (R.Ug o.dst e3) h⟩
 | new c ob isRef=>
  simp only at h
  split at h<;>try (cases h;done)
  rename_i d iQ;obtain⟨hc,h⟩:=bg h;obtain⟨p,ob',e1,e2,e3,e4⟩:=hrel hc;rw[e1];simp only[iQ];exact⟨e2,.inl (hΦ _ _ (R.asg d isRef (dy.tc _ _) (e3.mJ _) e4) h)⟩
 | H7 c q ob=>
  obtain⟨hc,h⟩:=bg h;obtain⟨p,ob',e1,e2,e3,IY,bG,e4,e5,e6,e7⟩:=hrel hc;rw[e1];exact⟨e2,hΦ _ _ (R.arS q e4 e6 e5 e7 e3 o.dst) h⟩
 | app c q ob=>
  obtain⟨hc,h⟩:=bg h;obtain⟨p,ob',e1,e2,e3⟩:=hrel hc;rw[e1];exact⟨e2,hΦ _ _ (R.axh q (dy.tc _ _) (e3.mJ _) o.dst) h⟩
 | call g args=>
  obtain⟨vs,e1,e2⟩:=hrel;rw[e1];exact BD R e2 hΦ es bQ h
theorem D8{xs:bF}{s:St}(R:RS xs s){g:FuncId}{args:List X}{vs:List V}(hv:bj ⟨xs.c,xs.h,s.h⟩ args vs){dst:Option Nat}{Φ:bF→Option β}{Ψ:St→Prop}(hΦ:∀gR s',RS gR s'→Φ gR=some r→Ψ s'):
  ∀(l:List db),(∀e∈l,e.Ok P)→BE xs g args dst Φ l=some r→∃dp Pd,Ew P g dp Pd∧aP (Lp s.h) vs dp∧∀rds,Pd rds→Ψ (s.call dst rds)
 | [],_,h=>by cases h
 | e::l,hl,h=>by
  have hr:=D8 R (g:=g) (dst:=dst) hv hΦ l (fun e' he'=>hl e' (aCQ _ he'));simp only[BE]at h;cases hg:Nat.beq e.g g&&e.rk.all JW with
  | false=>rw[hg]at h;exact hr h
  | true=>
   rw[hg]at h;simp only[aCn]at h;obtain⟨hg1,hg2⟩:=aC7.1 hg
   split at h
   ·rename_i a ha
    obtain⟨hp,h⟩:=bg h;obtain⟨cI,CN,h1,h2,h3⟩:=Vt R e.ad args a vs ha hv;have aX:=hl e (aCK ..) a hp cI h1;rw[aCI hg1]at aX;exact⟨CN,_,aX.view (fun rds hr=>JV e.rk (e.fn a) rds hg2 hr) h2,h3,fun rds hr=>hΦ _ _ (R.aca dst e.rk (e.fn a) rds hr) h⟩
   ·exact hr h
theorem kS{o:Oper}{Φ:bF→Option β}{Ψ:St→Prop}(hΦ:∀gR s',RS gR s'→Φ gR=some r→Ψ s'){xs:bF}{s:St}(R:RS xs s)(h:xH n o Φ xs=some r):Et n o Ψ s:=by
 unfold xH at h;obtain⟨hd,h⟩:=bg h;exact⟨vi hd,hΦ _ _ (R.Ug o.dst (by simp only[XV];exact⟨[],rfl,by simp[bj]⟩)) h⟩
theorem uz{xs:bF}{s:St}(R:RS xs s){d:Nat}{b:Bool}(h:(if d<100000 then s.t d else .dead)=.bool b):RS (xs.put (some d) (.bool b)) s:=by
 have h:s.t d=.bool b:=by
  split at h
  ·exact h
  ·cases h
 refine⟨fun i=>?_,R.h⟩;simp only[bF.put,eG]
 split
 ·rename_i hi;subst hi;simp only[XV];exact h
 ·exact R.t i
theorem Xq(bQ:∀e∈es,e.Ok P){ops:Array Oper}{o:Oper}{Φ:bF→Option β}{Ψ:St→Prop}(hΦ:∀gR s',RS gR s'→Φ gR=some r→Ψ s'){xs:bF}{s:St}(R:RS xs s)(h:IV P es n ops.toList o Φ xs=some r):ep P n ops o Ψ s:=by
 unfold IV at h;unfold ep FM
 split at h
 ·rename_i hg
  rw[hg];exact ug bQ hΦ R h
 ·rename_i j want hg
  rw[hg];rw[KY,aDy]at h;simp only
  split at h<;>try (cases h;done)
  rename_i d hd;rw[hd];simp only;have hx:XV _ _ (if d<100000 then s.t d else .dead):=R.ev (.tmp d)
  split at h<;>try (cases h;done)
  ·rename_i b hb
   rw[hb]at hx;simp only[XV]at hx;rw[hx];simp only;cases b
   ·have R':=uz R hx
    simp only[aCq]at h;cases want
    ·simp only[aCq]at h
     exact⟨fun _=>ug bQ hΦ R' h,fun e=>by cases e⟩
    ·simp only[aCn]at h
     exact⟨fun e=>(by cases e),fun _=>kS hΦ R' h⟩
   ·have R':=uz R hx
    simp only[aCn]at h;cases want
    ·simp only[aCq]at h
     exact⟨fun e=>(by cases e),fun _=>kS hΦ R' h⟩
    ·simp only[aCn]at h
     exact⟨fun _=>ug bQ hΦ R' h,fun e=>by cases e⟩
  ·rename_i vs hb
   rw[hb]at hx;simp only[XV]at hx;obtain⟨ws,e1,_⟩:=hx;rw[e1];exact kS hΦ R h
theorem ahN{H:jR}{σ:List Ty}{bD:dy}{ob:Ob}{l:List (az σ)}(h:ahO σ bD=some l)(hx:fV H bD ob):ob.imp=false∧bK σ l ob.rows:=by
 cases bD with
 | t bf ty es τ l'=>
  simp only[ahO]at h
  split at h<;>try (cases h;done)
  rename_i hτ;cases aDb h;obtain⟨_,_,h3,h4⟩:=hx;exact⟨h3,(cC _ hτ _).2 h4⟩
 | u bf ty es imp rows=>
  simp only[ahO]at h;cases imp with
  | true=>cases h
  | false=>
   obtain⟨_,_,h3,h4⟩:=hx;exact⟨h3,dq h h4⟩
theorem Aa(bQ:∀e∈es,e.Ok P){fz:List (Nat×List Ty)}{o:Oper}{Φ:bF→Option β}{Ψ:St→Prop}(hΦ:∀gR s',RS gR s'→Φ gR=some r→Ψ s'){xs:bF}{s:St}(R:RS xs s)(h:IX P es n fz o Φ xs=some r):yZ P n o Ψ s:=by
 unfold IX at h
 split at h
 ·exact ug bQ hΦ R h
 rename_i d iQ
 split at h
 ·exact ug bQ hΦ R h
 rename_i k σ hfz;obtain⟨hb,h⟩:=bg h;obtain⟨_,hd⟩:=aC7.1 hb;refine⟨vi hd,?_⟩;have hrel:=za (P:=P) (H:=⟨xs.c,xs.h,s.h⟩) R.h o xs.ev s.ev (fun x=>R.ev x) xs.c;generalize Xa P o xs.ev xs.h xs.c=ar at h hrel
 split at h<;>try (cases h;done)
 rename_i c ob
 split at h<;>try (cases h;done)
 rename_i l hl;obtain⟨hc,h⟩:=bg h;obtain⟨p,ob',e1,e2,e3,e4⟩:=hrel hc;rw[e1];simp only[iQ];obtain⟨himp,bS⟩:=ahN hl e3;refine⟨e2,.inr ⟨trivial,himp,?_⟩⟩;have R1:=R.asg d true (dy.tc _ _) (e3.mJ _) e4;have R2:=R1.aan (fun p=>Nat.beq p d);have R3:=R2.Ug (some d) (x:=.sl σ l) (v:=.sl ob'.rows) (by simp only[XV];exact .inr ⟨ob'.rows,rfl,bS⟩);have e:s.Fs d ob'=((s.new d ob' (.ref d ob'.rows.length)).kill fun p=>Nat.beq p d).put (some d) (.sl ob'.rows):=by
  have hKe:(fun p=>Nat.beq p d)=(fun p=>p == d):=by
   funext p
   by_cases h:p=d
   ·subst h;simp[aD7]
   ·have:Nat.beq p d=false:=by
     cases hb:Nat.beq p d with
     | false=>rfl
     | true=>exact absurd (aCI hb) h
    rw[this];simp[h]
  rw[hKe,← KZ];rfl
 rw[e];exact hΦ _ _ R3 h
theorem Tj(bQ:∀e∈es,e.Ok P){fz:List (Nat×List Ty)}{ops:Array Oper}{o:Oper}{Φ:bF→Option β}{Ψ:St→Prop}(hΦ:∀gR s',RS gR s'→Φ gR=some r→Ψ s'){xs:bF}{s:St}(R:RS xs s)(h:MA P es n fz ops.toList o Φ xs=some r):ep P n ops o Ψ s:=by
 unfold MA at h;unfold ep FM
 split at h
 ·rename_i hg
  rw[hg];exact Aa bQ hΦ R h
 ·rename_i j want hg
  rw[hg];rw[KY,aDy]at h;simp only
  split at h<;>try (cases h;done)
  rename_i d hd;rw[hd];simp only;have hx:XV _ _ (if d<100000 then s.t d else .dead):=R.ev (.tmp d)
  split at h<;>try (cases h;done)
  ·rename_i b hb
   rw[hb]at hx;simp only[XV]at hx;rw[hx];simp only;cases b
   ·have R':=uz R hx
    simp only[aCq]at h;cases want
    ·simp only[aCq]at h
     exact⟨fun _=>Aa bQ hΦ R' h,fun e=>by cases e⟩
    ·simp only[aCn]at h
     exact⟨fun e=>(by cases e),fun _=>kS hΦ R' h⟩
   ·have R':=uz R hx
    simp only[aCn]at h;cases want
    ·simp only[aCq]at h
     exact⟨fun e=>(by cases e),fun _=>kS hΦ R' h⟩
    ·simp only[aCn]at h
     exact⟨fun _=>Aa bQ hΦ R' h,fun e=>by cases e⟩
  ·rename_i vs hb
   rw[hb]at hx;simp only[XV]at hx;obtain⟨ws,e1,_⟩:=hx;rw[e1];exact kS hΦ R h
end
theorem anY{H:jR}(aZ:∀o bD,H.x o=some bD→bD.bf<H.c∧∃ob,H.v o=some ob∧fV H bD ob){q:Nat}{x:X}{v:V}(h:x.nnX H.x q=true)(hx:XV H x v):nn q v:=by
 cases x<;>simp only[X.nnX]at h<;>try (cases h;done)
 case ref p bf=>
  simp only[aCs,aDe]at h;obtain⟨_,ob,_,_,_,_,rfl⟩:=cQ aZ hx h.1;intro e;subst e;rw[aD7]at h;cases h.2
 case ptr p bf i j=>
  simp only[aCs,aDe]at h;obtain⟨_,ob,_,_,_,_,_,rfl⟩:=ed aZ hx h.1;intro e;subst e;rw[aD7]at h;cases h.2
 case agg imp cs=>
  simp only[aDe]at h;subst h;simp only[XV,ke]at hx;obtain⟨vs,rfl,_⟩:=hx;trivial
 case sl τ l=>
  simp only[XV]at hx;rcases hx with⟨_,rfl⟩ | ⟨rows,rfl,_⟩<;>trivial
 case rd τ l=>simp only[XV]at hx;obtain⟨rows,rfl,_⟩:=hx;trivial
 case cp row j=>simp only[XV]at hx;obtain⟨rows,rfl,_⟩:=hx;trivial
 all_goals
  simp only[XV]at hx;subst hx;trivial
theorem AQ{H:jR}(aZ:∀o bD,H.x o=some bD→bD.bf<H.c∧∃ob,H.v o=some ob∧fV H bD ob){q:Nat}:∀{xs:List X} {vs:List V},xs.all (X.nnX H.x q)=true→bj H xs vs→DH q vs
 | [],vs,_,h=>by simp only[bj]at h;subst h;trivial
 | x::xs,vs,ha,h=>by
  simp only[bj]at h;obtain⟨v,r,rfl,h1,h2⟩:=h;simp only[aEy,aCs]at ha;exact⟨anY aZ ha.1 h1,AQ aZ ha.2 h2⟩
theorem Qe{xs:bF}{s:St}(R:RS xs s){l:List Oper}{o:Oper}:∀{js:List Nat},agJ l o xs js=true→ahj l o s js
 | [],_=>trivial
 | j::r,h=>by
  simp only[agJ,aCs]at h;refine⟨?_,Qe R h.2⟩;have h1:=h.1;have e:amv l j=Dd l j:=by unfold amv Dd;rw[zh];cases l[j]?<;>rfl
  rw[e]at h1
  split at h1
  ·rename_i x hx
   rw[hx];simp only[amW];have hv:=R.ev x;have hm:=bj.Nv (fun x=>R.ev x) o.op.operands.toList;unfold akj at h1;generalize xs.ev x=y at h1 hv;cases y<;>simp only at h1<;>try (cases h1;done)
   case ref q bf=>
    simp only[aCs]at h1;obtain⟨_,ob,_,_,_,_,e2⟩:=cQ (H:=⟨xs.c,xs.h,s.h⟩) R.h hv h1.1;rw[e2];exact AQ (H:=⟨xs.c,xs.h,s.h⟩) R.h h1.2 hm
   case ptr q bf i j=>
    simp only[aCs]at h1;obtain⟨_,ob,_,_,_,_,_,e2⟩:=ed (H:=⟨xs.c,xs.h,s.h⟩) R.h hv h1.1;rw[e2];exact AQ (H:=⟨xs.c,xs.h,s.h⟩) R.h h1.2 hm
   case agg imp cs=>
    simp only[XV]at hv;obtain⟨vs,e2,_⟩:=hv;rw[e2];cases imp<;>trivial
   case sl τ l=>
    simp only[XV]at hv;rcases hv with⟨_,e2⟩ | ⟨rows,e2,_⟩<;>(rw[e2];trivial)
   case rd τ l=>simp only[XV]at hv;obtain⟨rows,e2,_⟩:=hv;rw[e2];trivial
   case cp row j=>simp only[XV]at hv;obtain⟨rows,e2,_⟩:=hv;rw[e2];trivial
   all_goals
    simp only[XV]at hv;rw[hv];trivial
  ·rename_i hx
   rw[hx];trivial
def FH(P:Program)(c:Code)(Q:Exit→Act→World→Prop)(a:Act)(w:World):Prop:=
 ∀(b:Frame) (k:List Go.Item) (cs:List Frame),∃e a' w',Q e a' w'∧Arrives P (lone (b.at a (.code c::.inLoop c::k)) cs w) b k cs e a' w'
theorem EO{P:Program}{c:Code}{Q:Exit→Act→World→Prop}{a:Act}{w:World}(h:FH P c Q a w):(Code.loop c).wp P Q a w:=by
 intro b k cs;obtain⟨e,a',w',hq,KJ⟩:=h b k cs;exact⟨e,a',w',hq,.of_steps (.one step_loop) KJ⟩
theorem KD{P:Program}{c:Code}{Q:Exit→Act→World→Prop}{a:Act}{w:World}(h:c.wp P (Exit.then (FH P c Q) Q) a w):FH P c Q a w:=by
 intro b k cs;obtain⟨e,a₁,w₁,hq,KJ⟩:=h b (.inLoop c::k) cs;cases e with
 | normal=>
  obtain⟨e₂,a₂,w₂,hq₂,atq⟩:=hq b k cs;exact⟨e₂,a₂,w₂,hq₂,.of_steps (Steps.trans KJ (.one step_inLoop)) atq⟩
 | exit id=>exact⟨_,a₁,w₁,hq,.pass (x:=.inLoop c) rfl (fun _ _=>.inl (by simp)) KJ⟩
 | goto l=>exact⟨_,a₁,w₁,hq,.pass (x:=.inLoop c) rfl (fun _ _=>.inl (by simp)) KJ⟩
 | ret=>exact⟨_,a₁,w₁,hq,.pass (x:=.inLoop c) rfl (fun _ _=>.inl (by simp)) KJ⟩
 | panic ch=>exact⟨_,a₁,w₁,hq,.pass (x:=.inLoop c) rfl (fun _ _=>.inl (by simp)) KJ⟩
 | outgrown=>exact⟨_,a₁,w₁,hq,.pass (x:=.inLoop c) rfl (fun _ _=>.inl (by simp)) KJ⟩
section
variable (P:Program) (Rt:Act→World→Prop)
def KW:List XI→Exit→Act→World→Prop
 | [],.normal,a,w=>Rt a w
 | _,.ret,a,w=>Rt a w
 | .code c::k,.normal,a,w=>c.wp P (KW k) a w
 | .ops ops l::k,.normal,a,w=>wpList P ops (KW k) l a w
 | .inBlock _::k,.normal,a,w=>KW k .normal a w
 | .head c::k,.normal,a,w=>FH P c (KW k) a w
 | .inBlock id::k,.exit Q7,a,w=>if Q7=id then KW k .normal a w else KW k (.exit Q7) a w
 | .code _::k,.exit id,a,w=>KW k (.exit id) a w
 | .ops _ _::k,.exit id,a,w=>KW k (.exit id) a w
 | .wW _ _::k,.exit id,a,w=>KW k (.exit id) a w
 | .head _::k,.exit id,a,w=>KW k (.exit id) a w
 | _,_,_,_=>False
end
section
variable {P:Program} {Rt:Act→World→Prop}
theorem xA(k:List XI)(a:Act)(w:World):KW P Rt k .ret a w=Rt a w:=by
 cases k with
 | nil=>rfl
 | cons i k=>cases i<;>rfl
theorem xB(id:Nat)(a:Act)(w:World):∀(k k':List XI),yU id k=some k'→KW P Rt k' .normal a w→KW P Rt k (.exit id) a w
 | .inBlock Q7::k,k',h,hs=>by
  simp only[yU]at h;simp only[KW];by_cases bT:id=Q7
  ·subst bT
   rw[aD7]at h;simp only[aCn]at h;cases h;rw[aCr rfl];exact hs
  ·rw[aCo bT]
   have:Nat.beq id Q7=false:=by
    cases hb:Nat.beq id Q7 with
    | false=>rfl
    | true=>exact absurd (aCI hb) bT
   rw[this]at h;exact xB id a w k k' h hs
 | .head _::k,k',h,hs=>by simp only[KW];exact xB id a w k k' h hs
 | .code _::k,k',h,hs=>by simp only[KW];exact xB id a w k k' h hs
 | .ops _ _::k,k',h,hs=>by simp only[KW];exact xB id a w k k' h hs
 | .wW _ _::k,k',h,hs=>by simp only[KW];exact xB id a w k k' h hs
theorem im{k:List XI}{e:Exit}{a:Act}{w:World}(h:KW P Rt k e a w):e=.normal∨e=.ret∨∃id,e=.exit id:=by
 cases e with
 | normal=>exact .inl rfl
 | ret=>exact .inr (.inl rfl)
 | exit id=>exact .inr (.inr ⟨id,rfl⟩)
 | _=>cases k with
  | nil=>exact absurd h (by simp[KW])
  | cons i k=>cases i<;>simp[KW]at h
end
def jt(pm:PM):List XI→Prop
 | []=>True
 | .code c::k=>fA pm c=true∧jt pm k
 | .head c::k=>fA pm c=true∧jt pm k
 | _::k=>jt pm k
theorem jt.pop{pm:PM}{id:Nat}:∀{k k':List XI},yU id k=some k'→jt pm k→jt pm k'
 | .inBlock Q7::k,k',h,hs=>by
  simp only[yU]at h;cases hb:Nat.beq id Q7 with
  | true=>rw[hb]at h;cases h;exact hs
  | false=>rw[hb]at h;exact jt.pop (k:=k) h hs
 | .head _::k,k',h,hs=>jt.pop (k:=k) h hs.2
 | .code _::k,k',h,hs=>jt.pop (k:=k) h hs.2
 | .ops _ _::k,k',h,hs=>jt.pop (k:=k) h hs
 | .wW _ _::k,k',h,hs=>jt.pop (k:=k) h hs
section
variable {β:Type} {C:cR} {r:β} {w0:World} {I:sy} {A0:Nat→Prop} {Rt:Act→World→Prop}
def SX(C:cR)(w0:World)(I:sy)(A0:Nat→Prop)(Rt:Act→World→Prop):List XI→St→Prop
 | .wW ops perm::k,s=>JT C.P C.n ops (fun s'=>∀a w,RR w0 I A0 C.n s' a w→KW C.P Rt k .normal a w) perm s
 | k,s=>∀a w,RR w0 I A0 C.n s a w→KW C.P Rt k .normal a w
def CF:List XI→Prop
 | []=>True
 | .wW _ _::_=>False
 | _::k=>CF k
def Z1:List XI→Prop
 | []=>True
 | _::k=>CF k
theorem CF.pop{id:Nat}:∀{k k':List XI},yU id k=some k'→CF k→CF k'
 | .inBlock Q7::k,k',h,hs=>by
  simp only[yU]at h;cases hb:Nat.beq id Q7 with
  | true=>rw[hb]at h;cases h;exact hs
  | false=>rw[hb]at h;exact CF.pop (k:=k) h hs
 | .head _::k,k',h,hs=>CF.pop (k:=k) h hs
 | .code _::k,k',h,hs=>CF.pop (k:=k) h hs
 | .ops _ _::k,k',h,hs=>CF.pop (k:=k) h hs
 | .wW _ _::k,k',h,hs=>hs.elim
theorem xv{k:List XI}(h:CF k){s:St}:SX C w0 I A0 Rt k s↔∀a w,RR w0 I A0 C.n s a w→KW C.P Rt k .normal a w:=by
 cases k with
 | nil=>exact Iff.rfl
 | cons i k=>cases i<;>first | exact Iff.rfl | exact h.elim
theorem ake{k:List XI}{id:Nat}:∀e a w,KW C.P Rt (.inBlock id::k) e a w→Exit.inBlock id (KW C.P Rt k) e a w:=by
 intro e a w hq;rcases im hq with rfl | rfl | ⟨Q7,rfl⟩
 ·exact hq
 ·simp only[Exit.inBlock];rw[xA]at hq ⊢;exact hq
 ·simp only[KW]at hq
  simp only[Exit.inBlock];by_cases bT:Q7=id
  ·rw[aCr bT]at hq ⊢;exact hq
  ·rw[aCo bT]at hq ⊢;exact hq
theorem FO{xs:bF}{s:St}(R:RS xs s)(n:Nat)(fz:List (Nat×List Ty))(hI:(∀b,¬ I.P b)∨fz=[])(d:Option Nat):
  ∃s'',RS (C7 n fz d xs) s''∧∀a w,RR w0 I A0 n s a w→RR w0 I A0 n s'' a w:=by
 cases d with
 | none=>exact⟨s,R,fun _ _ h=>h⟩
 | some d=>
  rcases hI with hI | rfl
  rotate_left
  ·exact⟨s,R,fun _ _ h=>h⟩
  unfold C7;simp only
  split
  ·exact⟨s,R,fun _ _ h=>h⟩
  ·rename_i k σ hσ
   split
   ·rename_i q bf ht
    cases hk:Nat.blt k n
    ·exact⟨s,R,fun _ _ h=>h⟩
    ·simp only[aCn]
     split
     ·rename_i l hl
      have hkn:k<n:=by simpa [Nat.blt_eq]using hk
      have hx:=R.t k;rw[ht]at hx;have hc:∃ob,s.h q=some ob∧s.t k=.ref q ob.rows.length:=by
       have fw:dv xs.h q bf=true:=by
        unfold rdD at hl;simp only at hl;unfold dv
        split at hl
        ·rename_i v' ty es τ l' ho
         rw[ho]
         split at hl<;>try (cases hl;done)
         cases hb:Nat.beq v' bf with
         | false=>rw[hb]at hl;cases hl
         | true=>exact hb
        ·rename_i v' ty es imp rows ho
         rw[ho];cases hb:(Nat.beq v' bf&&!imp)with
         | false=>rw[hb]at hl;cases hl
         | true=>exact(aC7.1 hb).1
        ·cases hl
       obtain⟨bD,ob,h1,h2,h3,h4,h5⟩:=cQ (H:=⟨xs.c,xs.h,s.h⟩) R.h hx fw;exact⟨ob,h3,h5⟩
      obtain⟨bG,ho0,hs0⟩:=hc;obtain⟨rows,h1,h2⟩:=ZD (H:=⟨xs.c,xs.h,s.h⟩) R.h hl hx;rw[hs0]at h2;obtain⟨ob,ho,_,himp,rfl⟩:=h2;have ho:s.h q=some ob:=ho;rw[ho0]at ho;obtain rfl:=aDb ho;have hKe:(fun p=>Nat.beq p q)=(fun p=>p == q):=by
       funext p
       by_cases h:p=q
       ·subst h;simp[aD7]
       ·have:Nat.beq p q=false:=by
         cases hb:Nat.beq p q with
         | false=>rfl
         | true=>exact absurd (aCI hb) h
        rw[this];simp[h]
      have fw:∀v,XV ⟨xs.c,xs.h,s.h⟩ (.ref q bf) v→v=.ref q bG.rows.length:=fun v hv=>by
       have NL:dv xs.h q bf=true:=by
        unfold rdD at hl;simp only at hl;unfold dv
        split at hl
        ·rename_i v' ty es τ l' dW
         rw[dW]
         split at hl<;>try (cases hl;done)
         cases hb:Nat.beq v' bf with
         | false=>rw[hb]at hl;cases hl
         | true=>exact hb
        ·rename_i v' ty es imp rows dW
         rw[dW];cases hb:(Nat.beq v' bf&&!imp)with
         | false=>rw[hb]at hl;cases hl
         | true=>exact(aC7.1 hb).1
        ·cases hl
       obtain⟨bD,ob,g1,g2,g3,g4,g5⟩:=cQ (H:=⟨xs.c,xs.h,s.h⟩) R.h hv NL;have g3:s.h q=some ob:=g3;rw[ho0]at g3;cases aDb g3;exact g5
      have Xe:XV ⟨xs.c,(xs.kill fun p=>Nat.beq p q).h,(s.kill fun p=>Nat.beq p q).h⟩ (.sl σ l) (.sl bG.rows):=by
       simp only[XV];exact .inr ⟨bG.rows,rfl,h1⟩
      have RK:=R.aan (fun p=>Nat.beq p q);have one:∀i,∃y,XV ⟨xs.c,(xs.kill fun p=>Nat.beq p q).h,(s.kill fun p=>Nat.beq p q).h⟩ (ao8 q bf σ l (xs.t i)) y∧(y=(s.t i).kill (fun p=>Nat.beq p q)∨(s.t i=.ref q bG.rows.length∧y=.sl bG.rows)):=fun i=>by
       have hi:=R.t i;have hk:=RK.t i;unfold ao8
       split
       ·rename_i p v hpv
        cases hb:(Nat.beq p q&&Nat.beq v bf)
        ·exact⟨_,by rw[← hpv];exact hk,.inl rfl⟩
        ·obtain⟨NN,Bk⟩:=aC7.1 hb
         have NN:=aCI NN;have Bk:=aCI Bk;subst NN Bk;rw[hpv]at hi;exact⟨_,Xe,.inr ⟨fw _ hi,rfl⟩⟩
       ·exact⟨_,hk,.inl rfl⟩
      refine⟨⟨fun i=>(one i).choose,(s.kill fun p=>Nat.beq p q).h⟩,⟨fun i=>(one i).choose_spec.1,RK.h⟩,?_⟩;rintro a w ⟨β,A,RB⟩;have:=RB.atE (fun b hb=>(RB.own q bG b ho0 hb).resolve_right (hI b)) ho0 himp (fun i=>(one i).choose) (fun i=>by
       exact((one i).choose_spec.2).imp (fun h=>h.trans (aCL (fun K=>(s.t i).kill K) hKe)) (fun h=>h))
      have e:kk s.h q=(s.kill fun p=>Nat.beq p q).h:=by
       rw[hKe,← KZ]
      rw[e]at this;exact⟨_,_,this⟩
     ·exact⟨s,R,fun _ _ h=>h⟩
   ·exact⟨s,R,fun _ _ h=>h⟩
theorem du{β:Type}{C:cR}{r:β}{w0:World}{I:sy}{A0:Nat→Prop}{Rt:Act→World→Prop}(hI:(∀b,¬ I.P b)∨C.fz=[])(oh:C.inl=[]∨((∀b,¬ I.P b)∧∀o,¬ I.q o))(hm:C.P.follows .mixedOrders=true)(bQ:∀e∈C.es,e.Ok C.P)(sW:∀e∈C.el,e.Ok C.P)(iz:∀d∈C.inl,d.Ok C.P){Kr:bF→Option β}{Kg:List XI→bF→Option β}
  (C6:∀xs s,RS xs s→Kr xs=some r→∀a w,RR w0 I A0 C.n s a w→Rt a w)
  (Mr:∀k xs s,RS xs s→jt C.pm k→CF k→Kg k xs=some r→∀a w,RR w0 I A0 C.n s a w→KW C.P Rt k .normal a w) :
  ∀(f:Nat) (k:List XI) (xs:bF) (s:St),RS xs s→jt C.pm k→Z1 k→exec C Kr Kg f k xs=some r→SX C w0 I A0 Rt k s
 | 0,k,xs,s,_,_,_,h=>by cases h
 | f+1,[],xs,s,R,_,_,h=>fun a w hR=>C6 xs s R h a w hR
 | f+1,.inBlock id::k,xs,s,R,aX,sV,h=>by
  have h1:=du hI oh hm bQ sW iz C6 Mr f k xs s R aX (by cases k<;>first | trivial | (rename_i i k;cases i<;>first | exact sV | exact sV.elim)) h;exact fun a w hR=>(xv sV).1 h1 a w hR
 | f+1,.head body::k,xs,s,R,aX,sV,h=>fun a w hR=>Mr _ xs s R aX (by exact sV) h a w hR
 | f+1,.ops ops l::k,xs,s,R,aX,sV,h=>by
  have tl:Z1 k:=by cases k<;>first | trivial | (rename_i i k;cases i<;>first | exact sV | exact sV.elim)
  intro a w hR;cases l with
  | nil=>
   have h1:=du hI oh hm bQ sW iz C6 Mr f k xs s R aX tl h;exact(xv sV).1 h1 a w hR
  | cons o rest=>
   show wpList C.P ops (KW C.P Rt k) (o::rest) a w;unfold wpList;have hx:(bif aoc C o xs then Xs C o (fun s=>exec C Kr Kg f (.ops ops rest::k) (C7 C.n C.fz o.dst s)) xs else bif isL C.el o then IW C.P C.el C.n o (fun s=>exec C Kr Kg f (.ops ops rest::k) (C7 C.n C.fz o.dst s)) xs else IV C.P C.es C.n ops.toList o (fun s=>exec C Kr Kg f (.ops ops rest::k) (C7 C.n C.fz o.dst s)) xs)=some r:=h;cases hvw:aoc C o xs with
   | true=>
    rw[hvw]at hx;simp only[aCn]at hx;unfold Xs at hx
    split at hx<;>try (cases hx;done)
    rename_i hg;obtain⟨hdk,hx⟩:=bg hx;have hrel:=za (P:=C.P) (H:=⟨xs.c,xs.h,s.h⟩) R.h o xs.ev s.ev (fun x=>R.ev x) xs.c;generalize Xa C.P o xs.ev xs.h xs.c=ar at hx hrel;cases ar<;>try (cases hx;done)
    rename_i g args;obtain⟨cM,e1,e2⟩:=hrel;obtain⟨dp,Pd,hc,dd,hφ⟩:=D8 R e2 (Ψ:=fun s'=>∀a w,RR w0 I A0 C.n s' a w→wpList C.P ops (KW C.P Rt k) rest a w) (fun gR s' R' h'=>by
      obtain⟨s'',R'',aaK⟩:=FO (w0:=w0) (A0:=A0) R' C.n C.fz hI o.dst;exact fun a w hR=>du hI oh hm bQ sW iz C6 Mr f (.ops ops rest::k) _ s'' R'' aX sV h' a w (aaK a w hR)) C.es bQ hx
    obtain⟨β0,A,RB0⟩:=hR;obtain⟨g1,_,_⟩:=kG (ops:=ops) (o:=o) RB0;rw[aCr (g1 (by unfold FM;rw[hg]))];refine .inl ?_;unfold Oper.wp;obtain⟨vs,q1,q2,q3⟩:=tF RB0.ai o e1;rw[q1];have q4:=Vr RB0.cq dd (fun i x hx=>q3 i x hx);refine(hc.2 w A vs RB0.cq.lt (by rw[q2,dd.len]) q4).mono ?_;rintro e w' ⟨rds,us,β',A',xQ,rfl,hp⟩;exact hφ rds xQ _ _ (RB0.call (hc.1 rds xQ) hp o.dst (vj (vi hdk)))
   | false=>
   rw[hvw]at hx
   replace hx:(bif isL C.el o then IW C.P C.el C.n o (fun s=>exec C Kr Kg f (.ops ops rest::k) (C7 C.n C.fz o.dst s)) xs else IV C.P C.es C.n ops.toList o (fun s=>exec C Kr Kg f (.ops ops rest::k) (C7 C.n C.fz o.dst s)) xs)=some r:=hx
   cases hb:isL C.el o with
   | true=>
    rw[hb]at hx;have h1:=Xt sW (Ψ:=fun s'=>∀a w,RR w0 I A0 C.n s' a w→wpList C.P ops (KW C.P Rt k) rest a w)
     (fun gR s' R' h'=>by
      obtain⟨s'',R'',aaK⟩:=FO (w0:=w0) (A0:=A0) R' C.n C.fz hI o.dst;exact fun a w hR=>du hI oh hm bQ sW iz C6 Mr f (.ops ops rest::k) _ s'' R'' aX sV h' a w (aaK a w hR)) R hx
    exact LC (K':=wpList C.P ops (KW C.P Rt k) rest) (fun s' a' w' FD UP=>FD a' w' UP) hR h1
   | false=>
    rw[hb]at hx;have h1:=Xq bQ (Ψ:=fun s'=>∀a w,RR w0 I A0 C.n s' a w→wpList C.P ops (KW C.P Rt k) rest a w)
     (fun gR s' R' h'=>by
      obtain⟨s'',R'',aaK⟩:=FO (w0:=w0) (A0:=A0) R' C.n C.fz hI o.dst;exact fun a w hR=>du hI oh hm bQ sW iz C6 Mr f (.ops ops rest::k) _ s'' R'' aX sV h' a w (aaK a w hR)) R hx
    exact qu (K':=wpList C.P ops (KW C.P Rt k) rest) (fun s' a' w' FD UP=>FD a' w' UP) hR h1
 | f+1,.wW ops l::k,xs,s,R,aX,sV,h=>by
  have tl:Z1 k:=by cases k<;>first | trivial | (rename_i i k;cases i<;>first | exact sV | exact sV.elim)
  cases l with
  | nil=>
   have h1:=du hI oh hm bQ sW iz C6 Mr f k xs s R aX tl h;exact fun a w hR=>(xv sV).1 h1 a w hR
  | cons p rr=>
   obtain⟨i,js⟩:=p;simp only[exec,zh,aDy]at h;show JT C.P C.n ops _ ((i,js)::rr) s;simp only[JT]
   split at h<;>try (cases h;done)
   rename_i o ho;obtain⟨avW,h⟩:=bg h;rw[ho];exact⟨Qe R avW,Tj bQ (fun gR s' R' h'=>du hI oh hm bQ sW iz C6 Mr f (.wW ops rr::k) gR s' R' aX sV h') R h⟩
 | f+1,.code c::k,xs,s,R,aX,sV,h=>by
  obtain⟨hc,aX⟩:=aX;have sI:CF k:=sV;have tl:Z1 k:=by cases k<;>first | trivial | (rename_i i k;cases i<;>first | exact sV | exact sV.elim)
  have nx:∀(k':List XI) (gR:bF),RS gR s→jt C.pm k'→CF k'→exec C Kr Kg f k' gR=some r→∀a w,RR w0 I A0 C.n s a w→KW C.P Rt k' .normal a w:=fun k' gR R' ho hn he=>
   (xv hn).1 (du hI oh hm bQ sW iz C6 Mr f k' gR s R' ho (by cases k'<;>first | trivial | (rename_i i k';cases i<;>first | exact hn | exact hn.elim)) he)
  intro a w hR;cases c with
  | skip=>exact wp_skip (nx k xs R aX sI h a w hR)
  | label l=>exact wp_label (nx k xs R aX sI h a w hR)
  | seq x y=>
   simp only[fA,aCs]at hc;refine wp_seq (wp_mono (nx (.code x::.code y::k) xs R ⟨hc.1,hc.2,aX⟩ sI h a w hR) ?_);intro e a' w' hq;rcases im hq with rfl | rfl | ⟨id,rfl⟩
   ·exact hq
   ·simp only[Exit.then];rw[xA]at hq ⊢;exact hq
   ·exact hq
  | cond c x y=>
   simp only[fA,aCs]at hc;simp only[exec]at h
   split at h<;>try (cases h;done)
   rename_i b hb;have hv:=R.ev c;rw[hb]at hv;simp only[XV]at hv;obtain⟨β',A,R'⟩:=hR;have UE:=kK R'.ai c;rw[hv]at UE;refine wp_cond_split (uy UE) (fun e=>?_) (fun e=>?_)
   ·rw[e]at h;exact nx (.code x::k) xs R ⟨hc.1,aX⟩ sI h a w ⟨β',A,R'⟩
   ·rw[e]at h;exact nx (.code y::k) xs R ⟨hc.2,aX⟩ sI h a w ⟨β',A,R'⟩
  | block id x=>exact wp_block (wp_mono (nx (.code x::.inBlock id::k) xs R ⟨hc,aX⟩ sI h a w hR) ake)
  | scope x=>
   refine wp_scope_straight (wp_mono (nx (.code x::k) xs R ⟨hc,aX⟩ sI h a w hR) ?_);intro e a' w' hq;rcases im hq with rfl | rfl | ⟨id,rfl⟩<;>exact hq
  | exit id=>
   simp only[exec]at h
   split at h<;>try (cases h;done)
   rename_i k' oY;exact wp_exit (xB id a w k k' oY (nx k' xs R (jt.pop oY aX) (CF.pop oY sI) h a w hR))
  | ret=>exact wp_ret (by rw[xA];exact C6 xs s R h a w hR)
  | region id ops draw=>
   cases draw with
   | false=>exact wp_region_list (nx (.ops ops ops.toList::k) xs R aX sI h a w hR)
   | true=>
    obtain⟨hc1,NL⟩:=aC7.1 hc;have h1:=du hI oh hm bQ sW iz C6 Mr f (.wW (iC (C.pm id).1.length ops) (C.pm id).1::.ops ops (ops.toList.drop (C.pm id).1.length)::k) _ _ (R.aan (AL.KI (C.pm id).2)) aX sI h;exact CV hm hc1 NL (fun s' a' w' hs UP=>hs a' w' UP) hR h1
  | loop body=>exact EO (Mr (.head body::k) xs s R ⟨hc,aX⟩ sI h a w hR)
  | rangeFunc=>cases h
  | goto=>cases h
  | refuse=>cases h
end
end Go.AL
