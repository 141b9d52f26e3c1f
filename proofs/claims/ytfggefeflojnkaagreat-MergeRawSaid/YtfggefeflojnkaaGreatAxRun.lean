/- By an AI agent. -/
import Derived.Test.YtfggefeflojnkaaGreatAxCut
set_option linter.unusedSimpArgs false
namespace Go.AL
def Fg(h:Nat→Option dy)(k:RK)(x:X):Option (k.T×List Nat×List Nat):=match k with
 | .v t=>match TL h t x with
  | some (v,f)=>some (v,f,[])
  | none=>none
 | .g τ=>match x with
  | .agg true cs=>(match uk h τ cs with
   | some (v,f)=>some (v,f,[])
   | none=>none)
  | .agg false cs=>(match yS τ cs with
   | some v=>some (v,[],[])
   | none=>none)
  | _=>none
 | .o ty es τ=>match x with
  | .nil=>some ([],[],[])
  | .ref p bf=>(match h p with
   | some (.t v mG lL σ l)=>if hτ:ez σ τ=true then bif Nat.beq v bf&&Nat.beq mG ty&&Nat.beq lL es then some (iI l hτ,[],[p])else none else none
   | some (.u v mG lL imp rows)=>bif Nat.beq v bf&&Nat.beq mG ty&&Nat.beq lL es&&!imp then(match jm τ rows with
    | some l=>some (l,[],[p])
    | none=>none)else none
   | none=>none)
  | _=>none
 | .a ty es j τ=>match x with
  | .agg _ row=>(match aaf h ty es τ[j]? row[j]? with
   | some (ce,src)=>(match uk h τ (row.set j ce)with
    | some (v,f)=>some (v,f,src.toList)
    | none=>none)
   | none=>none)
  | _=>none
def QH{A B:Type}(a:Option (A×List Nat×List Nat))(b:Option (B×List Nat×List Nat)):Option ((A×B)×List Nat×List Nat):=match a with
 | some (a,f,s)=>match b with
  | some (b,g,t)=>some ((a,b),f++g,s++t)
  | none=>none
 | none=>none
def Ff{A:Type}(h:Nat→Option dy)(f:X→Option (A×List Nat×List Nat)):(ks:List RK)→List X→Option (aA.jE A ks×List Nat×List Nat)
 | []=>fun xs=>match xs with
  | [x]=>f x
  | _=>none
 | k::ks=>fun xs=>match xs with
  | x::r=>QH (f x) (Ff h (Fg h k) ks r)
  | []=>none
def QB(h:Nat→Option dy):(ks:List RK)→List X→Option (aA ks×List Nat×List Nat)
 | []=>fun xs=>match xs with
  | []=>some ((),[],[])
  | _=>none
 | k::ks=>fun xs=>Ff h (Fg h k) ks xs
def aQ(P:Program)(rs:List ResultVar)(rk:List RK)(s:bF):Option (aA rk):=match kd P s rs with
 | some xs=>match QB s.h rk xs with
  | some (r,f,own)=>bif oU own&&alj f own then some r else none
  | none=>none
 | none=>none
section
variable {xs:bF} {s:St}
theorem AG{F:Nat→Prop}{v v':V}(h:iE s F v v'):fM s.h v v'∧∀o∈eK v,F o:=by
 rcases h with⟨rfl,hp,Ib⟩ | ⟨p,n,ob,rfl,hF,h1,h2,h3,rfl⟩
 ·cases v'<;>first | exact⟨.inl ⟨rfl,hp⟩,fun o ho=>by simp[eK]at ho⟩ | (simp[V.pure]at hp;done) | exact absurd rfl (Ib _)
 ·refine⟨⟨ob,h1,h3,h2,rfl⟩,fun o ho=>?_⟩
  simp[eK]at ho;subst ho;exact hF
theorem gl{F:Nat→Prop}:∀{vs cI:List V},aP (iE s F) vs cI→lq s.h vs cI∧∀o∈vs.flatMap eK,F o
 | [],[],_=>⟨trivial,fun o ho=>by simp at ho⟩
 | v::vs,v'::cI,h=>by
  obtain⟨h1,h2⟩:=AG h.1;obtain⟨h3,h4⟩:=gl h.2;refine⟨⟨h1,h3⟩,fun o ho=>?_⟩;simp only[aEC,aC3]at ho;rcases ho with ho | ho
  ·exact h2 o ho
  ·exact h4 o ho
 | [],_::_,h=>h.elim
 | _::_,[],h=>h.elim
theorem anx(R:RS xs s)(ty es j:Nat)(τ:List Ty){x:X}{y:(RK.a ty es j τ).T}{f own:List Nat}{v:V}(h:Fg xs.h (.a ty es j τ) x=some (y,f,own))(hv:XV ⟨xs.c,xs.h,s.h⟩ x v):
  ∃rd,sQ (.a ty es j τ) y rd∧gV s.h v rd∧(∀o∈iA v rd,o∈f)∧(∀o,jY v rd=some o→own=[o]):=by
 simp only[Fg]at h
 split at h<;>try (cases h;done)
 rename_i imp row
 split at h<;>try (cases h;done)
 rename_i ce src hc
 split at h<;>try (cases h;done)
 rename_i v0 g hg;simp only[aCA,aCH]at h;obtain⟨rfl,rfl,rfl⟩:=h;simp only[XV]at hv;obtain⟨vs,hvm,e2⟩:=hv;obtain⟨b,bM,b1,b2,b3,b4,⟨σ,l,rfl,b5⟩,b6⟩:=QZ R hc e2;have hxc:XV ⟨xs.c,xs.h,s.h⟩ (.sl σ l) (.sl bM.rows):=by simp only[XV];exact .inr ⟨bM.rows,rfl,b5⟩
 obtain⟨cI,g1,g2⟩:=kX (F:=fun p=>p∈f) R τ hg (uf (j:=j) e2 hxc) (fun p hp=>hp);obtain⟨_,y,c2,c3⟩:=BM (R':=fun _ _=>True) (c:=.nil) (fun _ _ _=>trivial) b1 trivial g1;have hy:y=.sl bM.rows:=by
  rcases c3 with⟨c3,_⟩ | ⟨_,_,_,c3,_⟩
  ·exact c3
  ·cases c3
 subst hy;have hjl:j<vs.length:=(aCD.1 b1).1;have awv:j<cI.length:=(aCD.1 c2).1;have amK:vs=vs.take j++b::vs.drop (j+1):=by
  have h3:vs[j]=b:=(aCD.1 b1).2;rw[← h3];exact(aDx j vs).symm.trans (by rw[aDW hjl])
 have amJ:cI=cI.take j++.sl bM.rows::cI.drop (j+1):=by
  have h3:cI[j]=.sl bM.rows:=(aCD.1 c2).2;rw[← h3];exact(aDx j cI).symm.trans (by rw[aDW awv])
 have t1:=aP.take j g1;have t2:=aP.drop (j+1) g1;rw[aES (aCt _)]at t1;rw[List.drop_set_of_lt (aDG _)]at t2;obtain⟨p1,p2⟩:=gl t1;obtain⟨q1,q2⟩:=gl t2;have uW:(vs.take j).length=(cI.take j).length:=by simp;omega
 have hlj:(cI.take j).length=j:=by simp;omega
 have hA:ahy s.h vs ty es bM.rows (cI.take j) (cI.drop (j+1)):=by
  refine⟨vs.take j,b,vs.drop (j+1),amK,uW,p1,q1,?_⟩;rcases b6 with⟨p3,rfl,rfl,b7⟩ | ⟨rfl,rfl,b7⟩
  ·exact .inr ⟨p3,bM,rfl,b7,b2,b3,b4,rfl⟩
  ·exact .inl ⟨rfl,b7⟩
 have hrx:gV s.h v (.a ty es bM.rows (cI.take j) (cI.drop (j+1))):=by
  rw[hvm];cases imp<;>exact hA
 refine⟨.a ty es bM.rows (cI.take j) (cI.drop (j+1)),⟨_,_,_,rfl,hlj,by rw[← amJ];exact g2⟩,hrx,fun o ho=>?_,fun o ho=>?_⟩
 ·have hf:iA v (.a ty es bM.rows (cI.take j) (cI.drop (j+1)))=(vs.take j++vs.drop (j+1)).flatMap eK:=by
   rw[hvm];cases imp<;>(simp only[ke,iA];rw[hlj])
  rw[hf,List.flatMap_append]at ho;rcases aC3.1 ho with ho | ho
  ·exact p2 o ho
  ·exact q2 o ho
 ·have hf:jY v (.a ty es bM.rows (cI.take j) (cI.drop (j+1)))=J4 vs[j]?:=by
   rw[hvm];cases imp<;>(simp only[ke,jY];rw[hlj])
  rw[hf,b1]at ho;rcases b6 with⟨p3,rfl,rfl,b7⟩ | ⟨rfl,rfl,b7⟩
  ·simp only[J4,aCA]at ho
   rw[← ho];rfl
  ·simp[J4]at ho
theorem QC(R:RS xs s)(k:RK){x:X}{y:k.T}{f own:List Nat}{v:V}(h:Fg xs.h k x=some (y,f,own))(hv:XV ⟨xs.c,xs.h,s.h⟩ x v):
  ∃rd,sQ k y rd∧gV s.h v rd∧(∀o∈iA v rd,o∈f)∧(∀o,jY v rd=some o→own=[o]):=by
 cases k with
 | a ty es j τ=>exact anx R ty es j τ h hv
 | v t=>
  simp only[Fg]at h
  split at h<;>try (cases h;done)
  rename_i v0 g hg;simp only[aCA,aCH]at h;obtain⟨rfl,rfl,rfl⟩:=h;obtain⟨v',h1,h2⟩:=zd (F:=fun p=>p∈f) R t hg hv (fun p hp=>hp);obtain⟨h3,h4⟩:=AG h1;refine⟨.v v',⟨v',rfl,h2⟩,?_,?_,?_⟩
  ·have Ib:=(oI t _ v' h2).2
   cases v<;>try exact h3
   ·simp[fM,V.pure]at h3;exact absurd h3 (Ib _)
   ·simp[fM,V.pure]at h3
  ·intro o ho
   apply h4;cases v<;>simp only[iA,eK]at ho ⊢<;>first | exact ho | (simp at ho;done) | skip
   ·simp[fM,V.pure]at h3;exact absurd h3 ((oI t _ v' h2).2 _)
   ·simp[fM,V.pure]at h3
  ·intro o ho
   cases v<;>simp[jY]at ho
 | g τ=>
  simp only[Fg]at h
  split at h<;>try (cases h;done)
  ·rename_i cs
   split at h<;>try (cases h;done)
   rename_i v0 g hg;simp only[aCA,aCH]at h;obtain⟨rfl,rfl,rfl⟩:=h;simp only[XV]at hv;obtain⟨vs,rfl,e2⟩:=hv;obtain⟨cI,h1,h2⟩:=kX (F:=fun p=>p∈f) R τ hg e2 (fun p hp=>hp);obtain⟨h3,h4⟩:=gl h1;exact⟨.v (.agg cI),⟨cI,rfl,h2⟩,h3,fun o ho=>h4 o ho,fun o ho=>by simp[jY,ke]at ho⟩
  ·rename_i cs
   split at h<;>try (cases h;done)
   rename_i v0 hg;simp only[aCA,aCH]at h;obtain⟨rfl,rfl,rfl⟩:=h;simp only[XV]at hv;obtain⟨vs,rfl,e2⟩:=hv;have h2:=gO τ cs _ vs hg e2;refine⟨.v (.agg vs),⟨vs,rfl,h2⟩,.inl rfl,fun o ho=>?_,fun o ho=>by simp[jY,ke]at ho⟩;obtain⟨_,h4⟩:=gl (Ay (s:=s) (F:=fun _=>False) h2);exact(h4 o ho).elim
 | o ty es τ=>
  have sT:∀(p bf:Nat) (bD:dy) (l:List (az τ)),x=.ref p bf→xs.h p=some bD→bD.bf=bf→(∀ob,fV ⟨xs.c,xs.h,s.h⟩ bD ob→ob.ty=ty∧ob.es=es∧ob.imp=false∧bK τ l ob.rows)→
    ∃rd,sQ (.o ty es τ) l rd∧gV s.h v rd∧(∀o∈iA v rd,o∈([]:List Nat))∧(∀o,jY v rd=some o→[p]=[o]):=by
   intro p bf bD l hi hp uR cA;rw[hi]at hv;obtain⟨agK,ob,h1,h2,h3,h4,rfl⟩:=cQ (H:=⟨xs.c,xs.h,s.h⟩) R.h hv (by unfold dv;simp only;rw[hp];simp only;rw[uR];exact aD7 _);simp only at h1 h3;rw[hp]at h1;cases h1;obtain⟨a1,a2,a3,a4⟩:=cA ob h4;exact⟨.o ty es ob.rows,⟨ob.rows,rfl,a4⟩,⟨ob,h3,rfl,a1,a2,a3,rfl⟩,fun o ho=>by simp[iA]at ho,fun o ho=>by simp[jY]at ho;rw[ho]⟩
  simp only[Fg]at h
  split at h<;>try (cases h;done)
  ·simp only[aCA,aCH]at h
   obtain⟨rfl,rfl,rfl⟩:=h;simp only[XV]at hv;subst hv;exact⟨.o ty es [],⟨[],rfl,trivial⟩,rfl,fun o ho=>by simp[iA]at ho,fun o ho=>by simp[jY]at ho⟩
  ·rename_i p bf
   split at h<;>try (cases h;done)
   ·rename_i v' mG lL σ l hp
    split at h<;>try (cases h;done)
    rename_i hτ;obtain⟨hb,h⟩:=bg h;simp only[aCs]at hb;simp only[aCA,aCH]at h;obtain⟨rfl,rfl,rfl⟩:=h;refine sT p bf _ _ rfl hp (aCI hb.1.1) (fun ob cA=>?_);obtain⟨a1,a2,a3,a4⟩:=cA;exact⟨by rw[a1];exact aCI hb.1.2,by rw[a2];exact aCI hb.2,a3,(cC _ hτ _).2 a4⟩
   ·rename_i v' mG lL imp rows hp
    obtain⟨hb,h⟩:=bg h;simp only[aCs,aDe]at hb
    split at h<;>try (cases h;done)
    rename_i l hl;simp only[aCA,aCH]at h;obtain⟨rfl,rfl,rfl⟩:=h;refine sT p bf _ _ rfl hp (aCI hb.1.1.1) (fun ob cA=>?_);obtain⟨a1,a2,a3,a4⟩:=cA;exact⟨by rw[a1];exact aCI hb.1.1.2,by rw[a2];exact aCI hb.1.2,by rw[a3];exact hb.2,dq hl a4⟩
theorem Nd{A B:Type}{a:Option (A×List Nat×List Nat)}{b:Option (B×List Nat×List Nat)}{p:A×B}{f own:List Nat}(h:QH a b=some (p,f,own)):
  ∃f1 f2 s1 s2,a=some (p.1,f1,s1)∧b=some (p.2,f2,s2)∧f=f1++f2∧own=s1++s2:=by
 unfold QH at h
 split at h<;>try (cases h;done)
 split at h<;>try (cases h;done)
 simp only[aCA,aCH]at h;obtain⟨rfl,rfl,rfl⟩:=h;exact⟨_,_,_,_,rfl,rfl,rfl,rfl⟩
theorem Dv(R:RS xs s){A:Type}{g:X→Option (A×List Nat×List Nat)}{Q:A→RD→Prop}
  (hg:∀x y f own v,g x=some (y,f,own)→XV ⟨xs.c,xs.h,s.h⟩ x v→∃rd,Q y rd∧gV s.h v rd∧(∀o∈iA v rd,o∈f)∧(∀o,jY v rd=some o→own=[o])) :
  ∀(ks:List RK) (l:List X) (y:aA.jE A ks) (f own:List Nat) (vs:List V),Ff xs.h g ks l=some (y,f,own)→bj ⟨xs.c,xs.h,s.h⟩ l vs→
   ∃rds,dg Q ks y rds∧yT s.h vs rds∧(∀o∈tv vs rds,o∈f)∧((gn vs rds).filterMap id).Sublist own
 | [],l,y,f,own,vs,h,hv=>by
  match l,h,hv with
  | [x],h,hv=>
   have h:g x=some (y,f,own):=h;simp only[bj]at hv;obtain⟨v,r,rfl,h1,rfl⟩:=hv;obtain⟨rd,h2,h3,h4,h5⟩:=hg x y f own v h h1;refine⟨[rd],by simp only[dg];exact⟨rd,rfl,h2⟩,⟨h3,trivial⟩,fun o ho=>h4 o (by simpa [tv]using ho),?_⟩;simp only[gn];cases ho:jY v rd with
   | none=>simp[gn]
   | some p=>rw[h5 p ho];simp[gn]
 | k::ks,l,y,f,own,vs,h,hv=>by
  match l,h,hv with
  | x::r,h,hv=>
   have h:QH (g x) (Ff xs.h (Fg xs.h k) ks r)=some (y,f,own):=h;obtain⟨f1,f2,s1,s2,h1,h2,rfl,rfl⟩:=Nd h;simp only[bj]at hv;obtain⟨v,r',rfl,h3,h4⟩:=hv;obtain⟨rd,k2,k3,k4,k5⟩:=hg x _ f1 s1 v h1 h3;obtain⟨rds,m2,m3,m4,m5⟩:=Dv R (fun x y f own v=>QC R k) ks r _ f2 s2 r' h2 h4;refine⟨rd::rds,by simp only[dg];exact⟨rd,rds,rfl,k2,m2⟩,⟨k3,m3⟩,fun o ho=>?_,?_⟩
   ·simp only[tv,aC3]at ho
    rcases ho with ho | ho
    ·exact aDv _ (k4 o ho)
    ·exact aDw _ (m4 o ho)
   ·simp only[gn]
    cases ho:jY v rd with
    | none=>simpa using m5.trans (List.sublist_append_right s1 s2)
    | some p=>
     rw[k5 p ho];simpa using m5
theorem J0(R:RS xs s)(ks:List RK)(l:List X)(y:aA ks)(f own:List Nat)(vs:List V)(h:QB xs.h ks l=some (y,f,own))(hv:bj ⟨xs.c,xs.h,s.h⟩ l vs):
   ∃rds,cw ks y rds∧yT s.h vs rds∧(∀o∈tv vs rds,o∈f)∧((gn vs rds).filterMap id).Sublist own:=by
 cases ks with
 | nil=>
  match l,h,hv with
  | [],h,hv=>simp only[bj]at hv;subst hv;exact⟨[],by simp only[cw],trivial,fun o ho=>by simp[tv]at ho,by simp[gn]⟩
 | cons k ks=>
  simp only[cw];exact Dv R (fun x y f own v=>QC R k) ks l y f own vs h hv
theorem zo{P:Program}:∀(rs:List ResultVar) {α:Type} (K:α→List V→Prop),Bq P s rs (fun xs=>∃a,K a xs)→∃a,Bq P s rs (K a)
 | [],α,K,h=>h
 | .tmp t::r,α,K,h=>zo r (fun a xs=>K a (s.ev (.tmp t)::xs)) h
 | .cell p ty::r,α,K,h=>by
  obtain⟨h0,h⟩:=h
  split at h<;>try (exact h.elim)
  rename_i q v hq;obtain⟨h1,h2⟩:=h;obtain⟨a,ha⟩:=zo r (fun a xs=>K a (v::xs)) h2;refine⟨a,h0,?_⟩;rw[hq];exact⟨h1,ha⟩
theorem u5{P:Program}{A:Prop}:∀(rs:List ResultVar) (K:List V→Prop),Bq P s rs (fun xs=>A∧K xs)→A∧Bq P s rs K
 | [],K,h=>h
 | .tmp t::r,K,h=>u5 r (fun xs=>K (s.ev (.tmp t)::xs)) h
 | .cell p ty::r,K,h=>by
  obtain⟨h0,h⟩:=h
  split at h<;>try (exact h.elim)
  rename_i q v hq;obtain⟨h1,h2⟩:=h;obtain⟨a,b⟩:=u5 r (fun xs=>K (v::xs)) h2;refine⟨a,h0,?_⟩;rw[hq];exact⟨h1,b⟩
theorem akd{P:Program}(R:RS xs s){rs:List ResultVar}{rk:List RK}{r:aA rk}(h:aQ P rs rk xs=some r):∃rds,cw rk r rds∧acr P rs rds s:=by
 unfold aQ at h
 split at h<;>try (cases h;done)
 rename_i l hl
 split at h<;>try (cases h;done)
 rename_i r' f own hg;obtain⟨hb,h⟩:=bg h;have:=aDb h;subst this;simp only[aCs]at hb;have h1:=mL R rs l hl (fun vs=>∃rds,cw rk r' rds∧(yT s.h vs rds∧((gn vs rds).filterMap id).Nodup∧∀o∈tv vs rds,o∉(gn vs rds).filterMap id)) (fun vs xg=>by
  obtain⟨rds,k1,k2,k3,k4⟩:=J0 R rk l r' f own vs hg xg;refine⟨rds,k1,k2,(lE hb.1).sublist k4,fun o ho hm=>?_⟩;have h2:=aCG.1 hb.2 o (k3 o ho);simp only[aDe]at h2;rw[oV.2 (k4.subset hm)]at h2;cases h2)
 obtain⟨rds,h2⟩:=zo rs _ h1;obtain⟨h3,h4⟩:=u5 rs _ h2;exact⟨rds,h3,h4⟩
end
def Lo:(k:AK)→k.T→X
 | .c t,x=>lP t x
 | .g τ,x=>.agg false (iw τ x)
 | .rd τ,l=>.rd τ l
 | .cp τ,x=>.cp (iw τ x) 0
 | .fn f bZ,x=>.fn f (ab5 bZ x)
 | .raw v,_=>X.de v
def tD{A:Type}(f:A→X):(ks:List AK)→dE.kE A ks→List X
 | [],x=>[f x]
 | k::ks,x=>f (Prod.fst x)::tD (Lo k) ks (Prod.snd x)
def vw:(ks:List AK)→dE ks→List X
 | [],_=>[]
 | k::ks,x=>tD (Lo k) ks x
def Fq:List X→Nat→X
 | [],_=>.kQ []
 | x::_,0=>x
 | _::r,i+1=>Fq r i
theorem Fp:∀(l:List X) (i:Nat),Fq l i=(l[i]?).getD (.kQ [])
 | [],i=>by simp[Fq]
 | x::r,0=>by simp[Fq]
 | x::r,i+1=>by simp[Fq,Fp r i]
def aV(ad:List AK)(a:dE ad):bF:=⟨fun i=>Fq (vw ad a) i,fun _=>none,0⟩
theorem RJ{H:jR}(k:AK)(x:k.T)(v:V)(h:j4 k x v):XV H (Lo k x) v:=by
 cases k with
 | c t=>exact vq t x v h
 | g τ=>obtain⟨row,rfl,h⟩:=h;simp only[Lo,XV];exact⟨row,rfl,eO τ x row h⟩
 | rd τ=>obtain⟨rows,rfl,h⟩:=h;simp only[Lo,XV];exact⟨rows,rfl,h⟩
 | cp τ=>obtain⟨row,rfl,h⟩:=h;simp only[Lo,XV];exact⟨row,rfl,eO τ x row h⟩
 | fn f bZ=>
  obtain⟨vs,rfl,h⟩:=h;obtain⟨h1,h2⟩:=RH (H:=H) bZ x vs h;simp only[Lo,XV];exact⟨h2,fun _=>⟨vs,rfl,h1⟩⟩
 | raw u=>
  simp only[j4]at h;subst h;exact EM u
theorem BJ{H:jR}(ks:List AK)(x:dE ks)(vs:List V)(h:cE ks x vs):bj H (vw ks x) vs:=by
 have key:∀(ks:List AK) {A:Type} (f:A→X) (R:A→V→Prop),(∀x v,R x v→XV H (f x) v)→∀(x:dE.kE A ks) (vs:List V),et R ks x vs→bj H (tD f ks x) vs:=by
  intro ks;induction ks with
  | nil=>
   intro A f R hf x vs h;simp only[et]at h;obtain⟨v,rfl,hv⟩:=h;simp only[tD,bj];exact⟨v,[],rfl,hf _ _ hv,rfl⟩
  | cons k ks ih=>
   intro A f R hf x vs h;simp only[et]at h;obtain⟨v,r,rfl,hv,hr⟩:=h;simp only[tD,bj];exact⟨v,r,rfl,hf _ _ hv,ih (Lo k) (j4 k) (RJ k) _ r hr⟩
 cases ks with
 | nil=>simp only[cE]at h;subst h;simp only[vw,bj]
 | cons k ks=>simp only[cE]at h;exact key ks _ _ (RJ k) x vs h
theorem aas(ad:List AK)(a:dE ad)(vs:List V)(h:cE ad a vs):RS (aV ad a) (uO vs):=by
 refine⟨fun i=>?_,fun o bD h=>by cases h⟩;have h1:=BJ (H:=⟨0,fun _=>none,(uO vs).h⟩) ad a vs h;show XV ⟨0,fun _=>none,(uO vs).h⟩ (Fq (vw ad a) i) ((vs[i]?).getD (.kQ []));rw[Fp];cases hi:(vw ad a)[i]? with
 | none=>
  have hl:=h1.len;have:vs[i]? = none:=by
   rw[List.getElem?_eq_none_iff]at hi ⊢;omega
  rw[this];simp only[aE1,XV];exact⟨[],rfl,by simp[bj]⟩
 | some x=>
  obtain⟨v,e1,e2⟩:=h1.at i x hi;rw[e1];exact e2
def o6:List XI→List XI
 | .head body::k=>.code body::.head body::k
 | k=>k
def xO:List XI→Nat
 | .inBlock id::_=>id
 | _::k=>xO k
 | []=>0
def isU(d:LD):Bool:=match d.als with
 | [(0,0)]=>true
 | _=>false
def ams{β:Type}(C:cR)(Lt:Nat→LD)(Kr:bF→Option β)(Kg:List XI→bF→Option β):Nat→List XI→bF→Option β
 | 0=>fun _ _=>none
 | n+1=>fun k s=>exec C Kr (fun k' s'=>bif isU (Lt (xO k'))then ams C Lt Kr Kg n k' s' else Kg k' s') 100000 (o6 k) s
def RE{β:Type}(Lt:Nat→LD)(R:List XI→bF→Option β)(k':List XI)(s':bF):Option β:=match(Lt (xO k')).get s' with
 | some x=>R k' ((Lt (xO k')).mk' x)
 | none=>none
def acp{β:Type}(C:cR)(Lt:Nat→LD)(Kr:bF→Option β)(R:List XI→bF→Option β)(k':List XI)(s':bF):Option β:=
 bif isU (Lt (xO k'))then ams C Lt Kr (RE Lt R) 4 k' s' else RE Lt R k' s'
def aG{β:Type}(C:cR)(Lt:Nat→LD)(Kr:bF→Option β):Nat→List XI→bF→Option β
 | 0=>fun _ _=>none
 | f+1=>fun k s=>exec C Kr (acp C Lt Kr (aG C Lt Kr f)) 100000 (o6 k) s
section
variable {β:Type} {C:cR} {Lt:Nat→LD} {r:β} {w0:World} {I:sy} {A0:Nat→Prop} {Rt:Act→World→Prop}
theorem xT(hI:(∀b,¬ I.P b)∨C.fz=[])(oh:C.inl=[]∨((∀b,¬ I.P b)∧∀o,¬ I.q o))(hm:C.P.follows .mixedOrders=true)(bQ:(∀e∈C.es,e.Ok C.P)∧(∀e∈C.el,e.Ok C.P)∧∀d∈C.inl,d.Ok C.P){Kr:bF→Option β}(C6:∀xs s,RS xs s→Kr xs=some r→∀a w,RR w0 I A0 C.n s a w→Rt a w)
  {Kg:List XI→bF→Option β} (Mr:∀k xs s,RS xs s→jt C.pm k→CF k→Kg k xs=some r→∀a w,RR w0 I A0 C.n s a w→KW C.P Rt k .normal a w)
  (k:List XI) (xs:bF) (s:St) (R:RS xs s) (aX:jt C.pm k) (sV:CF k) (h:exec C Kr Kg 100000 (o6 k) xs=some r):∀a w,RR w0 I A0 C.n s a w→KW C.P Rt k .normal a w:=by
  have aaR:jt C.pm (o6 k):=by
   cases k with
   | nil=>exact aX
   | cons i k=>cases i<;>first | exact aX | exact⟨aX.1,aX⟩
  have sI:CF (o6 k):=by
   cases k with
   | nil=>exact sV
   | cons i k=>cases i<;>exact sV
  have awh:Z1 (o6 k):=by
   cases hk:o6 k with
   | nil=>trivial
   | cons i k'=>
    rw[hk]at sI;cases i<;>first | exact sI | exact sI.elim
  have h1:=du (w0:=w0) (I:=I) (A0:=A0) (Rt:=Rt) hI oh hm bQ.1 bQ.2.1 bQ.2.2 C6 Mr 100000 (o6 k) xs s R aaR awh h;intro a w hR;have h2:=(xv sI).1 h1 a w hR;cases k with
  | nil=>exact h2
  | cons i k=>
   cases i<;>try exact h2
   rename_i body;refine KD (wp_mono h2 ?_);intro e a' w' hq;rcases im hq with rfl | rfl | ⟨id,rfl⟩
   ·exact hq
   ·simp only[Exit.then];rw[xA]at hq ⊢;exact hq
   ·exact hq
theorem Ai(hI:(∀b,¬ I.P b)∨C.fz=[])(oh:C.inl=[]∨((∀b,¬ I.P b)∧∀o,¬ I.q o))(hm:C.P.follows .mixedOrders=true)(bQ:(∀e∈C.es,e.Ok C.P)∧(∀e∈C.el,e.Ok C.P)∧∀d∈C.inl,d.Ok C.P){Kr:bF→Option β}(C6:∀xs s,RS xs s→Kr xs=some r→∀a w,RR w0 I A0 C.n s a w→Rt a w)
  {Kg:List XI→bF→Option β} (Mr:∀k xs s,RS xs s→jt C.pm k→CF k→Kg k xs=some r→∀a w,RR w0 I A0 C.n s a w→KW C.P Rt k .normal a w) :
  ∀(n:Nat) (k:List XI) (xs:bF) (s:St),RS xs s→jt C.pm k→CF k→ams C Lt Kr Kg n k xs=some r→∀a w,RR w0 I A0 C.n s a w→KW C.P Rt k .normal a w
 | 0,k,xs,s,_,_,_,h=>by cases h
 | n+1,k,xs,s,R,aX,sV,h=>xT hI oh hm bQ C6 (fun k' gR s' R' dW hn' h' a w hR=>by
   cases hb:isU (Lt (xO k'))with
   | true=>rw[hb]at h';exact Ai hI oh hm bQ C6 Mr n k' gR s' R' dW hn' h' a w hR
   | false=>rw[hb]at h';exact Mr k' gR s' R' dW hn' h' a w hR) k xs s R aX sV h
theorem Aw(hI:(∀b,¬ I.P b)∨C.fz=[])(oh:C.inl=[]∨((∀b,¬ I.P b)∧∀o,¬ I.q o))(hL:∀b,LnI I (Lt b).ln)(hm:C.P.follows .mixedOrders=true)(bQ:(∀e∈C.es,e.Ok C.P)∧(∀e∈C.el,e.Ok C.P)∧∀d∈C.inl,d.Ok C.P){Kr:bF→Option β}(C6:∀xs s,RS xs s→Kr xs=some r→∀a w,RR w0 I A0 C.n s a w→Rt a w)(f:Nat):
  ∀(k:List XI) (xs:bF) (s:St),RS xs s→jt C.pm k→CF k→aG C Lt Kr f k xs=some r→∀a w,RR w0 I A0 C.n s a w→KW C.P Rt k .normal a w:=by
 induction f with
 | zero=>intro k xs s _ _ _ h;cases h
 | succ f ih=>
  intro k xs s R aX sV h;have base:∀(k':List XI) (gR:bF) (s':St),RS gR s'→jt C.pm k'→CF k'→RE Lt (aG C Lt Kr f) k' gR=some r→∀a w,RR w0 I A0 C.n s' a w→KW C.P Rt k' .normal a w:=fun k' gR s' R' dW hn' h' a w hR=>by
   unfold RE at h'
   split at h'<;>try (cases h';done)
   rename_i x hx;obtain⟨s2,R2,hR2⟩:=LD.ao5 _ R' hx (hL _) hR;exact ih k' _ s2 R2 dW hn' h' a w hR2
  exact xT hI oh hm bQ C6 (Kg:=acp C Lt Kr (aG C Lt Kr f)) (fun k' gR s' R' dW hn' h' a w hR=>by
   unfold acp at h';cases hb:isU (Lt (xO k'))with
   | true=>rw[hb]at h';exact Ai hI oh hm bQ C6 base 4 k' gR s' R' dW hn' h' a w hR
   | false=>rw[hb]at h';exact base k' gR s' R' dW hn' h' a w hR) k xs s R aX sV h
end
theorem En(ks:List AK)(x:dE ks)(vs:List V)(h:cE ks x vs):vs.length=ks.length:=by
 have h1:=(BJ (H:=⟨0,fun _=>none,fun _=>none⟩) ks x vs h).len;have key:∀(ks:List AK) (A:Type) (f:A→X) (x:dE.kE A ks),(tD f ks x).length=ks.length+1:=by
  intro ks;induction ks with
  | nil=>intro A f x;rfl
  | cons k ks ih=>intro A f x;simp only[tD,aCv];rw[ih]
 rw[h1];cases ks with
 | nil=>rfl
 | cons k ks=>exact key ks _ _ x
theorem Zr(ks:List RK)(r:aA ks)(rds:List RD)(h:cw ks r rds):∀rd∈rds,rd.ok=true:=by
 have one:∀(k:RK) (x:k.T) (rd:RD),sQ k x rd→rd.ok=true:=by
  intro k x rd h;cases k with
  | v t=>obtain⟨y,rfl,hy⟩:=h;exact(oI t x y hy).1
  | g τ=>obtain⟨row,rfl,_⟩:=h;rfl
  | o ty es τ=>obtain⟨rows,rfl,_⟩:=h;rfl
  | a ty es j τ=>
   obtain⟨pre,rows,post,rfl,_,hy⟩:=h;refine aCG.2 fun y hm=>?_
   have hd:=fX τ x _ hy y (by rcases aC3.1 hm with h | h<;>simp[h]);cases hd<;>rfl
 have key:∀(ks:List RK) {A:Type} (Q:A→RD→Prop),(∀x rd,Q x rd→rd.ok=true)→∀(x:aA.jE A ks) (rds:List RD),dg Q ks x rds→∀rd∈rds,rd.ok=true:=by
  intro ks;induction ks with
  | nil=>
   intro A Q hQ x rds h rd hr;simp only[dg]at h;obtain⟨y,rfl,h1⟩:=h;simp at hr;subst hr;exact hQ _ _ h1
  | cons k ks ih=>
   intro A Q hQ x rds h rd hr;simp only[dg]at h;obtain⟨y,r',rfl,h1,h2⟩:=h;rcases aCJ.1 hr with rfl | hr
   ·exact hQ _ _ h1
   ·exact ih (sQ k) (one k) _ r' h2 rd hr
 cases ks with
 | nil=>simp only[cw]at h;subst h;intro rd hr;cases hr
 | cons k ks=>simp only[cw]at h;exact key ks _ (one k) r rds h
theorem iB{C:cR}{Lt:Nat→LD}{g:FuncId}{fn:Func}{c:Code}{rs:List ResultVar}(ad:List AK)(rk:List RK)(hm:C.P.follows .mixedOrders=true)(bQ:(∀e∈C.es,e.Ok C.P)∧(∀e∈C.el,e.Ok C.P)∧∀d∈C.inl,d.Ok C.P)
  (hf:C.P.funcs[g]? = some fn) (hb:fn.body=some c) (hn:fn.ntmps=C.n) (hr:fn.results.toList=rs) (hl:Nat.ble ad.length C.n=true) (hc:fA C.pm c=true)
  {a:dE ad} {r:aA rk} (f:Nat) (h:aG C Lt (aQ C.P rs rk) f [.code c] (aV ad a)=some r) (vs:List V) (hv:cE ad a vs):Ew C.P g vs (cw rk r):=by
 subst hr;refine UR hf hb (by rw[En ad a vs hv,hn];exact aEA hl) (fun rds h=>Zr rk r rds h) (fun w0 A0 a0 w hR=>?_);rw[hn]at hR ⊢;have h1:=Aw (w0:=w0) (I:=H8) (A0:=A0) (Rt:=fun a' w'=>∃s',(∃rds,cw rk r rds∧acr C.P fn.results.toList rds s')∧RR w0 H8 A0 C.n s' a' w') (.inl fun _ h=>h) (.inr ⟨fun _ h=>h,fun _ h=>h⟩) (fun _=>.inl ⟨fun _ h=>h,fun _ h=>h⟩) hm bQ
  (fun xs s R h a w hR=>⟨s,akd R h,hR⟩) f [.code c] _ _ (aas ad a vs hv) ⟨hc,trivial⟩ trivial h a0 w hR
 refine wp_mono (show c.wp C.P _ a0 w from h1) ?_;intro e a' w' hq;rcases im hq with rfl | rfl | ⟨id,rfl⟩
 ·exact⟨.inl rfl,hq⟩
 ·rw[xA]at hq;exact⟨.inr rfl,hq⟩
 ·exact hq.elim
end Go.AL
