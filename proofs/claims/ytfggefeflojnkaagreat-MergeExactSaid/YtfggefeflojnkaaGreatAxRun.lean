/- AI. -/
import Derived.Test.YtfggefeflojnkaaGreatAxCut
namespace Go.AL
def MF(h:Nat→Option du)(k:RK)(x:X):Option (k.T×List Nat×List Nat):=match k with
 | .v t=>match SY h t x with
  | some (v,f)=>some (v,f,[])
  | none=>none
 | .g τ=>match x with
  | .agg true cs=>(match tT h τ cs with
   | some (v,f)=>some (v,f,[])
   | none=>none)
  | .agg false cs=>(match wE τ cs with
   | some v=>some (v,[],[])
   | none=>none)
  | _=>none
 | .o ty es τ=>match x with
  | .nil=>some ([],[],[])
  | .ref p aU=>(match h p with
   | some (.t v j8 j7 σ l)=>if hτ:eh σ τ=true then bif Nat.beq v aU&&Nat.beq j8 ty&&Nat.beq j7 es then some (iP l hτ,[],[p])else none else none
   | some (.u v j8 j7 imp rows)=>bif Nat.beq v aU&&Nat.beq j8 ty&&Nat.beq j7 es&&!imp then(match jz τ rows with
    | some l=>some (l,[],[p])
    | none=>none)else none
   | none=>none)
  | _=>none
def PH{A B:Type}(a:Option (A×List Nat×List Nat))(b:Option (B×List Nat×List Nat)):Option ((A×B)×List Nat×List Nat):=match a with
 | some (a,f,s)=>match b with
  | some (b,g,t)=>some ((a,b),f++g,s++t)
  | none=>none
 | none=>none
def FI{A:Type}(h:Nat→Option du)(f:X→Option (A×List Nat×List Nat)):(ks:List RK)→List X→Option (eC.jV A ks×List Nat×List Nat)
 | []=>fun xs=>match xs with
  | [x]=>f x
  | _=>none
 | k::ks=>fun xs=>match xs with
  | x::r=>PH (f x) (FI h (MF h k) ks r)
  | []=>none
def Xw(h:Nat→Option du):(ks:List RK)→List X→Option (eC ks×List Nat×List Nat)
 | []=>fun xs=>match xs with
  | []=>some ((),[],[])
  | _=>none
 | k::ks=>fun xs=>FI h (MF h k) ks xs
def zd(P:Program)(rs:List ResultVar)(rk:List RK)(s:br):Option (eC rk):=match kh P s rs with
 | some xs=>match Xw s.h rk xs with
  | some (r,f,own)=>bif sT own&&aiG f own then some r else none
  | none=>none
 | none=>none
section
variable {xs:br} {s:St}
theorem Bb{F:Nat→Prop}{v v':V}(h:iN s F v v'):fZ s.h v v'∧∀o∈fM v,F o:=by
 rcases h with⟨rfl,hp,F9⟩ | ⟨p,n,ob,rfl,hF,h1,h2,h3,rfl⟩
 ·cases v'<;>first | exact⟨.inl ⟨rfl,hp⟩,fun o ho=>by simp[fM]at ho⟩ | (simp[V.pure]at hp;done) | exact absurd rfl (F9 _)
 ·refine⟨⟨ob,h1,h3,h2,rfl⟩,fun o ho=>?_⟩
  grind[fM]
theorem ag6{F:Nat→Prop}:∀{vs bS:List V},aJ (iN s F) vs bS→A8 s.h vs bS∧∀o∈vs.flatMap fM,F o
 | [],[],_=>⟨trivial,fun o ho=>by simp at ho⟩
 | v::vs,v'::bS,h=>by
  obtain⟨h1,h2⟩:=Bb h.1;obtain⟨h3,h4⟩:=ag6 h.2;refine⟨⟨h1,h3⟩,fun o ho=>?_⟩;grind
 | [],_::_,h=>h.elim
 | _::_,[],h=>h.elim
theorem PB(R:RS xs s)(k:RK){x:X}{y:k.T}{f own:List Nat}{v:V}(h:MF xs.h k x=some (y,f,own))(hv:XV ⟨xs.c,xs.h,s.h⟩ x v):
  ∃rd,tn k y rd∧jB s.h v rd∧(∀o∈lD v rd,o∈f)∧(∀o,rS v rd=some o→own=[o]):=by
 cases k with
 | v t=>
  simp only[MF]at h
  split at h<;>try trivial
  rename_i v0 g hg;simp only[azN]at h;obtain⟨rfl,rfl,rfl⟩:=h;obtain⟨v',h1,h2⟩:=zh (F:=fun p=>p∈f) R t hg hv (fun p hp=>hp);obtain⟨h3,h4⟩:=Bb h1;refine⟨.v v',⟨v',rfl,h2⟩,?_,?_,?_⟩
  ·have F9:=(nZ t _ v' h2).2
   cases v<;>try exact h3
   all_goals grind[fZ,V.pure]
  ·intro o ho
   apply h4;cases v<;>simp only[lD,fM]at ho ⊢<;>first | exact ho | (simp at ho;done) | skip
   all_goals grind[fZ,V.pure,nZ]
  grind[rS]
 | g τ=>
  simp only[MF]at h
  split at h<;>try trivial
  ·rename_i cs
   split at h<;>try trivial
   rename_i v0 g hg;simp only[azN]at h;obtain⟨rfl,rfl,rfl⟩:=h;simp only[XV]at hv;obtain⟨vs,rfl,e2⟩:=hv;obtain⟨bS,h1,h2⟩:=kQ (F:=fun p=>p∈f) R τ hg e2 (fun p hp=>hp);obtain⟨h3,h4⟩:=ag6 h1;exact⟨.v (.agg bS),⟨bS,rfl,h2⟩,h3,fun o ho=>h4 o ho,fun o ho=>by simp[rS,np]at ho⟩
  ·rename_i cs
   split at h<;>try trivial
   rename_i v0 hg;simp only[azN]at h;obtain⟨rfl,rfl,rfl⟩:=h;simp only[XV]at hv;obtain⟨vs,rfl,e2⟩:=hv;have h2:=gh τ cs _ vs hg e2;refine⟨.v (.agg vs),⟨vs,rfl,h2⟩,.inl rfl,fun o ho=>?_,fun o ho=>by simp[rS,np]at ho⟩;obtain⟨_,h4⟩:=ag6 (A3 (s:=s) (F:=fun _=>False) h2);exact(h4 o ho).elim
 | o ty es τ=>
  have oA:∀(p aU:Nat) (bn:du) (l:List (aA τ)),x=.ref p aU→xs.h p=some bn→bn.aU=aU→(∀ob,fT ⟨xs.c,xs.h,s.h⟩ bn ob→ob.ty=ty∧ob.es=es∧ob.imp=false∧bD τ l ob.rows)→
    ∃rd,tn (.o ty es τ) l rd∧jB s.h v rd∧(∀o∈lD v rd,o∈([]:List Nat))∧(∀o,rS v rd=some o→[p]=[o]):=by
   intro p aU bn l hi hp uI cR;rw[hi]at hv;obtain⟨Wh,ob,h1,h2,h3,h4,rfl⟩:=cM (H:=⟨xs.c,xs.h,s.h⟩) R.h hv (by unfold dt;simp only;rw[hp];simp only;rw[uI];exact aA0 _);simp only at h1 h3;rw[hp]at h1;cases h1;obtain⟨a1,a2,a3,a4⟩:=cR ob h4;exact⟨.o ty es ob.rows,⟨ob.rows,rfl,a4⟩,⟨ob,h3,rfl,a1,a2,a3,rfl⟩,fun o ho=>by simp[lD]at ho,fun o ho=>by simp[rS]at ho;rw[ho]⟩
  simp only[MF]at h
  split at h<;>try trivial
  ·simp only[azN]at h
   obtain⟨rfl,rfl,rfl⟩:=h;simp only[XV]at hv;subst hv;exact⟨.o ty es [],⟨[],rfl,trivial⟩,rfl,fun o ho=>by simp[lD]at ho,fun o ho=>by simp[rS]at ho⟩
  ·rename_i p aU
   split at h<;>try trivial
   ·rename_i v' j8 j7 σ l hp
    split at h<;>try trivial
    rename_i hτ;obtain⟨hb,h⟩:=aS h;simp only[azF]at hb;simp only[azN]at h;obtain⟨rfl,rfl,rfl⟩:=h;refine oA p aU _ _ rfl hp (azV hb.1.1) (fun ob cR=>?_);obtain⟨a1,a2,a3,a4⟩:=cR;exact⟨by rw[a1];exact azV hb.1.2,by rw[a2];exact azV hb.2,a3,(cg _ hτ _).2 a4⟩
   ·rename_i v' j8 j7 imp rows hp
    obtain⟨hb,h⟩:=aS h;simp only[azF,aAi]at hb
    split at h<;>try trivial
    rename_i l hl;simp only[azN]at h;obtain⟨rfl,rfl,rfl⟩:=h;refine oA p aU _ _ rfl hp (azV hb.1.1.1) (fun ob cR=>?_);obtain⟨a1,a2,a3,a4⟩:=cR;exact⟨by rw[a1];exact azV hb.1.1.2,by rw[a2];exact azV hb.1.2,by rw[a3];exact hb.2,dq hl a4⟩
theorem MM{A B:Type}{a:Option (A×List Nat×List Nat)}{b:Option (B×List Nat×List Nat)}{p:A×B}{f own:List Nat}(h:PH a b=some (p,f,own)):
  ∃f1 f2 s1 s2,a=some (p.1,f1,s1)∧b=some (p.2,f2,s2)∧f=f1++f2∧own=s1++s2:=by
 unfold PH at h
 grind
theorem DZ(R:RS xs s){A:Type}{g:X→Option (A×List Nat×List Nat)}{Q:A→RD→Prop}
  (hg:∀x y f own v,g x=some (y,f,own)→XV ⟨xs.c,xs.h,s.h⟩ x v→∃rd,Q y rd∧jB s.h v rd∧(∀o∈lD v rd,o∈f)∧(∀o,rS v rd=some o→own=[o])) :
  ∀(ks:List RK) (l:List X) (y:eC.jV A ks) (f own:List Nat) (vs:List V),FI xs.h g ks l=some (y,f,own)→aW ⟨xs.c,xs.h,s.h⟩ l vs→
   ∃rds,df Q ks y rds∧yI s.h vs rds∧(∀o∈s7 vs rds,o∈f)∧((gj vs rds).filterMap id).Sublist own
 | [],l,y,f,own,vs,h,hv=>by
  match l,h,hv with
  | [x],h,hv=>
   have h:g x=some (y,f,own):=h;simp only[aW]at hv;obtain⟨v,r,rfl,h1,rfl⟩:=hv;obtain⟨rd,h2,h3,h4,h5⟩:=hg x y f own v h h1;refine⟨[rd],by simp only[df];exact⟨rd,rfl,h2⟩,⟨h3,trivial⟩,fun o ho=>h4 o (by grind[s7]),?_⟩;simp only[gj];cases ho:rS v rd with
   | none=>simp[]
   | some p=>rw[h5 p ho];simp[]
 | k::ks,l,y,f,own,vs,h,hv=>by
  match l,h,hv with
  | x::r,h,hv=>
   have h:PH (g x) (FI xs.h (MF xs.h k) ks r)=some (y,f,own):=h;obtain⟨f1,f2,s1,s2,h1,h2,rfl,rfl⟩:=MM h;simp only[aW]at hv;obtain⟨v,r',rfl,h3,h4⟩:=hv;obtain⟨rd,k2,k3,k4,k5⟩:=hg x _ f1 s1 v h1 h3;obtain⟨rds,m2,m3,m4,m5⟩:=DZ R (fun x y f own v=>PB R k) ks r _ f2 s2 r' h2 h4;refine⟨rd::rds,by simp only[df];exact⟨rd,rds,rfl,k2,m2⟩,⟨k3,m3⟩,fun o ho=>?_,?_⟩
   ·simp only[s7,aAp]at ho
    rcases ho with ho | ho
    ·exact aBd _ (k4 o ho)
    ·exact aBe _ (m4 o ho)
   ·simp only[gj]
    cases ho:rS v rd with
    | none=>simpa using m5.trans (List.sublist_append_right s1 s2)
    | some p=>
     rw[k5 p ho];simpa using m5
theorem JG(R:RS xs s)(ks:List RK)(l:List X)(y:eC ks)(f own:List Nat)(vs:List V)(h:Xw xs.h ks l=some (y,f,own))(hv:aW ⟨xs.c,xs.h,s.h⟩ l vs):
   ∃rds,cf ks y rds∧yI s.h vs rds∧(∀o∈s7 vs rds,o∈f)∧((gj vs rds).filterMap id).Sublist own:=by
 cases ks with
 | nil=>
  match l,h,hv with
  | [],h,hv=>simp only[aW]at hv;subst hv;exact⟨[],by simp only[cf],trivial,fun o ho=>by simp[s7]at ho,by simp[gj]⟩
 | cons k ks=>
  simp only[cf];exact DZ R (fun x y f own v=>PB R k) ks l y f own vs h hv
theorem zy{P:Program}:∀(rs:List ResultVar) {α:Type} (K:α→List V→Prop),wY P s rs (fun xs=>∃a,K a xs)→∃a,wY P s rs (K a)
 | [],α,K,h=>h
 | .tmp t::r,α,K,h=>zy r (fun a xs=>K a (s.ev (.tmp t)::xs)) h
 | .cell p ty::r,α,K,h=>by
  obtain⟨h0,h⟩:=h
  split at h<;>try (exact h.elim)
  rename_i q v hq;obtain⟨h1,h2⟩:=h;obtain⟨a,ha⟩:=zy r (fun a xs=>K a (v::xs)) h2;refine⟨a,h0,?_⟩;grind
theorem uU{P:Program}{A:Prop}:∀(rs:List ResultVar) (K:List V→Prop),wY P s rs (fun xs=>A∧K xs)→A∧wY P s rs K
 | [],K,h=>h
 | .tmp t::r,K,h=>uU r (fun xs=>K (s.ev (.tmp t)::xs)) h
 | .cell p ty::r,K,h=>by
  obtain⟨h0,h⟩:=h
  split at h<;>try (exact h.elim)
  rename_i q v hq;obtain⟨h1,h2⟩:=h;obtain⟨a,b⟩:=uU r (fun xs=>K (v::xs)) h2;refine⟨a,h0,?_⟩;grind
theorem ahy{P:Program}(R:RS xs s){rs:List ResultVar}{rk:List RK}{r:eC rk}(h:zd P rs rk xs=some r):∃rds,cf rk r rds∧aaJ P rs rds s:=by
 unfold zd at h
 split at h<;>try trivial
 rename_i l hl
 split at h<;>try trivial
 rename_i r' f own hg;obtain⟨hb,h⟩:=aS h;have:=az9 h;subst this;simp only[azF]at hb;have h1:=jC R rs l hl (fun vs=>∃rds,cf rk r' rds∧(yI s.h vs rds∧((gj vs rds).filterMap id).Nodup∧∀o∈s7 vs rds,o∉(gj vs rds).filterMap id)) (fun vs tL=>by
  obtain⟨rds,k1,k2,k3,k4⟩:=JG R rk l r' f own vs hg tL;refine⟨rds,k1,k2,(lu hb.1).sublist k4,fun o ho hm=>?_⟩;have h2:=azU.1 hb.2 o (k3 o ho);simp only[aAi]at h2;rw[oG.2 (k4.subset hm)]at h2;cases h2)
 obtain⟨rds,h2⟩:=zy rs _ h1;obtain⟨h3,h4⟩:=uU rs _ h2;exact⟨rds,h3,h4⟩
end
def K8:(k:AK)→k.T→X
 | .c t,x=>lH t x
 | .g τ,x=>.agg false (iF τ x)
 | .rd τ,l=>.rd τ l
 | .cp τ,x=>.cp (iF τ x) 0
 | .fn f aw,x=>.fn f (aak aw x)
 | .raw v,_=>X.db v
def tg{A:Type}(f:A→X):(ks:List AK)→dA.ky A ks→List X
 | [],x=>[f x]
 | k::ks,x=>f (Prod.fst x)::tg (K8 k) ks (Prod.snd x)
def vm:(ks:List AK)→dA ks→List X
 | [],_=>[]
 | k::ks,x=>tg (K8 k) ks x
def FQ:List X→Nat→X
 | [],_=>.kI []
 | x::_,0=>x
 | _::r,i+1=>FQ r i
theorem FP:∀(l:List X) (i:Nat),FQ l i=(l[i]?).getD (.kI [])
 | [],i=>by simp[FQ]
 | x::r,0=>by simp[FQ]
 | x::r,i+1=>by simp[FQ,FP r i]
def aQ(ad:List AK)(a:dA ad):br:=⟨fun i=>FQ (vm ad a) i,fun _=>none,0⟩
theorem QH{H:jg}(k:AK)(x:k.T)(v:V)(h:lZ k x v):XV H (K8 k x) v:=by
 cases k with
 | c t=>exact vg t x v h
 | g τ=>obtain⟨row,rfl,h⟩:=h;simp only[K8,XV];exact⟨row,rfl,eo τ x row h⟩
 | rd τ=>obtain⟨rows,rfl,h⟩:=h;grind[K8,XV]
 | cp τ=>obtain⟨row,rfl,h⟩:=h;grind[K8,XV,eo]
 | fn f aw=>
  obtain⟨vs,rfl,h⟩:=h;obtain⟨h1,h2⟩:=QE (H:=H) aw x vs h;grind[K8,XV]
 | raw u=>
  simp only[lZ]at h;subst h;exact Fi u
theorem CB{H:jg}(ks:List AK)(x:dA ks)(vs:List V)(h:bY ks x vs):aW H (vm ks x) vs:=by
 have key:∀(ks:List AK) {A:Type} (f:A→X) (R:A→V→Prop),(∀x v,R x v→XV H (f x) v)→∀(x:dA.ky A ks) (vs:List V),ed R ks x vs→aW H (tg f ks x) vs:=by
  intro ks;induction ks with
  | nil=>
   grind[ed,tg,aW]
  | cons k ks ih=>
   grind[ed,tg,aW,K8,lZ,QH]
 cases ks with
 | nil=>grind[bY,vm,aW]
 | cons k ks=>simp only[bY]at h;exact key ks _ _ (QH k) x vs h
theorem Kb(ad:List AK)(a:dA ad)(vs:List V)(h:bY ad a vs):RS (aQ ad a) (jJ vs):=by
 refine⟨fun i=>?_,fun o bn h=>by cases h⟩;have h1:=CB (H:=⟨0,fun _=>none,(jJ vs).h⟩) ad a vs h;show XV ⟨0,fun _=>none,(jJ vs).h⟩ (FQ (vm ad a) i) ((vs[i]?).getD (.kI []));rw[FP];cases hi:(vm ad a)[i]? with
 | none=>
  have hl:=h1.len;have:vs[i]? = none:=by
   grind
  rw[this];simp only[aB1,XV];grind[aW]
 | some x=>
  obtain⟨v,e1,e2⟩:=h1.at i x hi;grind
def oR:List XI→List XI
 | .head body::k=>.code body::.head body::k
 | k=>k
def xN:List XI→Nat
 | .inBlock id::_=>id
 | _::k=>xN k
 | []=>0
def isU(d:LD):Bool:=match d.als with
 | [(0,0)]=>true
 | _=>false
def aj9{β:Type}(C:cX)(Lt:Nat→LD)(Kr:br→Option β)(Kg:List XI→br→Option β):Nat→List XI→br→Option β
 | 0=>fun _ _=>none
 | n+1=>fun k s=>exec C Kr (fun k' s'=>bif isU (Lt (xN k'))then aj9 C Lt Kr Kg n k' s' else Kg k' s') 100000 (oR k) s
def QB{β:Type}(Lt:Nat→LD)(R:List XI→br→Option β)(k':List XI)(s':br):Option β:=match(Lt (xN k')).get s' with
 | some x=>R k' ((Lt (xN k')).mk' x)
 | none=>none
def aaE{β:Type}(C:cX)(Lt:Nat→LD)(Kr:br→Option β)(R:List XI→br→Option β)(k':List XI)(s':br):Option β:=
 bif isU (Lt (xN k'))then aj9 C Lt Kr (QB Lt R) 4 k' s' else QB Lt R k' s'
def aG{β:Type}(C:cX)(Lt:Nat→LD)(Kr:br→Option β):Nat→List XI→br→Option β
 | 0=>fun _ _=>none
 | f+1=>fun k s=>exec C Kr (aaE C Lt Kr (aG C Lt Kr f)) 100000 (oR k) s
section
variable {β:Type} {C:cX} {Lt:Nat→LD} {r:β} {w0:World} {I:rM} {A0:Nat→Prop} {Rt:Act→World→Prop}
theorem xS(hI:(∀b,¬ I.P b)∨C.fz=[])(nB:C.inl=[]∨((∀b,¬ I.P b)∧∀o,¬ I.q o))(hm:C.P.follows .mixedOrders=true)(bI:(∀e∈C.es,e.Ok C.P)∧(∀e∈C.el,e.Ok C.P)∧∀d∈C.inl,d.Ok C.P){Kr:br→Option β}(Dy:∀xs s,RS xs s→Kr xs=some r→∀a w,RR w0 I A0 C.n s a w→Rt a w)
  {Kg:List XI→br→Option β} (L6:∀k xs s,RS xs s→jF C.pm k→C8 k→Kg k xs=some r→∀a w,RR w0 I A0 C.n s a w→KW C.P Rt k .normal a w)
  (k:List XI) (xs:br) (s:St) (R:RS xs s) (aO:jF C.pm k) (so:C8 k) (h:exec C Kr Kg 100000 (oR k) xs=some r):∀a w,RR w0 I A0 C.n s a w→KW C.P Rt k .normal a w:=by
  have Zi:jF C.pm (oR k):=by
   cases k with
   | nil=>exact aO
   | cons i k=>cases i<;>first | exact aO | exact⟨aO.1,aO⟩
  have rV:C8 (oR k):=by
   cases k with
   | nil=>exact so
   | cons i k=>cases i<;>exact so
  have atB:X8 (oR k):=by
   cases hk:oR k with
   | nil=>trivial
   | cons i k'=>
    rw[hk]at rV;cases i<;>first | exact rV | exact rV.elim
  have h1:=dw (w0:=w0) (I:=I) (A0:=A0) (Rt:=Rt) hI nB hm bI.1 bI.2.1 bI.2.2 Dy L6 100000 (oR k) xs s R Zi atB h;intro a w hR;have h2:=(xr rV).1 h1 a w hR;cases k with
  | nil=>exact h2
  | cons i k=>
   cases i<;>try exact h2
   rename_i body;refine Kn (wp_mono h2 ?_);intro e a' w' hq;rcases gx hq with rfl | rfl | ⟨id,rfl⟩
   ·exact hq
   ·simp only[Exit.then];grind[tC]
   ·exact hq
theorem AN(hI:(∀b,¬ I.P b)∨C.fz=[])(nB:C.inl=[]∨((∀b,¬ I.P b)∧∀o,¬ I.q o))(hm:C.P.follows .mixedOrders=true)(bI:(∀e∈C.es,e.Ok C.P)∧(∀e∈C.el,e.Ok C.P)∧∀d∈C.inl,d.Ok C.P){Kr:br→Option β}(Dy:∀xs s,RS xs s→Kr xs=some r→∀a w,RR w0 I A0 C.n s a w→Rt a w)
  {Kg:List XI→br→Option β} (L6:∀k xs s,RS xs s→jF C.pm k→C8 k→Kg k xs=some r→∀a w,RR w0 I A0 C.n s a w→KW C.P Rt k .normal a w) :
  ∀(n:Nat) (k:List XI) (xs:br) (s:St),RS xs s→jF C.pm k→C8 k→aj9 C Lt Kr Kg n k xs=some r→∀a w,RR w0 I A0 C.n s a w→KW C.P Rt k .normal a w
 | 0,k,xs,s,_,_,_,h=>by cases h
 | n+1,k,xs,s,R,aO,so,h=>xS hI nB hm bI Dy (fun k' gZ s' R' dT hn' h' a w hR=>by
   cases hb:isU (Lt (xN k'))with
   | true=>rw[hb]at h';exact AN hI nB hm bI Dy L6 n k' gZ s' R' dT hn' h' a w hR
   | false=>rw[hb]at h';exact L6 k' gZ s' R' dT hn' h' a w hR) k xs s R aO so h
theorem sN(hI:(∀b,¬ I.P b)∨C.fz=[])(nB:C.inl=[]∨((∀b,¬ I.P b)∧∀o,¬ I.q o))(hL:∀b,LnI I (Lt b).ln)(hm:C.P.follows .mixedOrders=true)(bI:(∀e∈C.es,e.Ok C.P)∧(∀e∈C.el,e.Ok C.P)∧∀d∈C.inl,d.Ok C.P){Kr:br→Option β}(Dy:∀xs s,RS xs s→Kr xs=some r→∀a w,RR w0 I A0 C.n s a w→Rt a w)(f:Nat):
  ∀(k:List XI) (xs:br) (s:St),RS xs s→jF C.pm k→C8 k→aG C Lt Kr f k xs=some r→∀a w,RR w0 I A0 C.n s a w→KW C.P Rt k .normal a w:=by
 induction f with
 | zero=>intro k xs s _ _ _ h;cases h
 | succ f ih=>
  intro k xs s R aO so h;have base:∀(k':List XI) (gZ:br) (s':St),RS gZ s'→jF C.pm k'→C8 k'→QB Lt (aG C Lt Kr f) k' gZ=some r→∀a w,RR w0 I A0 C.n s' a w→KW C.P Rt k' .normal a w:=fun k' gZ s' R' dT hn' h' a w hR=>by
   grind[QB,LD.amq]
  grind[xS,aaE,aG,isU,xN,AN]
end
theorem xo(ks:List AK)(x:dA ks)(vs:List V)(h:bY ks x vs):vs.length=ks.length:=by
 have h1:=(CB (H:=⟨0,fun _=>none,fun _=>none⟩) ks x vs h).len;have key:∀(ks:List AK) (A:Type) (f:A→X) (x:dA.ky A ks),(tg f ks x).length=ks.length+1:=by
  intro ks;induction ks with
  | nil=>intro A f x;rfl
  | cons k ks ih=>intro A f x;simp only[tg,azL];rw[ih]
 rw[h1];cases ks with
 | nil=>rfl
 | cons k ks=>exact key ks _ _ x
theorem XC(ks:List RK)(r:eC ks)(rds:List RD)(h:cf ks r rds):∀rd∈rds,rd.ok=true:=by
 have one:∀(k:RK) (x:k.T) (rd:RD),tn k x rd→rd.ok=true:=by
  intro k x rd h;cases k with
  | v t=>obtain⟨y,rfl,hy⟩:=h;exact(nZ t x y hy).1
  | g τ=>obtain⟨row,rfl,_⟩:=h;rfl
  | o ty es τ=>obtain⟨rows,rfl,_⟩:=h;rfl
 have key:∀(ks:List RK) {A:Type} (Q:A→RD→Prop),(∀x rd,Q x rd→rd.ok=true)→∀(x:eC.jV A ks) (rds:List RD),df Q ks x rds→∀rd∈rds,rd.ok=true:=by
  intro ks;induction ks with
  | nil=>
   grind[df]
  | cons k ks ih=>
   grind[df,tn]
 cases ks with
 | nil=>grind[cf]
 | cons k ks=>grind[cf]
theorem iI{C:cX}{Lt:Nat→LD}{g:FuncId}{fn:Func}{c:Code}{rs:List ResultVar}(ad:List AK)(rk:List RK)(hm:C.P.follows .mixedOrders=true)(bI:(∀e∈C.es,e.Ok C.P)∧(∀e∈C.el,e.Ok C.P)∧∀d∈C.inl,d.Ok C.P)
  (hf:C.P.funcs[g]? = some fn) (hb:fn.body=some c) (hn:fn.ntmps=C.n) (hr:fn.results.toList=rs) (hl:Nat.ble ad.length C.n=true) (hc:fe C.pm c=true)
  {a:dA ad} {r:eC rk} (f:Nat) (h:aG C Lt (zd C.P rs rk) f [.code c] (aQ ad a)=some r) (vs:List V) (hv:bY ad a vs):EW C.P g vs (cf rk r):=by
 subst hr;refine T2 hf hb (by rw[xo ad a vs hv,hn];exact aBz hl) (fun rds h=>XC rk r rds h) (fun w0 A0 a0 w hR=>?_);rw[hn]at hR ⊢;have h1:=sN (w0:=w0) (I:=zl) (A0:=A0) (Rt:=fun a' w'=>∃s',(∃rds,cf rk r rds∧aaJ C.P fn.results.toList rds s')∧RR w0 zl A0 C.n s' a' w') (.inl fun _ h=>h) (.inr ⟨fun _ h=>h,fun _ h=>h⟩) (fun _=>.inl ⟨fun _ h=>h,fun _ h=>h⟩) hm bI
  (fun xs s R h a w hR=>⟨s,ahy R h,hR⟩) f [.code c] _ _ (Kb ad a vs hv) ⟨hc,trivial⟩ trivial h a0 w hR
 refine wp_mono (show c.wp C.P _ a0 w from h1) ?_;intro e a' w' hq;rcases gx hq with rfl | rfl | ⟨id,rfl⟩
 ·exact⟨.inl rfl,hq⟩
 ·grind[tC]
 ·exact hq.elim
end Go.AL
