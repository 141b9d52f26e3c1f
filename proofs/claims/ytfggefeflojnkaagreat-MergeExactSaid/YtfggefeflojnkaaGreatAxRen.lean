/- AI. -/
import Derived.Test.YtfggefeflojnkaaGreatAxSim
namespace Go.AL
def du.l8(v:Nat):du→du
 | .t _ ty es τ l=>.t v ty es τ l
 | .u _ ty es imp rows=>.u v ty es imp rows
def br.put(s:br)(d:Option Nat)(x:X):br:=match d with
 | some d=>⟨fun i=>bif Nat.beq i d then x else s.t i,s.h,s.c⟩
 | none=>s
def br.new(s:br)(d:Nat)(ob:du)(x:X):br:=⟨fun i=>bif Nat.beq i d then x else s.t i,fun p=>bif Nat.beq p d then some ob else s.h p,s.c+1⟩
def br.bQ(s:br)(o:Nat)(ob:du):br:=⟨s.t,fun p=>bif Nat.beq p o then some ob else s.h p,s.c⟩
def br.app(s:br)(o:Nat)(ob:du):br:=⟨s.t,fun p=>bif Nat.beq p o then some ob else s.h p,s.c+1⟩
def mkRef(r:Bool)(d c:Nat):X:=match r with
 | true=>.ref d c
 | false=>.ptr d c 0 0
def br.kill(K:Nat→Bool)(s:br):br:=⟨s.t,fun p=>bif K p then none else s.h p,s.c⟩
theorem eu{α:Type}(a b:Nat)(x y:α):(bif Nat.beq a b then x else y)=if a=b then x else y:=by
 simp_all
section
variable {xs:br} {s:St} (R:RS xs s)
include R
theorem RS.Tn(d:Option Nat){x:X}{v:V}(hv:XV ⟨xs.c,xs.h,s.h⟩ x v):RS (xs.put d x) (s.put d v):=by
 cases d with
 | none=>exact R
 | some d=>
  refine⟨fun i=>?_,R.h⟩;simp only[br.put,St.put,eu]
  split
  ·exact hv
  ·exact R.t i
omit R in
theorem fT.frame{K:Nat→Bool}{H H':jg}(L:LK K H H'){bn:du}{ob:Ob}(h:fT H bn ob):fT H' bn (ob.kill K):=by
 cases bn with
 | t aU ty es τ l=>
  obtain⟨h1,h2,h3,h4⟩:=h;have:ob.kill K=ob:=by grind[Ob.kill]
  rw[this];exact⟨h1,h2,h3,h4⟩
 | u aU ty es imp rows=>
  obtain⟨h1,h2,h3,h4⟩:=h;refine⟨by rw[Ob.gU];exact h1,by rw[Ob.eP];exact h2,by rw[Ob.uD];exact h3,?_⟩;unfold Ob.kill
  split
  ·have:∀{a:List (List X)} {b:List (List V)},aJ (aW H) a b→aJ (aW H') a (b.map (·.map (V.bz K))):=by
    intro a;induction a with
    | nil=>intro b h;cases b with
     | nil=>trivial
     | cons _ _=>exact h.elim
    | cons x a ih=>intro b h;cases b with
     | nil=>exact h.elim
     | cons y b=>exact⟨aW.bz L _ _ h.1,ih h.2⟩
   grind
  grind[aJ.mono,aW.frame]
theorem RS.apc(d:Nat){ob:du}{ob':Ob}(isRef:Bool)(uI:ob.aU=xs.c)(cR:fT ⟨xs.c,xs.h,s.h⟩ ob ob')(h0:isRef=false→0<ob'.rows.length):
  RS (xs.new d ob (mkRef isRef d xs.c)) (s.new d ob' (if isRef then .ref d ob'.rows.length else .ptr d ob'.rows.length 0 0)):=by
 have L:LK (· == d) ⟨xs.c,xs.h,s.h⟩ ⟨xs.c+1,(xs.new d ob (mkRef isRef d xs.c)).h,(s.new d ob' (if isRef then .ref d ob'.rows.length else .ptr d ob'.rows.length 0 0)).h⟩:=by
  refine⟨aBk _,fun o cN h1 h2=>?_⟩;simp only[br.new,eu]at h1;by_cases hd:o=d
  ·grind
  ·rw[azD hd]at h1
   refine⟨by simpa using hd,⟨cN,h1,rfl⟩,fun bE h3=>⟨bE.kill (· == d),?_,by rw[Ob.dg]⟩⟩;simp only[St.new,eT,azD hd];grind
 refine⟨fun i=>?_,fun o bn h=>?_⟩
 ·simp only[br.new,St.new,eu]
  by_cases hi:i=d
  ·rw[azE hi,azE hi]
   cases isRef<;>simp only[mkRef]
   ·simp only[XV]
    refine⟨aAF _,fun bn h1 _=>?_⟩;grind[eT,Ob.dg]
   ·simp only[XV]
    refine⟨aAF _,fun bn h1 _=>⟨ob'.kill (· == d),by simp[eT],by simp[Ob.dg]⟩⟩
  ·rw[azD hi,azD hi]
   have:=(R.t i).kill L;simp only[br.new,St.new,eu]at this;exact this
 ·have h':=h
  simp only[br.new,eu]at h;by_cases ho:o=d
  ·rw[azE ho]at h
   cases h
   subst ho;refine⟨by show ob.aU<xs.c+1;omega,ob'.kill (· == o),by simp[St.new,eT],cR.frame L⟩
  ·rw[azD ho]at h
   obtain⟨h1,bE,h2,h3⟩:=R.h o bn h;refine⟨by show bn.aU<xs.c+1;omega,bE.kill (· == d),by simp[St.new,eT,ho,h2],h3.frame L⟩
theorem RS.aoQ(o:Nat){ob:du}{ob':Ob}{Ix:du}{bA:Ob}(hx:xs.h o=some Ix)(hv:s.h o=some bA)(uI:ob.aU=Ix.aU)(hlen:ob'.rows.length=bA.rows.length)(cR:fT ⟨xs.c,xs.h,s.h⟩ ob ob')(d:Option Nat):
  RS ((xs.bQ o ob).put d .dead) ((s.bQ o ob').put d .dead):=by
 have L:LK (fun _=>false) ⟨xs.c,xs.h,s.h⟩ ⟨xs.c,(xs.bQ o ob).h,(s.bQ o ob').h⟩:=by
  refine⟨azJ _,fun p cN h1 h2=>⟨rfl,?_,fun bE h3=>?_⟩⟩
  ·simp only[br.bQ,eu]at h1
   grind
  ·simp only[St.bQ,gd]
   grind
 have R1:RS (xs.bQ o ob) (s.bQ o ob'):=by
  refine⟨fun i=>XV.frame L _ _ (R.t i),fun p bn h=>?_⟩;have h':=h;simp only[br.bQ,eu]at h;by_cases hp:p=o
  ·rw[azE hp]at h;cases h;subst hp
   refine⟨by show ob.aU<xs.c;rw[uI];exact(R.h p Ix hx).1,ob',by simp[St.bQ,gd],?_⟩;have:=cR.frame L;rw[Ob.bK]at this;exact this
  ·rw[azD hp]at h
   obtain⟨h1,bE,h2,h3⟩:=R.h p bn h;refine⟨h1,bE,by simp[St.bQ,gd,hp,h2],?_⟩;have:=h3.frame L;rw[Ob.bK]at this;exact this
 exact R1.Tn d (by grind[XV])
theorem RS.auS(o:Nat){ob:du}{ob':Ob}(uI:ob.aU=xs.c)(cR:fT ⟨xs.c,xs.h,s.h⟩ ob ob')(d:Option Nat):
  RS ((xs.app o ob).put d (.ref o xs.c)) ((s.bQ o ob').put d (.ref o ob'.rows.length)):=by
 have L:LK (fun _=>false) ⟨xs.c,xs.h,s.h⟩ ⟨xs.c+1,(xs.app o ob).h,(s.bQ o ob').h⟩:=by
  refine⟨aBk _,fun p cN h1 h2=>?_⟩;simp only[br.app,eu]at h1;by_cases hp:p=o
  ·grind
  ·rw[azD hp]at h1
   exact⟨rfl,⟨cN,h1,rfl⟩,fun bE h3=>⟨bE,by simp only[St.bQ,gd];rw[azD hp];exact h3,rfl⟩⟩
 have R1:RS (xs.app o ob) (s.bQ o ob'):=by
  refine⟨fun i=>XV.frame L _ _ (R.t i),fun p bn h=>?_⟩;have h':=h;simp only[br.app,eu]at h;by_cases hp:p=o
  ·rw[azE hp]at h;cases h;subst hp
   refine⟨by show ob.aU<xs.c+1;omega,ob',by simp[St.bQ,gd],?_⟩;have:=cR.frame L;rw[Ob.bK]at this;exact this
  ·rw[azD hp]at h
   obtain⟨h1,bE,h2,h3⟩:=R.h p bn h;refine⟨by show bn.aU<xs.c+1;omega,bE,by simp[St.bQ,gd,hp,h2],?_⟩;have:=h3.frame L;rw[Ob.bK]at this;exact this
 refine R1.Tn d ?_;simp only[XV];refine⟨aAF _,fun bn h1 _=>⟨ob',by simp[St.bQ,gd],rfl⟩⟩
theorem RS.YP(K:Nat→Bool):RS (xs.kill K) (s.kill K):=by
 have L:LK K ⟨xs.c,xs.h,s.h⟩ ⟨xs.c,(xs.kill K).h,(s.kill K).h⟩:=by
  refine⟨azJ _,fun p cN h1 h2=>?_⟩;grind[br.kill,Ob.dg,St.kill]
 refine⟨fun i=>(R.t i).kill L,fun p bn h=>?_⟩;have h':=h;simp only[br.kill]at h;cases hK:K p with
 | true=>grind
 | false=>
  rw[hK]at h;obtain⟨h1,bE,h2,h3⟩:=R.h p bn h;exact⟨h1,bE.kill K,by simp[St.kill,hK,h2],h3.frame L⟩
end
inductive RK where
 | v (t:Ty)
 | g (τ:List Ty)
 | o (ty es:Nat) (τ:List Ty)
def RK.T:RK→Type
 | .v t=>t.T
 | .g τ=>aA τ
 | .o _ _ τ=>List (aA τ)
def eC:List RK→Type
 | []=>Unit
 | k::ks=>jV k.T ks
where
 jV (A:Type):List RK→Type
 | []=>A
 | k::ks=>A×jV k.T ks
def tn:(k:RK)→k.T→RD→Prop
 | .v t,x,rd=>∃y,rd=.v y∧eM t x y
 | .g τ,x,rd=>∃row,rd=.v (.agg row)∧bW τ x row
 | .o ty es τ,l,rd=>∃rows,rd=.o ty es rows∧bD τ l rows
def df{A:Type}(f:A→RD→Prop):(ks:List RK)→eC.jV A ks→List RD→Prop
 | [],x,rds=>∃rd,rds=[rd]∧f x rd
 | k::ks,x,rds=>∃rd r,rds=rd::r∧f (Prod.fst x) rd∧df (tn k) ks (Prod.snd x) r
def cf:(ks:List RK)→eC ks→List RD→Prop
 | [],_,rds=>rds=[]
 | k::ks,x,rds=>df (tn k) ks x rds
def XB(c d:Nat):(k:RK)→k.T→X
 | .v t,x=>lH t x
 | .g τ,x=>.agg false (iF τ x)
 | .o _ _ _,_=>.ref d c
def afA(c:Nat):(k:RK)→k.T→Option du
 | .v _,_=>none
 | .g _,_=>none
 | .o ty es τ,l=>some (.t c ty es τ l)
def Ba{A:Type}(c d:Nat)(f:Nat→A→X):(ks:List RK)→eC.jV A ks→List X
 | [],x=>[f d x]
 | k::ks,x=>f d (Prod.fst x)::Ba c (d+1000) (fun d=>XB c d k) ks (Prod.snd x)
def Xz(c d:Nat):(ks:List RK)→eC ks→List X
 | [],_=>[]
 | k::ks,x=>Ba c d (fun d=>XB c d k) ks x
def ME{A:Type}(c:Nat)(f:A→Option du):(ks:List RK)→eC.jV A ks→List (Option du)
 | [],x=>[f x]
 | k::ks,x=>f (Prod.fst x)::ME c (afA c k) ks (Prod.snd x)
def D3(c:Nat):(ks:List RK)→eC ks→List (Option du)
 | [],_=>[]
 | k::ks,x=>ME c (afA c k) ks x
def PI:List X→X
 | [x]=>x
 | xs=>.kI xs
def BQ(h:Nat→Option du):Nat→List (Option du)→Nat→Option du
 | _,[]=>h
 | d,ob::bZ=>fun p=>bif Nat.beq p d then ob else BQ h (d+1000) bZ p
def br.call(s:br)(dst:Option Nat)(ks:List RK)(r:eC ks):br:=match dst with
 | some d=>⟨fun i=>bif Nat.beq i d then PI (Xz s.c d ks r)else s.t i,BQ s.h d (D3 s.c ks r),s.c+1⟩
 | none=>s
def aaK(H':jg)(d:Nat)(rds:List RD):Prop:=∀(k:Nat) (rd:RD) (ob:Ob),rds[k]? = some rd→rd.ob=some ob→H'.v (d+1000*k)=some ob
theorem iS{H:jg}:∀{cs:List X} {vs:List V} {j:Nat} {x:X} {v:V},aW H cs vs→XV H x v→aW H (cs.set j x) (vs.set j v)
 | [],vs,j,x,v,h,hx=>by grind[aW]
 | y::cs,vs,0,x,v,h,hx=>by
  grind[aW]
 | y::cs,vs,j+1,x,v,h,hx=>by
  simp only[aW]at h;obtain⟨u,r,rfl,h1,h2⟩:=h;simp only[List.set_cons_succ,aW];exact⟨u,r.set j v,rfl,h1,iS h2 hx⟩
theorem Xx{H':jg}{c d:Nat}(hc:c<H'.c)(k:RK)(x:k.T)(rd:RD)(h:tn k x rd)(ho:∀ob,rd.ob=some ob→H'.v d=some ob):XV H' (XB c d k x) (rd.val d):=by
 cases k with
 | v t=>
  obtain⟨y,rfl,hy⟩:=h;exact vg t x y hy
 | g τ=>
  obtain⟨row,rfl,hy⟩:=h;simp only[XB,RD.val,XV];exact⟨row,rfl,eo τ x row hy⟩
 | o ty es τ=>
  obtain⟨rows,rfl,hy⟩:=h;simp only[XB,RD.val,XV];exact⟨hc,fun bn _ _=>⟨_,ho _ rfl,rfl⟩⟩
theorem D0{H':jg}{A:Type}{c:Nat}(hc:c<H'.c){f:A→RD→Prop}{g:Nat→A→X}(hf:∀d x rd,f x rd→(∀ob,rd.ob=some ob→H'.v d=some ob)→XV H' (g d x) (rd.val d)):
  ∀(ks:List RK) (x:eC.jV A ks) (rds:List RD) (d:Nat),df f ks x rds→aaK H' d rds→aW H' (Ba c d g ks x) (cq d rds)
 | [],x,rds,d,h,ho=>by
  simp only[df]at h;obtain⟨rd,rfl,h1⟩:=h;simp only[Ba,cq,aW];exact⟨_,_,rfl,hf d x rd h1 (fun ob e=>by have:=ho 0 rd ob rfl e;simpa using this),rfl⟩
 | k::ks,x,rds,d,h,ho=>by
  simp only[df]at h;obtain⟨rd,r,rfl,h1,h2⟩:=h;simp only[Ba,cq,aW];refine⟨_,_,rfl,hf d _ rd h1 (fun ob e=>by have:=ho 0 rd ob rfl e;simpa using this),?_⟩;exact D0 hc (fun d x rd=>Xx hc k x rd) ks _ r (d+1000) h2 (fun k rd ob e e2=>by
   have:=ho (k+1) rd ob (by grind) e2
   grind)
theorem Xu{H':jg}{c d:Nat}(hc:c<H'.c)(ks:List RK)(x:eC ks)(rds:List RD)(h:cf ks x rds)(ho:aaK H' d rds):aW H' (Xz c d ks x) (cq d rds):=by
 cases ks with
 | nil=>grind[cf,Xz,cq,aW]
 | cons k ks=>
  simp only[cf]at h;exact D0 hc (fun d x rd=>Xx hc k x rd) ks x rds d h ho
theorem afJ{H':jg}{xs:List X}{vs:List V}(h:aW H' xs vs):XV H' (PI xs) (lh vs):=by
 match xs,h with
 | [],h=>simp only[aW]at h;subst h;simp only[PI,lh,XV];exact⟨[],rfl,by simp[aW]⟩
 | [x],h=>
  simp only[aW]at h;obtain⟨v,r,rfl,h1,rfl⟩:=h;exact h1
 | x::y::xs,h=>
  have h0:=h;simp only[aW]at h;obtain⟨v,r,rfl,h1,v2,r2,rfl,h2,h3⟩:=h;simp only[PI,lh,XV];exact⟨_,rfl,h0⟩
theorem Xy{c:Nat}(k:RK)(x:k.T)(rd:RD)(h:tn k x rd):(afA c k x=none∧rd.ob=none)∨∃ty es τ l rows,afA c k x=some (.t c ty es τ l)∧rd.ob=some ⟨ty,es,false,rows⟩∧bD τ l rows:=by
 cases k with
 | v t=>obtain⟨y,rfl,_⟩:=h;exact .inl ⟨rfl,rfl⟩
 | g τ=>obtain⟨y,rfl,_⟩:=h;exact .inl ⟨rfl,rfl⟩
 | o ty es τ=>obtain⟨rows,rfl,hy⟩:=h;exact .inr ⟨ty,es,τ,x,rows,rfl,rfl,hy⟩
def ObP(c:Nat)(a:Option du)(rd:RD):Prop:=(a=none∧rd.ob=none)∨∃ty es τ l rows,a=some (.t c ty es τ l)∧rd.ob=some ⟨ty,es,false,rows⟩∧bD τ l rows
theorem D1{A:Type}{c:Nat}{f:A→RD→Prop}{g:A→Option du}(hf:∀x rd,f x rd→ObP c (g x) rd):∀(ks:List RK) (x:eC.jV A ks) (rds:List RD),df f ks x rds→aJ (ObP c) (ME c g ks x) rds
 | [],x,rds,h=>by
  simp only[df]at h;obtain⟨rd,rfl,h1⟩:=h;exact⟨hf _ _ h1,trivial⟩
 | k::ks,x,rds,h=>by
  simp only[df]at h;obtain⟨rd,r,rfl,h1,h2⟩:=h;exact⟨hf _ _ h1,D1 (fun x rd=>Xy k x rd) ks _ r h2⟩
theorem Xv{c:Nat}(ks:List RK)(x:eC ks)(rds:List RD)(h:cf ks x rds):aJ (ObP c) (D3 c ks x) rds:=by
 cases ks with
 | nil=>simp only[cf]at h;subst h;trivial
 | cons k ks=>simp only[cf]at h;exact D1 (fun x rd=>Xy k x rd) ks x rds h
theorem wW(h:Nat→Option du):∀(bZ:List (Option du)) (d p:Nat),BQ h d bZ p=if bc d bZ.length p then(bZ[(p-d) / 1000]?).bind id else h p
 | [],d,p=>by
  have:bc d 0 p=false:=by
   grind[bc,dx]
  simp[BQ,this]
 | ob::bZ,d,p=>by
  simp only[BQ,eu];by_cases hp:p=d
  ·subst hp
   have:bc p (ob::bZ).length p=true:=by
    have:=(jS (d:=p) (k:=0) (m:=(ob::bZ).length) (by simp)).1;grind
   grind
  ·rw[azD hp,wW h bZ (d+1000) p]
   cases hk:bc (d+1000) bZ.length p with
   | true=>
    obtain⟨h1,h2⟩:=dx hk;have e1:p=d+1000*((p-(d+1000)) / 1000+1):=by omega
    have e2:=jS (d:=d) (k:=(p-(d+1000)) / 1000+1) (m:=(ob::bZ).length) (by simp;omega);rw[← e1]at e2;rw[e2.1];simp only[aAo];rw[e2.2];simp
   | false=>
    have:bc d (ob::bZ).length p=false:=by
     cases hk2:bc d (ob::bZ).length p with
     | false=>rfl
     | true=>
      obtain⟨h1,h2⟩:=dx hk2;simp only[azL]at h2;have h3:(p-d) / 1000 ≠ 0:=fun e=>hp (by grind)
      have e1:p=d+1000+1000*((p-d) / 1000-1):=by omega
      have e2:=jS (d:=d+1000) (k:=(p-d) / 1000-1) (m:=bZ.length) (by omega);grind
    grind
theorem RS.aao{xs:br}{s:St}(R:RS xs s)(dst:Option Nat)(ks:List RK)(r:eC ks)(rds:List RD)(h:cf ks r rds):RS (xs.call dst ks r) (s.call dst rds):=by
 cases dst with
 | none=>exact R
 | some d=>
  have aP:=Xv (c:=xs.c) ks r rds h;have hlen:=aP.len;have L:LK (bc d rds.length) ⟨xs.c,xs.h,s.h⟩ ⟨xs.c+1,BQ xs.h d (D3 xs.c ks r),ek s.h d rds⟩:=by
   refine⟨aBk _,fun o cN h1 h2=>?_⟩;simp only[wW,hlen]at h1;cases hk:bc d rds.length o with
   | true=>
    exfalso;rw[hk]at h1;simp only[aAo]at h1;cases hg:(D3 xs.c ks r)[(o-d) / 1000]? with
    | none=>grind
    | some a=>
     simp[hg]at h1;subst h1;obtain⟨rd,_,hr⟩:=aP.get _ _ hg;rcases hr with⟨hr,_⟩ | ⟨_,_,_,_,_,hr,_⟩
     all_goals grind[du.aU]
   | false=>
    rw[hk]at h1;simp only[aAE,aAd]at h1;refine⟨rfl,⟨cN,h1,rfl⟩,fun bE h3=>⟨bE.kill (bc d rds.length),?_,by rw[Ob.dg]⟩⟩;simp only[ek,hk,aAE,aAd];grind
  have iH:aaK ⟨xs.c+1,BQ xs.h d (D3 xs.c ks r),ek s.h d rds⟩ d rds:=by
   intro k rd ob hk cR;have bO:=(azR.1 hk).1;have e:=jS (d:=d) (k:=k) (m:=rds.length) bO;simp only[ek,e.1,aAo,e.2,gC,hk,aAC,cR]
  refine⟨fun i=>?_,fun o bn hx=>?_⟩
  ·simp only[br.call,St.call,eu]
   by_cases hi:i=d
   ·rw[azE hi,azE hi]
    exact afJ (Xu (aAF _) ks r rds h iH)
   ·rw[azD hi,azD hi]
    exact(R.t i).kill L
  ·have hx':=hx
   simp only[br.call,wW,hlen]at hx;cases hk:bc d rds.length o with
   | true=>
    rw[hk]at hx;simp only[aAo]at hx;cases hg:(D3 xs.c ks r)[(o-d) / 1000]? with
    | none=>grind
    | some a=>
     simp[hg]at hx;subst hx;obtain⟨rd,Ze,hr⟩:=aP.get _ _ hg;rcases hr with⟨hr,_⟩ | ⟨ty,es,τ,l,rows,hr,cR,bF⟩
     ·cases hr
     ·cases hr
      refine⟨aAF _,⟨ty,es,false,rows⟩,?_,rfl,rfl,rfl,bF⟩;simp only[St.call,ek,hk,aAo,gC,Ze,aAC,cR]
   | false=>
    rw[hk]at hx;simp only[aAE,aAd]at hx;obtain⟨h1,bE,h2,h3⟩:=R.h o bn hx;refine⟨by show bn.aU<xs.c+1;omega,bE.kill (bc d rds.length),?_,h3.frame L⟩;simp only[St.call,ek,hk,aAE,aAd];rw[h2];rfl
end Go.AL
namespace Go.AL
structure aiQ (T:List (Nat×Nat)) (v:Nat):Prop where
 l:(T.map (·.1)).Nodup
 r:(T.map (·.2)).Nodup
 v:v∉T.map (·.2)
section
variable {T:List (Nat×Nat)} {v:Nat} (H:aiQ T v)
include H
variable {E:Env}
end
section
variable {w0 w:World} {I:rM} {A0 A:Nat→Prop} {n:Nat} {s:St} {a:Act} {β:Nat→Option Nat} {T:List (Nat×Nat)} {v:Nat}
end
end Go.AL
namespace Go.AL
def M6(a:Nat):List Nat→Bool
 | []=>false
 | b::l=>Nat.beq a b || M6 a l
def sT:List Nat→Bool
 | []=>true
 | a::l=>!M6 a l&&sT l
theorem oG{a:Nat}:∀{l:List Nat},M6 a l=true↔a∈l
 | []=>by simp[M6]
 | b::l=>by
  simp only[M6,aA8,azW,oG (l:=l)];simp_all
theorem lu:∀{l:List Nat},sT l=true→l.Nodup
 | [],_=>List.nodup_nil
 | a::l,h=>by
  simp only[sT,azF,aAi]at h;refine aBf.2 ⟨fun hm=>?_,lu h.2⟩;rw[oG.2 hm]at h;cases h.1
theorem aS{α:Type}{b:Bool}{x:Option α}{y:α}(h:(bif b then x else none)=some y):b=true∧x=some y:=by
 grind
section
variable {T:List (Nat×Nat)} {v:Nat} (K:aiQ T v)
include K
end
section
variable {xs:br} {s:St} (R:RS xs s)
include R
end
def kh(P:Program)(s:br):List ResultVar→Option (List X)
 | []=>some []
 | .tmp t::r=>match kh P s r with
  | some l=>some (s.ev (.tmp t)::l)
  | none=>none
 | .cell p ty::r=>if 0<aq P ty then(match Pg P s.h ty (s.ev (.tmp p))with
  | .val c x=>bif c then(match kh P s r with
   | some l=>some (x::l)
   | none=>none)else none
  | _=>none)else none
section
variable {xs:br} {s:St}
theorem jC{P:Program}(R:RS xs s):∀(rs:List ResultVar) (l:List X),kh P xs rs=some l→∀(K:List V→Prop),(∀vs,aW ⟨xs.c,xs.h,s.h⟩ l vs→K vs)→wY P s rs K
 | [],l,h,K,hK=>by cases h;exact hK [] (by simp[aW])
 | .tmp t::r,l,h,K,hK=>by
  simp only[kh]at h
  split at h<;>try trivial
  rename_i l' hl;cases h;exact jC R r l' hl _ (fun vs tL=>hK _ (by simp only[aW];exact⟨_,_,rfl,R.ev (.tmp t),tL⟩))
 | .cell p ty::r,l,h,K,hK=>by
  simp only[kh]at h
  split at h<;>try trivial
  rename_i dO
  split at h<;>try trivial
  rename_i c x hx;obtain⟨hc,h⟩:=aS h
  split at h<;>try trivial
  rename_i l' hl;cases h;have hrel:=DG (P:=P) (H:=⟨xs.c,xs.h,s.h⟩) R.h ty (R.ev (.tmp p));simp only at hrel;rw[hx]at hrel;obtain⟨q,v,e1,e2,e3⟩:=hrel hc;refine⟨dO,?_⟩;rw[e1];exact⟨e2,jC R r l' hl _ (fun vs tL=>hK _ (by grind[aW]))⟩
end
end Go.AL
