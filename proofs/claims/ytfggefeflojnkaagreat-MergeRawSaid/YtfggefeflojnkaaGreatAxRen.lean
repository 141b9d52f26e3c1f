/- By an AI agent. -/
import Derived.Test.YtfggefeflojnkaaGreatAxSim
set_option linter.unusedSimpArgs false
namespace Go.AL
def dy.mJ(v:Nat):dy→dy
 | .t _ ty es τ l=>.t v ty es τ l
 | .u _ ty es imp rows=>.u v ty es imp rows
def bF.put(s:bF)(d:Option Nat)(x:X):bF:=match d with
 | some d=>⟨fun i=>bif Nat.beq i d then x else s.t i,s.h,s.c⟩
 | none=>s
def bF.new(s:bF)(d:Nat)(ob:dy)(x:X):bF:=⟨fun i=>bif Nat.beq i d then x else s.t i,fun p=>bif Nat.beq p d then some ob else s.h p,s.c+1⟩
def bF.ca(s:bF)(o:Nat)(ob:dy):bF:=⟨s.t,fun p=>bif Nat.beq p o then some ob else s.h p,s.c⟩
def bF.app(s:bF)(o:Nat)(ob:dy):bF:=⟨s.t,fun p=>bif Nat.beq p o then some ob else s.h p,s.c+1⟩
def mkRef(r:Bool)(d c:Nat):X:=match r with
 | true=>.ref d c
 | false=>.ptr d c 0 0
def bF.kill(K:Nat→Bool)(s:bF):bF:=⟨s.t,fun p=>bif K p then none else s.h p,s.c⟩
theorem eG{α:Type}(a b:Nat)(x y:α):(bif Nat.beq a b then x else y)=if a=b then x else y:=by
 by_cases h:a=b
 ·subst h;simp[aD7]
 ·have:Nat.beq a b=false:=by
   cases hb:Nat.beq a b with
   | false=>rfl
   | true=>exact absurd (aCI hb) h
  simp[this,h]
section
variable {xs:bF} {s:St} (R:RS xs s)
include R
theorem RS.Ug(d:Option Nat){x:X}{v:V}(hv:XV ⟨xs.c,xs.h,s.h⟩ x v):RS (xs.put d x) (s.put d v):=by
 cases d with
 | none=>exact R
 | some d=>
  refine⟨fun i=>?_,R.h⟩;simp only[bF.put,St.put,eG]
  split
  ·exact hv
  ·exact R.t i
omit R in
theorem fV.frame{K:Nat→Bool}{H H':jR}(L:LX K H H'){bD:dy}{ob:Ob}(h:fV H bD ob):fV H' bD (ob.kill K):=by
 cases bD with
 | t bf ty es τ l=>
  obtain⟨h1,h2,h3,h4⟩:=h;have:ob.kill K=ob:=by simp[Ob.kill,h3]
  rw[this];exact⟨h1,h2,h3,h4⟩
 | u bf ty es imp rows=>
  obtain⟨h1,h2,h3,h4⟩:=h;refine⟨by rw[Ob.gP];exact h1,by rw[Ob.eQ];exact h2,by rw[Ob.uL];exact h3,?_⟩;unfold Ob.kill
  split
  ·have:∀{a:List (List X)} {b:List (List V)},aP (bj H) a b→aP (bj H') a (b.map (·.map (V.bI K))):=by
    intro a;induction a with
    | nil=>intro b h;cases b with
     | nil=>trivial
     | cons _ _=>exact h.elim
    | cons x a ih=>intro b h;cases b with
     | nil=>exact h.elim
     | cons y b=>exact⟨bj.bI L _ _ h.1,ih h.2⟩
   exact this h4
  ·exact aP.mono (fun a b h=>bj.frame L a b h) h4
theorem RS.asg(d:Nat){ob:dy}{ob':Ob}(isRef:Bool)(uR:ob.bf=xs.c)(cA:fV ⟨xs.c,xs.h,s.h⟩ ob ob')(h0:isRef=false→0<ob'.rows.length):
  RS (xs.new d ob (mkRef isRef d xs.c)) (s.new d ob' (if isRef then .ref d ob'.rows.length else .ptr d ob'.rows.length 0 0)):=by
 have L:LX (· == d) ⟨xs.c,xs.h,s.h⟩ ⟨xs.c+1,(xs.new d ob (mkRef isRef d xs.c)).h,(s.new d ob' (if isRef then .ref d ob'.rows.length else .ptr d ob'.rows.length 0 0)).h⟩:=by
  refine⟨aEb _,fun o cS h1 h2=>?_⟩;simp only[bF.new,eG]at h1;by_cases hd:o=d
  ·rw[aCr hd]at h1;cases h1;simp only at h2;omega
  ·rw[aCo hd]at h1
   refine⟨by simpa using hd,⟨cS,h1,rfl⟩,fun bM h3=>⟨bM.kill (· == d),?_,by rw[Ob.dm]⟩⟩;simp only[St.new,eS,aCo hd];have:s.h o=some bM:=h3;rw[this];rfl
 refine⟨fun i=>?_,fun o bD h=>?_⟩
 ·simp only[bF.new,St.new,eG]
  by_cases hi:i=d
  ·rw[aCr hi,aCr hi]
   cases isRef<;>simp only[mkRef]
   ·simp only[XV]
    refine⟨aDG _,fun bD h1 _=>?_⟩;simp at h1;exact⟨ob'.kill (· == d),by simp[eS],by rw[Ob.dm];exact h0 rfl,by simp[Ob.dm]⟩
   ·simp only[XV]
    refine⟨aDG _,fun bD h1 _=>⟨ob'.kill (· == d),by simp[eS],by simp[Ob.dm]⟩⟩
  ·rw[aCo hi,aCo hi]
   have:=(R.t i).kill L;simp only[bF.new,St.new,eG]at this;exact this
 ·have h':=h
  simp only[bF.new,eG]at h;by_cases ho:o=d
  ·rw[aCr ho]at h
   cases h
   subst ho;refine⟨by show ob.bf<xs.c+1;omega,ob'.kill (· == o),by simp[St.new,eS],cA.frame L⟩
  ·rw[aCo ho]at h
   obtain⟨h1,bM,h2,h3⟩:=R.h o bD h;refine⟨by show bD.bf<xs.c+1;omega,bM.kill (· == d),by simp[St.new,eS,ho,h2],h3.frame L⟩
theorem RS.arS(o:Nat){ob:dy}{ob':Ob}{IY:dy}{bG:Ob}(hx:xs.h o=some IY)(hv:s.h o=some bG)(uR:ob.bf=IY.bf)(hlen:ob'.rows.length=bG.rows.length)(cA:fV ⟨xs.c,xs.h,s.h⟩ ob ob')(d:Option Nat):
  RS ((xs.ca o ob).put d .dead) ((s.ca o ob').put d .dead):=by
 have L:LX (fun _=>false) ⟨xs.c,xs.h,s.h⟩ ⟨xs.c,(xs.ca o ob).h,(s.ca o ob').h⟩:=by
  refine⟨aCt _,fun p cS h1 h2=>⟨rfl,?_,fun bM h3=>?_⟩⟩
  ·simp only[bF.ca,eG]at h1
   by_cases hp:p=o
   ·rw[aCr hp]at h1;cases h1;subst hp;exact⟨IY,hx,uR.symm⟩
   ·rw[aCo hp]at h1;exact⟨cS,h1,rfl⟩
  ·simp only[St.ca,gi]
   by_cases hp:p=o
   ·rw[aCr hp];subst hp;simp only at h3;rw[hv]at h3;cases h3;exact⟨ob',rfl,hlen⟩
   ·rw[aCo hp];exact⟨bM,h3,rfl⟩
 have R1:RS (xs.ca o ob) (s.ca o ob'):=by
  refine⟨fun i=>XV.frame L _ _ (R.t i),fun p bD h=>?_⟩;have h':=h;simp only[bF.ca,eG]at h;by_cases hp:p=o
  ·rw[aCr hp]at h;cases h;subst hp
   refine⟨by show ob.bf<xs.c;rw[uR];exact(R.h p IY hx).1,ob',by simp[St.ca,gi],?_⟩;have:=cA.frame L;rw[Ob.bV]at this;exact this
  ·rw[aCo hp]at h
   obtain⟨h1,bM,h2,h3⟩:=R.h p bD h;refine⟨h1,bM,by simp[St.ca,gi,hp,h2],?_⟩;have:=h3.frame L;rw[Ob.bV]at this;exact this
 exact R1.Ug d (by simp only[XV])
theorem RS.axh(o:Nat){ob:dy}{ob':Ob}(uR:ob.bf=xs.c)(cA:fV ⟨xs.c,xs.h,s.h⟩ ob ob')(d:Option Nat):
  RS ((xs.app o ob).put d (.ref o xs.c)) ((s.ca o ob').put d (.ref o ob'.rows.length)):=by
 have L:LX (fun _=>false) ⟨xs.c,xs.h,s.h⟩ ⟨xs.c+1,(xs.app o ob).h,(s.ca o ob').h⟩:=by
  refine⟨aEb _,fun p cS h1 h2=>?_⟩;simp only[bF.app,eG]at h1;by_cases hp:p=o
  ·rw[aCr hp]at h1;cases h1;simp only at h2;omega
  ·rw[aCo hp]at h1
   exact⟨rfl,⟨cS,h1,rfl⟩,fun bM h3=>⟨bM,by simp only[St.ca,gi];rw[aCo hp];exact h3,rfl⟩⟩
 have R1:RS (xs.app o ob) (s.ca o ob'):=by
  refine⟨fun i=>XV.frame L _ _ (R.t i),fun p bD h=>?_⟩;have h':=h;simp only[bF.app,eG]at h;by_cases hp:p=o
  ·rw[aCr hp]at h;cases h;subst hp
   refine⟨by show ob.bf<xs.c+1;omega,ob',by simp[St.ca,gi],?_⟩;have:=cA.frame L;rw[Ob.bV]at this;exact this
  ·rw[aCo hp]at h
   obtain⟨h1,bM,h2,h3⟩:=R.h p bD h;refine⟨by show bD.bf<xs.c+1;omega,bM,by simp[St.ca,gi,hp,h2],?_⟩;have:=h3.frame L;rw[Ob.bV]at this;exact this
 refine R1.Ug d ?_;simp only[XV];refine⟨aDG _,fun bD h1 _=>⟨ob',by simp[St.ca,gi],rfl⟩⟩
theorem RS.aan(K:Nat→Bool):RS (xs.kill K) (s.kill K):=by
 have L:LX K ⟨xs.c,xs.h,s.h⟩ ⟨xs.c,(xs.kill K).h,(s.kill K).h⟩:=by
  refine⟨aCt _,fun p cS h1 h2=>?_⟩;simp only[bF.kill]at h1;cases hK:K p with
  | true=>rw[hK]at h1;cases h1
  | false=>
   rw[hK]at h1;refine⟨rfl,⟨cS,h1,rfl⟩,fun bM h3=>⟨bM.kill K,?_,by rw[Ob.dm]⟩⟩;simp only[St.kill,hK];simp only at h3;rw[h3];rfl
 refine⟨fun i=>(R.t i).kill L,fun p bD h=>?_⟩;have h':=h;simp only[bF.kill]at h;cases hK:K p with
 | true=>rw[hK]at h;cases h
 | false=>
  rw[hK]at h;obtain⟨h1,bM,h2,h3⟩:=R.h p bD h;exact⟨h1,bM.kill K,by simp[St.kill,hK,h2],h3.frame L⟩
end
inductive RK where
 | v (t:Ty)
 | g (τ:List Ty)
 | o (ty es:Nat) (τ:List Ty)
 | a (ty es j:Nat) (τ:List Ty)
def RK.T:RK→Type
 | .v t=>t.T
 | .g τ=>az τ
 | .o _ _ τ=>List (az τ)
 | .a _ _ _ τ=>az τ
def aA:List RK→Type
 | []=>Unit
 | k::ks=>jE k.T ks
where
 jE (A:Type):List RK→Type
 | []=>A
 | k::ks=>A×jE k.T ks
def sQ:(k:RK)→k.T→RD→Prop
 | .v t,x,rd=>∃y,rd=.v y∧fk t x y
 | .g τ,x,rd=>∃row,rd=.v (.agg row)∧cD τ x row
 | .o ty es τ,l,rd=>∃rows,rd=.o ty es rows∧bK τ l rows
 | .a ty es j τ,x,rd=>∃pre rows post,rd=.a ty es rows pre post∧pre.length=j∧cD τ x (pre++.sl rows::post)
def dg{A:Type}(f:A→RD→Prop):(ks:List RK)→aA.jE A ks→List RD→Prop
 | [],x,rds=>∃rd,rds=[rd]∧f x rd
 | k::ks,x,rds=>∃rd r,rds=rd::r∧f (Prod.fst x) rd∧dg (sQ k) ks (Prod.snd x) r
def cw:(ks:List RK)→aA ks→List RD→Prop
 | [],_,rds=>rds=[]
 | k::ks,x,rds=>dg (sQ k) ks x rds
def T7(c d:Nat):(k:RK)→k.T→X
 | .v t,x=>lP t x
 | .g τ,x=>.agg false (iw τ x)
 | .o _ _ _,_=>.ref d c
 | .a _ _ j τ,x=>.agg true ((iw τ x).set j (.ref d c))
def Zt(c:Nat):(k:RK)→k.T→Option dy
 | .v _,_=>none
 | .g _,_=>none
 | .o ty es τ,l=>some (.t c ty es τ l)
 | .a ty es j τ,x=>match(iw τ x)[j]? with
  | some (.sl σ l)=>some (.t c ty es σ l)
  | _=>none
def AF{A:Type}(c d:Nat)(f:Nat→A→X):(ks:List RK)→aA.jE A ks→List X
 | [],x=>[f d x]
 | k::ks,x=>f d (Prod.fst x)::AF c (d+1000) (fun d=>T7 c d k) ks (Prod.snd x)
def Zp(c d:Nat):(ks:List RK)→aA ks→List X
 | [],_=>[]
 | k::ks,x=>AF c d (fun d=>T7 c d k) ks x
def M7{A:Type}(c:Nat)(f:A→Option dy):(ks:List RK)→aA.jE A ks→List (Option dy)
 | [],x=>[f x]
 | k::ks,x=>f (Prod.fst x)::M7 c (Zt c k) ks (Prod.snd x)
def Dz(c:Nat):(ks:List RK)→aA ks→List (Option dy)
 | [],_=>[]
 | k::ks,x=>M7 c (Zt c k) ks x
def QI:List X→X
 | [x]=>x
 | xs=>.kQ xs
def Bl(h:Nat→Option dy):Nat→List (Option dy)→Nat→Option dy
 | _,[]=>h
 | d,ob::cq=>fun p=>bif Nat.beq p d then ob else Bl h (d+1000) cq p
def bF.call(s:bF)(dst:Option Nat)(ks:List RK)(r:aA ks):bF:=match dst with
 | some d=>⟨fun i=>bif Nat.beq i d then QI (Zp s.c d ks r)else s.t i,Bl s.h d (Dz s.c ks r),s.c+1⟩
 | none=>s
def acs(H':jR)(d:Nat)(rds:List RD):Prop:=∀(k:Nat) (rd:RD) (ob:Ob),rds[k]? = some rd→rd.ob=some ob→H'.v (d+1000*k)=some ob
theorem uf{H:jR}:∀{cs:List X} {vs:List V} {j:Nat} {x:X} {v:V},bj H cs vs→XV H x v→bj H (cs.set j x) (vs.set j v)
 | [],vs,j,x,v,h,hx=>by simp only[bj]at h;subst h;simp only[List.set_nil,bj]
 | y::cs,vs,0,x,v,h,hx=>by
  simp only[bj]at h;obtain⟨u,r,rfl,h1,h2⟩:=h;simp only[aCR,bj];exact⟨v,r,rfl,hx,h2⟩
 | y::cs,vs,j+1,x,v,h,hx=>by
  simp only[bj]at h;obtain⟨u,r,rfl,h1,h2⟩:=h;simp only[aCS,bj];exact⟨u,r.set j v,rfl,h1,uf h2 hx⟩
theorem Ql:∀(t:Ty) (x:t.T) (rows:List (List V)),fk t x (.sl rows)→∃σ l,lP t x=.sl σ l∧bK σ l rows
 | .int k,x,rows,h=>by simp only[fk]at h;cases h
 | .bool,x,rows,h=>by simp only[fk]at h;cases h
 | .str,x,rows,h=>by simp only[fk]at h;cases h
 | .sl σ,x,rows,h=>by
  simp only[fk]at h;rcases h with⟨_,h⟩ | ⟨bE,h,hr⟩
  ·cases h
  ·cases h;exact⟨σ,x,rfl,hr⟩
theorem Dr{A:Type}:∀(τ:List Ty) (f:A→X) (R:A→V→Prop),(∀x rows,R x (.sl rows)→∃σ l,f x=.sl σ l∧bK σ l rows)→∀(x:cN A τ) (row:List V) (j:Nat) (rows:List (List V)),dz R τ x row→row[j]? = some (.sl rows)→
  ∃σ l,(lb f τ x)[j]? = some (.sl σ l)∧bK σ l rows
 | [],f,R,hf,x,row,j,rows,h,hj=>by
  simp only[dz]at h;obtain⟨v,rfl,hv⟩:=h;cases j with
  | zero=>
   simp at hj;subst hj;obtain⟨σ,l,h1,h2⟩:=hf _ _ hv;exact⟨σ,l,by simp only[lb];rw[h1];rfl,h2⟩
  | succ j=>simp at hj
 | t::ts,f,R,hf,x,row,j,rows,h,hj=>by
  simp only[dz]at h;obtain⟨v,r,rfl,hv,hr⟩:=h;cases j with
  | zero=>
   simp at hj;subst hj;obtain⟨σ,l,h1,h2⟩:=hf _ _ hv;exact⟨σ,l,by simp only[lb];rw[h1];rfl,h2⟩
  | succ j=>
   obtain⟨σ,l,h1,h2⟩:=Dr ts (lP t) (fk t) (Ql t) _ r j rows hr (by simpa using hj);exact⟨σ,l,by simp only[lb];simpa using h1,h2⟩
theorem YY(τ:List Ty)(x:az τ)(row:List V)(j:Nat)(rows:List (List V))(h:cD τ x row)(hj:row[j]? = some (.sl rows)):∃σ l,(iw τ x)[j]? = some (.sl σ l)∧bK σ l rows:=by
 cases τ with
 | nil=>simp only[cD]at h;subst h;simp at hj
 | cons t ts=>
  simp only[cD]at h;exact Dr ts (lP t) (fk t) (Ql t) x row j rows h hj
theorem Zn{H':jR}{c d:Nat}(hc:c<H'.c)(k:RK)(x:k.T)(rd:RD)(h:sQ k x rd)(ho:∀ob,rd.ob=some ob→H'.v d=some ob):XV H' (T7 c d k x) (rd.val d):=by
 cases k with
 | v t=>
  obtain⟨y,rfl,hy⟩:=h;exact vq t x y hy
 | g τ=>
  obtain⟨row,rfl,hy⟩:=h;simp only[T7,RD.val,XV];exact⟨row,rfl,eO τ x row hy⟩
 | o ty es τ=>
  obtain⟨rows,rfl,hy⟩:=h;simp only[T7,RD.val,XV];exact⟨hc,fun bD _ _=>⟨_,ho _ rfl,rfl⟩⟩
 | a ty es j τ=>
  obtain⟨pre,rows,post,rfl,hl,hy⟩:=h;simp only[T7,RD.val,XV];refine⟨_,rfl,?_⟩;have h2:=uf (j:=j) (eO (H:=H') τ x _ hy) (x:=.ref d c) (v:=.ref d rows.length) (by simp only[XV];exact⟨hc,fun bD _ _=>⟨_,ho _ rfl,rfl⟩⟩);subst hl;simpa using h2
theorem Dw{H':jR}{A:Type}{c:Nat}(hc:c<H'.c){f:A→RD→Prop}{g:Nat→A→X}(hf:∀d x rd,f x rd→(∀ob,rd.ob=some ob→H'.v d=some ob)→XV H' (g d x) (rd.val d)):
  ∀(ks:List RK) (x:aA.jE A ks) (rds:List RD) (d:Nat),dg f ks x rds→acs H' d rds→bj H' (AF c d g ks x) (cG d rds)
 | [],x,rds,d,h,ho=>by
  simp only[dg]at h;obtain⟨rd,rfl,h1⟩:=h;simp only[AF,cG,bj];exact⟨_,_,rfl,hf d x rd h1 (fun ob e=>by have:=ho 0 rd ob rfl e;simpa using this),rfl⟩
 | k::ks,x,rds,d,h,ho=>by
  simp only[dg]at h;obtain⟨rd,r,rfl,h1,h2⟩:=h;simp only[AF,cG,bj];refine⟨_,_,rfl,hf d _ rd h1 (fun ob e=>by have:=ho 0 rd ob rfl e;simpa using this),?_⟩;exact Dw hc (fun d x rd=>Zn hc k x rd) ks _ r (d+1000) h2 (fun k rd ob e e2=>by
   have:=ho (k+1) rd ob (by simpa using e) e2
   rwa [show d+1000*(k+1)=d+1000+1000*k from by omega]at this)
theorem Zk{H':jR}{c d:Nat}(hc:c<H'.c)(ks:List RK)(x:aA ks)(rds:List RD)(h:cw ks x rds)(ho:acs H' d rds):bj H' (Zp c d ks x) (cG d rds):=by
 cases ks with
 | nil=>simp only[cw]at h;subst h;simp[Zp,cG,bj]
 | cons k ks=>
  simp only[cw]at h;exact Dw hc (fun d x rd=>Zn hc k x rd) ks x rds d h ho
theorem ahI{H':jR}{xs:List X}{vs:List V}(h:bj H' xs vs):XV H' (QI xs) (lB vs):=by
 match xs,h with
 | [],h=>simp only[bj]at h;subst h;simp only[QI,lB,XV];exact⟨[],rfl,by simp[bj]⟩
 | [x],h=>
  simp only[bj]at h;obtain⟨v,r,rfl,h1,rfl⟩:=h;exact h1
 | x::y::xs,h=>
  have h0:=h;simp only[bj]at h;obtain⟨v,r,rfl,h1,v2,r2,rfl,h2,h3⟩:=h;simp only[QI,lB,XV];exact⟨_,rfl,h0⟩
theorem Zo{c:Nat}(k:RK)(x:k.T)(rd:RD)(h:sQ k x rd):(Zt c k x=none∧rd.ob=none)∨∃ty es τ l rows,Zt c k x=some (.t c ty es τ l)∧rd.ob=some ⟨ty,es,false,rows⟩∧bK τ l rows:=by
 cases k with
 | v t=>obtain⟨y,rfl,_⟩:=h;exact .inl ⟨rfl,rfl⟩
 | g τ=>obtain⟨y,rfl,_⟩:=h;exact .inl ⟨rfl,rfl⟩
 | o ty es τ=>obtain⟨rows,rfl,hy⟩:=h;exact .inr ⟨ty,es,τ,x,rows,rfl,rfl,hy⟩
 | a ty es j τ=>
  obtain⟨pre,rows,post,rfl,hl,hy⟩:=h;obtain⟨σ,l,h1,h2⟩:=YY τ x _ j rows hy (by rw[← hl];simp);exact .inr ⟨ty,es,σ,l,rows,by simp only[Zt,h1],rfl,h2⟩
def ObP(c:Nat)(a:Option dy)(rd:RD):Prop:=(a=none∧rd.ob=none)∨∃ty es τ l rows,a=some (.t c ty es τ l)∧rd.ob=some ⟨ty,es,false,rows⟩∧bK τ l rows
theorem Dx{A:Type}{c:Nat}{f:A→RD→Prop}{g:A→Option dy}(hf:∀x rd,f x rd→ObP c (g x) rd):∀(ks:List RK) (x:aA.jE A ks) (rds:List RD),dg f ks x rds→aP (ObP c) (M7 c g ks x) rds
 | [],x,rds,h=>by
  simp only[dg]at h;obtain⟨rd,rfl,h1⟩:=h;exact⟨hf _ _ h1,trivial⟩
 | k::ks,x,rds,h=>by
  simp only[dg]at h;obtain⟨rd,r,rfl,h1,h2⟩:=h;exact⟨hf _ _ h1,Dx (fun x rd=>Zo k x rd) ks _ r h2⟩
theorem Zl{c:Nat}(ks:List RK)(x:aA ks)(rds:List RD)(h:cw ks x rds):aP (ObP c) (Dz c ks x) rds:=by
 cases ks with
 | nil=>simp only[cw]at h;subst h;trivial
 | cons k ks=>simp only[cw]at h;exact Dx (fun x rd=>Zo k x rd) ks x rds h
theorem xk(h:Nat→Option dy):∀(cq:List (Option dy)) (d p:Nat),Bl h d cq p=if bq d cq.length p then(cq[(p-d) / 1000]?).bind id else h p
 | [],d,p=>by
  have:bq d 0 p=false:=by
   cases hk:bq d 0 p with
   | false=>rfl
   | true=>have:=(dw hk).2;omega
  simp[Bl,this]
 | ob::cq,d,p=>by
  simp only[Bl,eG];by_cases hp:p=d
  ·subst hp
   have:bq p (ob::cq).length p=true:=by
    have:=(ib (d:=p) (k:=0) (m:=(ob::cq).length) (by simp)).1;simpa using this
   rw[aCr rfl,aCr this];simp
  ·rw[aCo hp,xk h cq (d+1000) p]
   cases hk:bq (d+1000) cq.length p with
   | true=>
    obtain⟨h1,h2⟩:=dw hk;have e1:p=d+1000*((p-(d+1000)) / 1000+1):=by omega
    have e2:=ib (d:=d) (k:=(p-(d+1000)) / 1000+1) (m:=(ob::cq).length) (by simp;omega);rw[← e1]at e2;rw[e2.1];simp only[aC5];rw[e2.2];simp
   | false=>
    have:bq d (ob::cq).length p=false:=by
     cases KA:bq d (ob::cq).length p with
     | false=>rfl
     | true=>
      obtain⟨h1,h2⟩:=dw KA;simp only[aCv]at h2;have h3:(p-d) / 1000 ≠ 0:=fun e=>hp (by rw[e]at h1;omega)
      have e1:p=d+1000+1000*((p-d) / 1000-1):=by omega
      have e2:=ib (d:=d+1000) (k:=(p-d) / 1000-1) (m:=cq.length) (by omega);rw[← e1,hk]at e2;exact absurd e2.1 (by simp)
    rw[this];simp
theorem RS.aca{xs:bF}{s:St}(R:RS xs s)(dst:Option Nat)(ks:List RK)(r:aA ks)(rds:List RD)(h:cw ks r rds):RS (xs.call dst ks r) (s.call dst rds):=by
 cases dst with
 | none=>exact R
 | some d=>
  have aZ:=Zl (c:=xs.c) ks r rds h;have hlen:=aZ.len;have L:LX (bq d rds.length) ⟨xs.c,xs.h,s.h⟩ ⟨xs.c+1,Bl xs.h d (Dz xs.c ks r),ek s.h d rds⟩:=by
   refine⟨aEb _,fun o cS h1 h2=>?_⟩;simp only[xk,hlen]at h1;cases hk:bq d rds.length o with
   | true=>
    exfalso;rw[hk]at h1;simp only[aC5]at h1;cases hg:(Dz xs.c ks r)[(o-d) / 1000]? with
    | none=>simp[hg]at h1
    | some a=>
     simp[hg]at h1;subst h1;obtain⟨rd,_,hr⟩:=aZ.get _ _ hg;rcases hr with⟨hr,_⟩ | ⟨_,_,_,_,_,hr,_⟩
     ·cases hr
     ·cases hr;simp only[dy.bf]at h2;omega
   | false=>
    rw[hk]at h1;simp only[aDt,aC4]at h1;refine⟨rfl,⟨cS,h1,rfl⟩,fun bM h3=>⟨bM.kill (bq d rds.length),?_,by rw[Ob.dm]⟩⟩;simp only[ek,hk,aDt,aC4];simp only at h3;rw[h3];rfl
  have iz:acs ⟨xs.c+1,Bl xs.h d (Dz xs.c ks r),ek s.h d rds⟩ d rds:=by
   intro k rd ob hk cA;have cg:=(aCD.1 hk).1;have e:=ib (d:=d) (k:=k) (m:=rds.length) cg;simp only[ek,e.1,aC5,e.2,fC,hk,aDd,cA]
  refine⟨fun i=>?_,fun o bD hx=>?_⟩
  ·simp only[bF.call,St.call,eG]
   by_cases hi:i=d
   ·rw[aCr hi,aCr hi]
    exact ahI (Zk (aDG _) ks r rds h iz)
   ·rw[aCo hi,aCo hi]
    exact(R.t i).kill L
  ·have sG:=hx
   simp only[bF.call,xk,hlen]at hx;cases hk:bq d rds.length o with
   | true=>
    rw[hk]at hx;simp only[aC5]at hx;cases hg:(Dz xs.c ks r)[(o-d) / 1000]? with
    | none=>simp[hg]at hx
    | some a=>
     simp[hg]at hx;subst hx;obtain⟨rd,hrd,hr⟩:=aZ.get _ _ hg;rcases hr with⟨hr,_⟩ | ⟨ty,es,τ,l,rows,hr,cA,bS⟩
     ·cases hr
     ·cases hr
      refine⟨aDG _,⟨ty,es,false,rows⟩,?_,rfl,rfl,rfl,bS⟩;simp only[St.call,ek,hk,aC5,fC,hrd,aDd,cA]
   | false=>
    rw[hk]at hx;simp only[aDt,aC4]at hx;obtain⟨h1,bM,h2,h3⟩:=R.h o bD hx;refine⟨by show bD.bf<xs.c+1;omega,bM.kill (bq d rds.length),?_,h3.frame L⟩;simp only[St.call,ek,hk,aDt,aC4];rw[h2];rfl
end Go.AL
namespace Go.AL
structure alw (T:List (Nat×Nat)) (v:Nat):Prop where
 l:(T.map (·.1)).Nodup
 r:(T.map (·.2)).Nodup
 v:v∉T.map (·.2)
section
variable {T:List (Nat×Nat)} {v:Nat} (H:alw T v)
include H
variable {E:Env}
end
section
variable {w0 w:World} {I:sy} {A0 A:Nat→Prop} {n:Nat} {s:St} {a:Act} {β:Nat→Option Nat} {T:List (Nat×Nat)} {v:Nat}
end
end Go.AL
namespace Go.AL
def Nu(a:Nat):List Nat→Bool
 | []=>false
 | b::l=>Nat.beq a b || Nu a l
def oU:List Nat→Bool
 | []=>true
 | a::l=>!Nu a l&&oU l
theorem oV{a:Nat}:∀{l:List Nat},Nu a l=true↔a∈l
 | []=>by simp[Nu]
 | b::l=>by
  simp only[Nu,aD0,aCJ,oV (l:=l)];constructor
  ·rintro(h | h)
   ·exact .inl (aCI h)
   ·exact .inr h
  ·rintro(h | h)
   ·subst h;exact .inl (aD7 _)
   ·exact .inr h
theorem lE:∀{l:List Nat},oU l=true→l.Nodup
 | [],_=>List.nodup_nil
 | a::l,h=>by
  simp only[oU,aCs,aDe]at h;refine aD5.2 ⟨fun hm=>?_,lE h.2⟩;rw[oV.2 hm]at h;cases h.1
theorem bg{α:Type}{b:Bool}{x:Option α}{y:α}(h:(bif b then x else none)=some y):b=true∧x=some y:=by
 cases b
 ·cases h
 ·exact⟨rfl,h⟩
section
variable {T:List (Nat×Nat)} {v:Nat} (K:alw T v)
include K
end
section
variable {xs:bF} {s:St} (R:RS xs s)
include R
end
def kd(P:Program)(s:bF):List ResultVar→Option (List X)
 | []=>some []
 | .tmp t::r=>match kd P s r with
  | some l=>some (s.ev (.tmp t)::l)
  | none=>none
 | .cell p ty::r=>if 0<aB P ty then(match Qf P s.h ty (s.ev (.tmp p))with
  | .val c x=>bif c then(match kd P s r with
   | some l=>some (x::l)
   | none=>none)else none
  | _=>none)else none
section
variable {xs:bF} {s:St}
theorem mL{P:Program}(R:RS xs s):∀(rs:List ResultVar) (l:List X),kd P xs rs=some l→∀(K:List V→Prop),(∀vs,bj ⟨xs.c,xs.h,s.h⟩ l vs→K vs)→Bq P s rs K
 | [],l,h,K,hK=>by cases h;exact hK [] (by simp[bj])
 | .tmp t::r,l,h,K,hK=>by
  simp only[kd]at h
  split at h<;>try (cases h;done)
  rename_i l' hl;cases h;exact mL R r l' hl _ (fun vs xg=>hK _ (by simp only[bj];exact⟨_,_,rfl,R.ev (.tmp t),xg⟩))
 | .cell p ty::r,l,h,K,hK=>by
  simp only[kd]at h
  split at h<;>try (cases h;done)
  rename_i dC
  split at h<;>try (cases h;done)
  rename_i c x hx;obtain⟨hc,h⟩:=bg h
  split at h<;>try (cases h;done)
  rename_i l' hl;cases h;have hrel:=Db (P:=P) (H:=⟨xs.c,xs.h,s.h⟩) R.h ty (R.ev (.tmp p));simp only at hrel;rw[hx]at hrel;obtain⟨q,v,e1,e2,e3⟩:=hrel hc;refine⟨dC,?_⟩;rw[e1];exact⟨e2,mL R r l' hl _ (fun vs xg=>hK _ (by simp only[bj];exact⟨_,_,rfl,e3,xg⟩))⟩
end
end Go.AL
