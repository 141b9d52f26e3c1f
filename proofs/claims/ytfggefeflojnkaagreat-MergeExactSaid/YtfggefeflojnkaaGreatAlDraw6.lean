/- AI. -/
import Derived.Test.YtfggefeflojnkaaGreatAlDraw5
namespace Go.AL
section
variable {P:Program} {n:Nat} {ops:Array Oper}
theorem Lc{K:Nat→Bool}{oj:Oper}{Φ:St→Prop}{s:St}{di:Option Nat}{v:V}{obo:Option Ob}(hs:wo K s)(hj:∀d,oj.dst=some d→(∀p,p % 1000=d→K p=true)∧d<1000)
  (hi:∀d,di=some d→K d=true∧d<1000) (dU:∀d,di=some d→oj.dst ≠ some d) (agn:∀d,di=some d→d∉oj.looksAt ops)
  (hv:iD (minus K di) v) (Dt:∀ob,obo=some ob→kC K ob) (Da:∀ob,obo=some ob→∃d,di=some d) (h:ec P n ops oj Φ (s.oS di v obo)) :
  ec P n ops oj (fun s2=>Aft K oj s s2∧Φ (s2.oS di v obo)) s:=by
 have Qb:=km (ops:=ops) (o:=oj) (s:=s) (s':=s.oS di v obo) (fun i j5=>ZT (fun e=>agn i e j5));rcases xq h with⟨hr,oN⟩ | ⟨hr,oN⟩
 ·exact oN _ s Qb.2.symm (aho hs hj hi dU agn hv Dt Da hr)
 ·refine oN _ s Qb.2.symm ⟨hr.1,⟨(hs.mono dJ).put _ (fun x hx=>by simp at hx),fun i j5=>?_,fun p _ _=>by cases oj.dst<;>rfl,fun _ d hd q hq=>by rw[hd]at hq;simp[St.put,V.names]at hq⟩,?_⟩
  ·cases iY:oj.dst with
   | none=>rfl
   | some d=>
    grind[St.put]
  ·rw[← uX dU];exact hr.2
def DD(P:Program)(n:Nat)(ops:Array Oper)(Φ:St→Prop):Nat→Array Bool→St→Prop
 | 0,ax,s=>Region.ready .any ops ax=[]∧Φ s
 | f+1,ax,s=>(Region.ready .any ops ax=[]→Φ s)∧∀i∈Region.ready .any ops ax,match ops[i]? with
  | none=>DD P n ops Φ f (ax.setIfInBounds i true) s
  | some o=>ec P n ops o (DD P n ops Φ f (ax.setIfInBounds i true)) s
def nn(q:Nat):V→Prop
 | .ref p _=>p ≠ q
 | .ptr p ..=>p ≠ q
 | .kI _=>False
 | .fn _ _=>False
 | .eA _=>False
 | _=>True
def Ec(q:Nat):List V→Prop
 | []=>True
 | v::r=>nn q v∧Ec q r
def aoT:V→List V→Prop
 | .ref q _,vs=>Ec q vs
 | .ptr q ..,vs=>Ec q vs
 | _,_=>True
def DI(ops:List Oper)(j:Nat):Option Operand:=(ops[j]?).bind fun o=>tgt o.op
def aks(s:St)(vs:List V):Option Operand→Prop
 | some x=>aoT (s.ev x) vs
 | none=>True
def afj(ops:List Oper)(o:Oper)(s:St):List Nat→Prop
 | []=>True
 | j::r=>aks s (o.op.operands.toList.map s.ev) (DI ops j)∧afj ops o s r
theorem JA{l:List Oper}{o:Oper}{s:St}:∀{js:List Nat} {j:Nat},afj l o s js→j∈js→aks s (o.op.operands.toList.map s.ev) (DI l j)
 | k::r,j,h,hj=>by
  rcases azW.1 hj with rfl | hj
  ·exact h.1
  ·exact JA h.2 hj
theorem Eb{q:Nat}:∀{vs:List V},Ec q vs→∀v∈vs,nn q v
 | x::r,h,v,hv=>by
  rcases azW.1 hv with rfl | hv
  ·exact h.1
  ·exact Eb h.2 v hv
theorem ak6{K:Nat→Bool}{q:Nat}{v:V}(hk:iD K v)(h:nn q v):iD (· == q) v:=by
 cases v<;>first | exact h.elim | exact hk | (simp only[nn]at h;simpa [iD,C7,oC]using h) | trivial
theorem jl{N M:Nat→Bool}{p:Nat}(h1:N p=false)(h2:M p=true→(p == p)=false):(N p || M p)=false:=by
 grind
theorem MV{N M:Nat→Bool}{v:V}(h1:oC N v)(h2:∀p,M p=true→oC (· == p) v):oC (fun p=>N p || M p) v:=by
 cases v with
 | ref p n=>exact jl h1 (fun hm=>h2 p hm)
 | ptr p n i j=>exact jl h1 (fun hm=>h2 p hm)
 | _=>exact h1
theorem ak7{N M:Nat→Bool}{v:V}(h1:C7 N v)(h2:∀p,M p=true→C7 (· == p) v):C7 (fun p=>N p || M p) v:=by
 cases v with
 | agg cs=>exact h1
 | eA cs=>exact fun x hx=>MV (h1 x hx) (fun p hp=>h2 p hp x hx)
 | ref p n=>exact jl h1 (fun hm=>h2 p hm)
 | ptr p n i j=>exact jl h1 (fun hm=>h2 p hm)
 | _=>exact h1
theorem ak5{N M:Nat→Bool}{v:V}(h1:iD N v)(h2:∀p,M p=true→iD (· == p) v):iD (fun p=>N p || M p) v:=by
 cases v with
 | kI vs=>exact fun x hx=>ak7 (h1 x hx) (fun p hp=>h2 p hp x hx)
 | fn f cs=>exact fun x hx=>MV (h1 x hx) (fun p hp=>h2 p hp x hx)
 | agg cs=>exact h1
 | eA cs=>exact fun x hx=>MV (h1 x hx) (fun p hp=>h2 p hp x hx)
 | ref p n=>exact jl h1 (fun hm=>h2 p hm)
 | ptr p n i j=>exact jl h1 (fun hm=>h2 p hm)
 | _=>exact h1
theorem TB{v:V}{vs:List V}{q:Nat}(h:aoT v vs)(hq:v.names (· == q)=true):Ec q vs:=by
 cases v<;>simp[V.names]at hq<;>subst hq<;>exact h
def Jz(P:Program)(n:Nat)(ops:Array Oper)(Φ:St→Prop):List (Nat×List Nat)→St→Prop
 | [],s=>Φ s
 | (i,js)::r,s=>match ops[i]? with
  | some o=>afj ops.toList o s js∧ec P n ops o (Jz P n ops Φ r) s
  | none=>False
def Kp(ops:Array Oper)(ax:Array Bool)(p:Nat):Bool:=(List.range ops.size).any fun i=>!ax.getD i true&&((ops[i]?).bind (·.dst) == some (p % 1000))
theorem CV{ax:Array Bool}{p:Nat}:Kp ops ax p=true↔∃i o,ops[i]? = some o∧ax.getD i true=false∧o.dst=some (p % 1000):=by
 grind[Kp]
def oT(ops:Array Oper):Bool:=
 let l:=ops.toList.filterMap (·.dst)
 l.all (· < 1000)&&l.Nodup
theorem gN(h:oT ops=true){i:Nat}{o:Oper}(ho:ops[i]? = some o){d:Nat}(hd:o.dst=some d):d<1000:=by
 simp only[oT,azF,azU,azM]at h;refine h.1 d (aBx.2 ⟨o,?_,hd⟩);grind
theorem iO{α β:Type}{f:α→Option β}:∀{l:List α},(l.filterMap f).Nodup→∀(i j:Nat) (x y:α) (d:β),l[i]? = some x→l[j]? = some y→f x=some d→f y=some d→i=j
 | [],_,i,j,x,y,d,h,_,_,_=>by simp at h
 | z::l,hn,i,j,x,y,d,hx,hy,fx,fy=>by
  have Kk:∀(k:Nat) (u:α),l[k]? = some u→f u=some d→d∈l.filterMap f:=fun k u hk fu=>aBx.2 ⟨u,azO hk,fu⟩
  have hn':(l.filterMap f).Nodup:=by
   grind
  cases i with
  | zero=>
   grind
  | succ i=>
   cases j with
   | zero=>
    grind
   | succ j=>rw[iO hn' i j x y d (by grind) (by grind) fx fy]
theorem KK(h:oT ops=true){i j:Nat}{o o':Oper}(ho:ops[i]? = some o)(dT:ops[j]? = some o'){d:Nat}(hd:o.dst=some d)(V2:o'.dst=some d):i=j:=by
 simp only[oT,azF,azM]at h;exact iO h.2 i j o o' d (by grind) (by grind) hd V2
theorem RG(h:oT ops=true){ax:Array Bool}{j:Nat}{o:Oper}(ho:ops[j]? = some o):∀p,Kp ops (ax.setIfInBounds j true) p=true→minus (Kp ops ax) o.dst p=true:=by
 intro p hp;obtain⟨i,oi,hoi,hl,hd⟩:=CV.1 hp;have hij:j ≠ i:=by
  intro e;simp_all
 rw[getD_set_ne true hij]at hl;simp only[minus,azF,aAi];refine⟨CV.2 ⟨i,oi,hoi,hl,hd⟩,?_⟩;grind[KK]
theorem LI{ax:Array Bool}{j:Nat}{o:Oper}(ho:ops[j]? = some o)(hl:ax.getD j true=false):∀d,o.dst=some d→∀p,p % 1000=d→Kp ops ax p=true:=
 fun d hd p hp=>CV.2 ⟨j,o,ho,hl,by rw[hp];exact hd⟩
def KD(ops:Array Oper)(ax:Array Bool):Operand→Bool
 | .tmp d=>(List.range ops.size).all fun j=>ax.getD j true || (ops[j]?).bind (·.dst) != some d
 | _=>true
theorem agR{ax:Array Bool}{x:Operand}(h:KD ops ax x=true){j:Nat}{oj:Oper}(hj:ops[j]? = some oj)(Ke:ax.getD j true=false){s s2:St}(ht:∀i,oj.dst ≠ some i→s2.t i=s.t i):s2.ev x=s.ev x:=by
 cases x with
 | tmp d=>
  show(if d<100000 then s2.t d else .dead)=(if d<100000 then s.t d else .dead);rw[ht d fun e=>?_];simp only[KD,azU,aBI]at h;grind
 | _=>rfl
theorem T4{ax:Array Bool}{x:Operand}{j:Nat}(h:KD ops ax x=true):KD ops (ax.setIfInBounds j true) x=true:=by
 cases x with
 | tmp d=>
  simp only[KD,azU,aBI,aA8]at h ⊢;intro k hk;rcases h k hk with h1 | h1
  ·by_cases hjk:j=k
   all_goals simp_all
  grind
 | _=>rfl
def ajv(ops:Array Oper)(ax:Array Bool)(oj:Oper)(x:Operand):Prop:=∃d j o,x=.tmp d∧ops[j]? = some o∧ax.getD j true=false∧wQ o=true∧o.dst=some d∧∃e∈oj.after,Region.binds .any e=true∧e.on=j
def Nz(ops:Array Oper)(ax:Array Bool)(oj:Oper):Operand→Bool
 | .tmp d=>oj.after.any fun e=>Region.binds .any e&&(!ax.getD e.on true&&match ops[e.on]? with
  | some o=>wQ o&&o.dst == some d
  | none=>false)
 | _=>false
theorem KA{ax:Array Bool}{oj:Oper}{x:Operand}(h:Nz ops ax oj x=true):ajv ops ax oj x:=by
 cases x with
 | tmp d=>
  simp only[Nz]at h;rw[Array.any_eq_true]at h;obtain⟨i,hi,h1⟩:=h;simp only[azF,aAi]at h1;obtain⟨h2,h3,h4⟩:=h1
  split at h4
  ·rename_i o ho
   simp only[azF,aAO]at h4;exact⟨d,_,o,rfl,ho,h3,h4.1,h4.2,_,Array.getElem_mem hi,h2,rfl⟩
  ·cases h4
 | _=>cases h
def NQ(ops:Array Oper)(ax:Array Bool)(js:List Nat)(oi:Oper)(j:Nat)(oj:Oper):Bool:=oi.apart ops oj&&(bN oi.op == .plain || bN oi.op == .alloc || (match tgt oj.op with | none=>true | some x=>js.contains j&&KD ops ax x || Nz ops ax oj x))
theorem NU(hD:oT ops=true){Φ:St→Prop}{i:Nat}{oi:Oper}(hi:ops[i]? = some oi)(hl:RE oi)(B:Nat→Bool)
   (hB:∀j oj,ops[j]? = some oj→B j=true→∃e∈oj.after,Region.binds .any e=true∧(e.on=i∨B e.on=true)):∀(fuel:Nat) (ax:Array Bool) (s:St),wo (Kp ops ax) s→(∀j,B j=true→ax.getD j false=false)→
   (∀j oj,ops[j]? = some oj→j ≠ i→ax.getD j true=false→B j=false→oi.apart ops oj=true∧((bN oi.op=.plain∨bN oi.op=.alloc)∨∀x,tgt oj.op=some x→(KD ops ax x=true∧∀q,(s.ev x).names (· == q)=true→∀y∈oi.op.operands.toList,iD (· == q) (s.ev y))∨ajv ops ax oj x))→
   i∈Region.ready .any ops ax→ec P n ops oi (DD P n ops Φ fuel (ax.setIfInBounds i true)) s→DD P n ops Φ (fuel+1) ax s:=by
 intro fuel;induction fuel with
 | zero=>
  intro ax s hs _ _ hr H;refine⟨fun h=>(by grind),fun j hj=>?_⟩;by_cases hji:j=i
  ·grind
  ·obtain⟨Ke,_⟩:=mem_ready.1 hr
   have hd:∀d,oi.dst=some d→Kp ops ax d=true∧d<1000:=fun d hd=>⟨LI hi Ke d hd d (aAJ (gN hD hi hd)),gN hD hi hd⟩
   obtain⟨v,obo,_,h1,_⟩:=Bz hl hs hd H;have h2:=ready_mono hj hji;rw[h1.1]at h2;cases h2
 | succ fuel ih=>
  intro ax s hs hinv Qk hr H;refine⟨fun h=>(by grind),fun j hj=>?_⟩;by_cases hji:j=i
  ·grind
  ·obtain⟨Ke,_⟩:=mem_ready.1 hr
   obtain⟨Zl,oj,VY,fQ⟩:=mem_ready.1 hj;have hdi:∀d,oi.dst=some d→Kp ops ax d=true∧d<1000:=fun d hd=>⟨LI hi Ke d hd d (aAJ (gN hD hi hd)),gN hD hi hd⟩
   have hdj:∀d,oj.dst=some d→(∀p,p % 1000=d→Kp ops ax p=true)∧d<1000:=fun d hd=>⟨LI VY Zl d hd,gN hD VY hd⟩
   have atA:∀e∈oj.after,Region.binds .any e=true→e.on ≠ i:=fun e he hb heq=>by
    grind
   have hnb:B j=false:=by
    grind
   have aqp:=Qk j oj VY hji Zl hnb;obtain⟨hap,Zk⟩:=aqp;obtain⟨a1,a2,a3⟩:=Oper.apart_spec hap;obtain⟨v,obo,Da,h1,hv,Dt,oN⟩:=Bz hl hs hdi H;have h2:=h1.2 j (ready_mono hj hji);rw[VY]at h2 ⊢;simp only at h2 ⊢;have h3:=Lc (ops:=ops) hs hdj hdi a2 a1 hv Dt Da h2;refine CF ?_ h3;rintro s2 ⟨Gd,h4⟩;have Qc:wo (Kp ops (ax.setIfInBounds j true)) s2:=Gd.ok.mono (RG hD VY);refine ih (ax.setIfInBounds j true) s2 Qc (fun q hq=>?_) ?_ (ready_mono hr (Ne.symm hji)) ?_
   ·by_cases hjq:j=q
    ·grind
    ·rw[getD_set_ne false hjq];grind
   ·intro k ok hk hki ap9 hno
    have ap8:ax.getD k true=false:=by
     by_cases hjk:j=k
     ·grind
     ·rw[getD_set_ne true hjk]at ap9;exact ap9
    obtain⟨q1,q2⟩:=Qk k ok hk hki ap8 hno;refine⟨q1,q2.imp id fun q3 x hx=>?_⟩;have ey:∀y∈oi.op.operands.toList,s2.ev y=s.ev y:=fun y hy=>(km (ops:=ops) (o:=oi) (s:=s) (s':=s2) (fun k hk=>Gd.t k (fun e=>a3 k e hk))).1 y hy
    rcases q3 x hx with⟨q4,q5⟩ | ⟨d,j0,o0,rfl,ho0,agj,su,hd0,he0⟩
    ·have ex:s2.ev x=s.ev x:=agR q4 VY Zl Gd.t
     refine .inl ⟨T4 q4,fun q hq y hy=>?_⟩;rw[ex]at hq;rw[ey y hy];exact q5 q hq y hy
    ·by_cases hj0:j=j0
     ·subst hj0
      rw[VY]at ho0;cases ho0;refine .inl ⟨?_,fun q hq y hy=>?_⟩
      ·simp only[KD,azU,aBI,aA8]
       intro i' j5;by_cases hii:j=i'
       ·subst hii;left
        rcases aAH j ax.size with h2 | h2
        ·simp[h2]
        ·simp[h2]
       ·right
        cases hoi:ops[i']? with
        | none=>rfl
        | some oi'=>
         simp only[aAC];grind[KK]
      ·have hqd:q % 1000=d:=Gd.d su d hd0 q (by
        have hq2:(if d<100000 then s2.t d else .dead).names (fun x=>x == q)=true:=hq
        grind)
       rw[ey y hy];exact dI (fun p hp=>by
        grind) (Bi hs y)
     ·exact .inr ⟨d,j0,o0,rfl,ho0,by rw[getD_set_ne true hj0];exact agj,su,hd0,he0⟩
   ·refine oN _ s2 (fun p=>oj.dst == some (p % 1000) || hit oj s p) (minus (Kp ops ax) oj.dst) Gd.ok (fun d hd=>?_) dJ (fun k hk=>Gd.t k (fun e=>a3 k e hk)) ?_ ?_
    ·simp only[minus,azF,aAi]
     refine⟨(hdi d hd).1,?_⟩;rw[aAJ (hdi d hd).2];grind
    ·rcases Zk with(hk | hk) | hk
     ·grind
     ·grind
     ·refine .inr (.inr ⟨fun y hy=>ak5 (dI (fun p hp=>?_) (Bi hs y)) (fun p hp=>?_),fun p hp=>?_⟩)
      ·grind
      ·unfold hit at hp
       split at hp
       ·rename_i x hx
        rcases hk x hx with hk | ⟨d,j0,o0,_,_,agj,_,_,e0,he0,hb0,atq⟩
        ·exact hk.2 p hp y hy
        grind
       ·cases hp
      ·simp only[aCb]at hp
       exact Gd.h p hp.1 hp.2
    ·rw[Array.setIfInBounds_comm _ _ hji]
     exact h4
def YI(ops:Array Oper)(k:Nat):Bool:=match ops[k]? with | some o=>bN o.op != .uP | none=>false
def auP(k:Nat)(ops:List Oper):List Bool:=ops.foldl (fun acc o=>acc++[o.after.any fun e=>Region.binds .any e&&(e.on == k || acc.getD e.on false)]) []
def aq0(ops:Array Oper)(k:Nat)(B:List Bool)(ax:Array Bool):Bool:=(List.range ops.size).all fun j=>!B.getD j false || (!ax.getD j false&&match ops[j]? with
 | some o=>o.after.any fun e=>Region.binds .any e&&(e.on == k || B.getD e.on false)
 | none=>true)
def ZK(ops:Array Oper)(ax:Array Bool)(k:Nat)(js:List Nat)(B:List Bool):Bool:=match ops[k]? with
 | none=>false
 | some oi=>decide (B.length≤ops.size)&&aq0 ops k B ax&&(List.range ops.size).all fun j=>j == k || ax.getD j true || B.getD j false || (match ops[j]? with
  | none=>true
  | some oj=>NQ ops ax js oi j oj)
def aqL(ops:Array Oper)(ax:Array Bool)(k:Nat)(js:List Nat):Bool:=ZK ops ax k js (auP k ops.toList)
theorem NA{ax:Array Bool}{k:Nat}{js:List Nat}{oi:Oper}{B:List Bool}(hi:ops[k]? = some oi)(h:ZK ops ax k js B=true):
  (∀j oj,ops[j]? = some oj→B.getD j false=true→∃e∈oj.after,Region.binds .any e=true∧(e.on=k∨B.getD e.on false=true))∧(∀j,B.getD j false=true→ax.getD j false=false)∧
  ∀j oj,ops[j]? = some oj→j ≠ k→ax.getD j true=false→B.getD j false=false→NQ ops ax js oi j oj=true:=by
 unfold ZK at h;rw[hi]at h;simp only[azF,azM]at h;obtain⟨⟨hlen,amc⟩,h⟩:=h;simp only[aq0,azU,aBI,aA8,aAi,azF]at amc;grind
def YJ(ops:Array Oper):List (Nat×List Nat)→Array Bool→Bool
 | [],ax=>(Region.ready .any ops ax).isEmpty
 | (k,js)::r,ax=>(Region.ready .any ops ax == [k] || ((Region.ready .any ops ax).contains k&&YI ops k&&aqL ops ax k js))&&YJ ops r (ax.setIfInBounds k true)
def NK(ops:Array Oper)(perm:List (Nat×List Nat)):Bool:=oT ops&&perm.length == ops.size&&YJ ops perm (Array.replicate ops.size false)
theorem AW(hD:oT ops=true){Φ:St→Prop}:∀(perm:List (Nat×List Nat)) (ax:Array Bool) (s:St),YJ ops perm ax=true→wo (Kp ops ax) s→Jz P n ops Φ perm s→DD P n ops Φ perm.length ax s
 | [],ax,s,hx,hs,h=>⟨by simpa [YJ]using hx,h⟩
 | (k,js)::r,ax,s,hx,hs,h=>by
  simp only[YJ,azF,aA8]at hx;obtain⟨hx1,zu⟩:=hx;simp only[Jz]at h
  split at h<;>try (exact h.elim)
  rename_i ok aO;obtain⟨apL,h⟩:=h;have Zb:k∈Region.ready .any ops ax:=by
   grind
  obtain⟨Ke,_⟩:=mem_ready.1 Zb;have hdk:∀d,ok.dst=some d→(∀p,p % 1000=d→Kp ops ax p=true)∧d<1000:=fun d hd=>⟨LI aO Ke d hd,gN hD aO hd⟩
  have h2:=Lc (ops:=ops) (di:=none) (v:=.dead) (obo:=none) hs hdk (fun d h=>by cases h) (fun d h=>by cases h) (fun d h=>by cases h) trivial (fun ob h=>by cases h) (fun ob h=>by cases h) h;have h3:ec P n ops ok (DD P n ops Φ r.length (ax.setIfInBounds k true)) s:=CF (fun s2 ⟨Gd,hq⟩=>AW hD r _ s2 zu (Gd.ok.mono (RG hD aO)) hq) h2;rcases hx1 with h1 | ⟨⟨_,No⟩,Qk⟩
  ·have Nk:Region.ready .any ops ax=[k]:=by grind
   refine⟨fun h=>(by grind),fun j hj=>?_⟩;grind
  ·obtain⟨f1,f2,f3⟩:=NA aO Qk
   refine NU hD aO ?_ _ f1 r.length ax s hs f2 (fun j oj hj hjk Ke hnb=>?_) Zb h3
   ·grind[YI,RE]
   ·have f4:=f3 j oj hj hjk Ke hnb
    simp only[NQ,azF,aA8,aAO]at f4;refine⟨f4.1,f4.2.imp id fun f5 x hx=>?_⟩;rw[hx]at f5;simp only[aA8,azF]at f5;rcases f5 with f5 | f5
    case inr=>grind[KA]
    refine .inl ⟨f5.2,fun q hq y hy=>?_⟩;have f6:=JA apL (by simpa using f5.1:j∈js);have f7:DI ops.toList j=some x:=by simp[DI,hj,hx]
    rw[f7]at f6;exact ak6 (Bi hs y) (Eb (TB f6 hq) _ (az4.2 ⟨y,hy,rfl⟩))
variable {w0:World} {I:rM} {A0:Nat→Prop}
theorem qg{o:Oper}{Φ:St→Prop}{K':Act→World→Prop}{Q':Exit→Act→World→Prop}(hK:∀s a w,Φ s→RR w0 I A0 n s a w→K' a w){s:St}{a:Act}{w:World}(hR:RR w0 I A0 n s a w)
  (h:ec P n ops o Φ s):if Region.wanted o (yielded ops a.tmps)then o.wp P a w K' Q'∨(o.asks P a w∧LetsOut Q')else K' (a.put o.dst undef) w:=by
 obtain⟨β,A,R⟩:=hR;obtain⟨g1,g2,g3⟩:=kA (ops:=ops) (o:=o) R;have iX:zc P n o Φ s→o.wp P a w K' Q':=by
  rintro⟨hd,hr⟩;have V2:=uZ hd;unfold Oper.wp
  split at hr
  ·rename_i p v ha
   obtain⟨u,h1,h2⟩:=ahj R.bZ a s.ev (kB R.au) o ha hr.1;simp only at h1;rw[h1];exact hK _ _ _ hr.2 ⟨_,_,R.put o.dst V2 v u h2⟩
  ·rename_i p ob r ha
   split at hr<;>try (exact hr.elim)
   rename_i d iY;obtain⟨u,w',h1,h2⟩:=ahl R o ha hr.1 d iY (V2 d iY);rw[h1];rcases hr.2 with hr3 | ⟨hr1,himp,hr3⟩
   ·exact hK _ _ _ hr3 h2.rr
   ·subst hr1
    exact hK _ _ _ hr3 (h2.FR himp)
  ·rename_i p q ob ha
   obtain⟨w',h1,h2⟩:=ahk R o ha hr.1 V2;rw[h1];exact hK _ _ _ hr.2 h2
  ·rename_i p q ob ha
   obtain⟨u,w',h1,h2⟩:=ahm R o ha hr.1 V2;rw[h1];exact hK _ _ _ hr.2 h2
  ·rename_i g args ha
   obtain⟨dk,Pd,hc,cZ,hφ⟩:=hr;obtain⟨vs,e1,e2,e3⟩:=tj R.au o ha;rw[e1];obtain⟨aO,Zy⟩:=hc;obtain⟨q1,q2⟩:=K6 R.bZ (vs:=vs) 0 cZ (fun i x hx=>by simpa using e3 i x hx);refine(Zy w A vs R.bZ.lt (by rw[e2,q1]) (fun i x hx=>by simpa using q2 i x hx)).mono ?_;rintro e w' ⟨rds,us,β',A',xP,rfl,hp⟩;exact hK _ _ _ (hφ rds xP).2 (R.call (aO rds xP) hp o.dst V2)
  grind
 have aic:EU n o Φ s→K' (a.put o.dst undef) w:=by
  rintro⟨hd,hr⟩;exact hK _ _ _ hr ⟨_,_,R.put o.dst (uZ hd) _ _ qW⟩
 unfold ec at h
 split at h
 ·grind
 ·rename_i b want hg
  rw[g2 b want hg];by_cases hb:b=want
  ·grind
  ·have:(b == want)=false:=by grind
   rw[this];simp only[aAE,aAd];exact aic (h.2 (by cases b<;>cases want<;>simp_all))
 all_goals grind
theorem th{Φ:St→Prop}{Q':Exit→Act→World→Prop}(hQ:∀s a w,Φ s→RR w0 I A0 n s a w→Q' .normal a w):∀(fuel:Nat) (ax:Array Bool) (s:St) (a:Act) (w:World),DD P n ops Φ fuel ax s→RR w0 I A0 n s a w→
  wpAny P .any ops Q' fuel ax a w
 | 0,_,_,_,_,h,hR=>⟨h.1,hQ _ _ _ h.2 hR⟩
 | fuel+1,ax,s,a,w,h,hR=>⟨fun h0=>hQ _ _ _ (h.1 h0) hR,fun i hi=>by
   have h2:=h.2 i hi;unfold wpOp
   split
   ·rename_i hn
    rw[hn]at h2;exact th hQ fuel _ s a w h2 hR
   ·rename_i o ho
    rw[ho]at h2;exact qg (fun s' a' w' hs TZ=>th hQ fuel _ s' a' w' hs TZ) hR h2⟩
theorem RB.P2{s:St}{a:Act}{w:World}{β:Nat→Option Nat}{A:Nat→Prop}(R:RB w0 I A0 n s a w β A)(K:Nat→Bool):RB w0 I A0 n (s.kill K) a w β A∧wo K (s.kill K):=by
 have S:Step ⟨w,A,s.h,β⟩ ⟨w,A,(s.kill K).h,β⟩:=by
  refine⟨fun b hb _=>rfl,azJ _,fun b hb h=>h,fun b hb h=>?_⟩;obtain⟨o,ob',ho,TY⟩:=h;simp only[St.kill]at ho
  split at ho
  ·cases ho
  ·cases dS:s.h o with
   | none=>grind
   | some bE=>exact⟨o,bE,dS,TY⟩
 have hk:∀p,K p=false→qJ ⟨w,A,s.h,β⟩ ⟨w,A,(s.kill K).h,β⟩ p:=by
  intro p hp ob' dT;simp only[St.kill,hp,aAE,aAd]at dT;cases dS:s.h p with
  | none=>grind
  | some bE=>
   simp[dS]at dT;subst dT;exact⟨bE,dS,by rw[Ob.dg];exact azJ _,fun _=>⟨rfl,Ob.eP _ _,Ob.gU _ _,fun b cur' hb fw=>⟨cur',fw,rfl⟩⟩⟩
 have s4:∀o ob',(s.kill K).h o=some ob'→∃ob,s.h o=some ob∧K o=false∧ob'=ob.kill K:=by
  intro o ob' ho;simp only[St.kill]at ho
  split at ho
  ·cases ho
  ·rename_i hKo
   cases dS:s.h o with
   | none=>grind
   | some bE=>grind
 have aP:bU ⟨w,A,(s.kill K).h,β⟩:=by
  refine⟨fun o ob' ho=>?_,fun o o' tK bE b h1 h2 h3 h4=>?_,R.bZ.lt⟩
  ·obtain⟨ob,dS,_,rfl⟩:=s4 o ob' ho
   have aO:=R.bZ.ok o ob dS;exact si.step R.bZ S _ hk (fun b hb=>⟨rfl,by simp only at aO hb;rw[hb]at aO;exact aO.1⟩) aO
  ·obtain⟨sk,nz,_,_⟩:=s4 o tK h1
   obtain⟨X4,Qc,_,_⟩:=s4 o' bE h2;exact R.bZ.inj o o' sk X4 b nz Qc h3 h4
 refine⟨R.step w β A (s.kill K).h K S hk aP R.a0 R.ev (fun o ob b ho hb=>?_) (fun o hq hx=>by simp[St.kill,hx]) none (fun _ h=>by cases h) .dead undef trivial,⟨fun i=>MT (R.au i),fun o ob' ho=>?_,fun o ho=>by simp[St.kill,ho]⟩⟩
 ·obtain⟨sk,nz,_,_⟩:=s4 o ob ho
  exact R.own o sk b nz hb
 ·obtain⟨ob,dS,hKo,rfl⟩:=s4 o ob' ho
  have aO:=R.bZ.ok o ob dS;intro row aK x hx;rw[Ob.uD];cases hb:β o with
  | none=>
   simp only at aO;rw[hb]at aO;have h0:ob.rows=[]:=aO;grind[Ob.kill]
  | some b=>
   simp only at aO;rw[hb]at aO;obtain⟨_,cur,_,_,_,j6⟩:=aO;unfold Ob.kill at aK
   split at aK
   ·rename_i himp
    obtain⟨r,hr,rfl⟩:=az4.1 aK;obtain⟨y,hy,rfl⟩:=az4.1 hx;obtain⟨i,hi⟩:=aAr hr;obtain⟨j,hj⟩:=aAr hy;obtain⟨v,_,_,c3,_⟩:=j6 i r hi j y hj;exact⟨fa c3,fun h=>by simp[himp]at h⟩
   ·rename_i himp
    obtain⟨i,hi⟩:=aAr aK;obtain⟨j,hj⟩:=aAr hx;obtain⟨v,_,_,c3,c4⟩:=j6 i row hi j x hj;grind[dQ,fE]
def KI(l:List (Nat×Nat))(p:Nat):Bool:=l.any fun q=>decide (q.1≤p % 1000)&&decide (p % 1000≤q.2)
def ox(ops:Array Oper)(perm:List (Nat×List Nat))(ks:List (Nat×Nat)):Bool:=NK ops perm&&ops.all fun o=>match o.dst with | some d=>KI ks d | none=>true
theorem FJ{id:Nat}{perm:List (Nat×List Nat)}{ks:List (Nat×Nat)}{Φ:St→Prop}{Q':Exit→Act→World→Prop}(hm:P.follows .mixedOrders=true)(hr:ox ops perm ks=true)(hQ:∀s a w,Φ s→RR w0 I A0 n s a w→Q' .normal a w)
  {s:St} {a:Act} {w:World} (hR:RR w0 I A0 n s a w) (h:Jz P n ops Φ perm (s.kill (KI ks))):(Code.region id ops true).wp P Q' a w:=by
 simp only[ox,azF]at hr;obtain⟨Ki,hks⟩:=hr;simp only[NK,azF,aAO]at Ki;obtain⟨⟨hD,hlen⟩,alZ⟩:=Ki;refine wp_region_any hm ?_;obtain⟨β,A,R⟩:=hR;obtain⟨R2,aO⟩:=(R.drew (w.drawn+1)).P2 (KI ks);have Zi:wo (Kp ops (Array.replicate ops.size false)) (s.kill (KI ks)):=aO.mono fun p hp=>by
  obtain⟨i,o,ho,_,hd⟩:=CV.1 hp;rw[Array.all_eq_true]at hks;have bO:i<ops.size:=by
   grind
  grind[KI]
 have h9:=th hQ _ _ _ _ _ (AW hD perm _ _ alZ Zi h) ⟨_,_,R2⟩;grind
end
end Go.AL
