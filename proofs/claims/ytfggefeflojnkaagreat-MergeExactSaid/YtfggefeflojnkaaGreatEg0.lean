/- AI. -/
import Derived.Test.YtfggefeflojnkaaGreatProg
import Derived.Test.YtfggefeflojnkaaGreatAxAuto
open Go.IntKind (i64 u64)
namespace Go.AL
open Go.Proofs
theorem mixed:Tryz.prog.follows .mixedOrders=true:=by kernel_rfl
noncomputable abbrev zK(rs:List ResultVar)(rk:List RK):=zd Tryz.prog rs rk
abbrev zO(e:dn):Prop:=e.Ok Tryz.prog
noncomputable abbrev zC(es:List dn)(pm:PM)(n:Nat):cX:=⟨Tryz.prog,es,pm,n,[],[],[],[]⟩
abbrev sF:List Ty:=[zI,zI]
abbrev Rg:=Int×Int
def valid(r:Rg):Bool:=decide (6≤r.2)&&(decide (r.2≤40)&&(decide (0≤r.1)&&(Int.tmod r.1 (p2 r.2) == 0&&decide (r.1+p2 r.2≤1099511627776))))
def kd(r:Rg):Int:=bif valid r then r.1+p2 r.2 else 0
def contains(a:Rg×Rg):Bool:=valid a.1&&(valid a.2&&(decide (a.1.1≤a.2.1)&&decide (kd a.2≤kd a.1)))
def overlaps(a:Rg×Rg):Bool:=valid a.1&&(valid a.2&&(decide (a.1.1<kd a.2)&&decide (a.2.1<kd a.1)))
theorem gI{r:Rg}(h:valid r=true):6≤r.2∧r.2≤40∧0≤r.1∧Int.tmod r.1 (p2 r.2)=0∧r.1+p2 r.2≤1099511627776:=by
 simpa [valid]using h
noncomputable def Se:cX:=⟨Tryz.prog,[],dE [],32,[],[],[],[]⟩
noncomputable def QT(f:Nat)(a:Rg):Option Bool:=aG Se (eO []) (zd Tryz.prog [.tmp 2] [.v .bool]) f [.code (aB Tryz.f129)] (aQ [.g sF] a)
theorem N5(f:Nat)(r:Rg):QT (f+1) r =
  bif decide (r.2<6)then some false else bif decide (r.2>40)then some false else bif decide (r.1<0)then some false else bif decide (0≤r.2)then bif i64.wrap (1*2 ^ min (Int.toNat r.2) i64.bits) != 0 then bif Int.tmod r.1 (i64.wrap (1*2 ^ min (Int.toNat r.2) i64.bits)) == 0 then some (decide (r.1≤i64.wrap (1099511627776-i64.wrap (1*2 ^ min (Int.toNat r.2) i64.bits))))else some false else none else none:=by kernel_rfl
theorem SF:∀a,(fun _=>true) a=true→∃f,QT f a=some (valid a):=by
 rintro⟨b,k⟩ _;refine⟨1,(N5 0 _).trans ?_⟩;simp only[valid];by_cases h1:k<6
 ·simp[h1,show ¬ (6≤k)by omega]
 by_cases h2:k>40
 ·simp[h1,h2,show ¬ (k≤40)by omega]
 by_cases h3:b<0
 ·simp[h1,h2,h3,show ¬ (0≤b)by omega]
 have hs:=sh1 (k:=k) (by omega) (by omega);have h5:=eZ k;have h6:=mj (k:=k) (by omega);have dU:(p2 k != 0)=true:=by simp;omega
 simp only[hs,az (n:=1099511627776-p2 k) (by omega) (by omega),dU,azH];rw[eS h1,eS h2,eS h3,eR (by omega:0≤k)];have e1:decide (b≤1099511627776-p2 k)=decide (b+p2 k≤1099511627776):=aBB.2 (by omega);rw[e1];simp only[show 6≤k by omega,show k≤40 by omega,show 0≤b by omega,aBP,azP];cases (Int.tmod b (p2 k) == 0)<;>rfl
noncomputable def Hi:dn:=⟨129,[.g sF],[.v .bool],fun _=>true,valid⟩
theorem CW:Hi.Ok Tryz.prog:=fl Se (eO []) [.tmp 2] mixed (aC) Tryz.func129 SF
noncomputable def LS:cX:=⟨Tryz.prog,[],dE [],38,[],[],[],[]⟩
noncomputable def Lp(f:Nat)(a:Rg):Option Bool:=aG LS (eO []) (zd Tryz.prog [.tmp 2] [.v .bool]) f [.code (aB Tryz.f98)] (aQ [.g sF] a)
theorem Lo(f:Nat)(r:Rg):Lp (f+1) r =
  bif decide (r.2<6)then some false else bif decide (r.2>40)then some false else bif decide (r.1<0)then some false else bif decide (r.1≥1099511627776)then some false else bif decide (0≤u64.wrap r.2)then bif i64.wrap (1*2 ^ min (u64.wrap r.2).toNat i64.bits) != 0 then bif Int.tmod r.1 (i64.wrap (1*2 ^ min (u64.wrap r.2).toNat i64.bits)) == 0 then some (decide (i64.wrap (r.1+i64.wrap (1*2 ^ min (u64.wrap r.2).toNat i64.bits))≤1099511627776))else some false else none else none:=by kernel_rfl
theorem Mw:∀a,(fun _=>true) a=true→∃f,Lp f a=some (valid a):=by
 rintro⟨b,k⟩ _;refine⟨1,(Lo 0 _).trans ?_⟩;simp only[valid];by_cases h1:k<6
 ·simp[h1,show ¬ (6≤k)by omega]
 by_cases h2:k>40
 ·simp[h1,h2,show ¬ (k≤40)by omega]
 by_cases h3:b<0
 ·simp[h1,h2,h3,show ¬ (0≤b)by omega]
 have h5:=eZ k;by_cases h4:b≥1099511627776
 ·simp[h1,h2,h3,h4,show ¬ (b+p2 k≤1099511627776)by omega]
 have hu:u64.wrap k=k:=sD (by omega) (by omega);have hs:=sh1 (k:=k) (by omega) (by omega);have h6:=mj (k:=k) (by omega);have dU:(p2 k != 0)=true:=by simp;omega
 simp only[hu,hs,az (n:=b+p2 k) (by omega) (by omega),dU,azH];rw[eS h1,eS h2,eS h3,eS h4,eR (by omega:0≤k)];simp only[show 6≤k by omega,show k≤40 by omega,show 0≤b by omega,aBP,azP];cases (Int.tmod b (p2 k) == 0)<;>rfl
noncomputable def qN:dn:=⟨98,[.g sF],[.v .bool],fun _=>true,valid⟩
theorem kx:qN.Ok Tryz.prog:=fl LS (eO []) [.tmp 2] mixed (aC) Tryz.func98 Mw
noncomputable def ajT:cX:=⟨Tryz.prog,[Hi],dE [(3,([(0,[]),(1,[]),(2,[]),(3,[]),(4,[]),(5,[]),(6,[])],[(2,2),(6,11)]))],12,[],[],[],[]⟩
noncomputable def ajj(f:Nat)(a:Rg):Option Int:=aG ajT (eO []) (zd Tryz.prog [.tmp 2] [.v zI]) f [.code (aB Tryz.f130)] (aQ [.g sF] a)
theorem ab2(f:Nat)(r:Rg):ajj (f+1) r =
  bif !valid (r.1,r.2)then some 0 else bif decide (0≤r.2)then some (i64.wrap (r.1+i64.wrap (1*2 ^ min (Int.toNat r.2) i64.bits)))else none:=by kernel_rfl
theorem ag0:∀a,(fun _=>true) a=true→∃f,ajj f a=some (kd a):=by
 rintro⟨b,k⟩ _;refine⟨1,(ab2 0 _).trans ?_⟩;cases hv:valid (b,k)
 ·simp[kd,hv]
 ·obtain⟨h1,h2,h3,h4,h5⟩:=gI hv
  dsimp only at h1 h2 h3 h4 h5
  have h6:=eZ k;have hs:=sh1 (k:=k) (by omega) (by omega);simp only[hs,kd,hv,az (n:=b+p2 k) (by omega) (by omega),show(0≤k)by omega];rfl
noncomputable def ajI:dn:=⟨130,[.g sF],[.v zI],fun _=>true,kd⟩
theorem adF:ajI.Ok Tryz.prog:=fl ajT (eO []) [.tmp 2] mixed (ah CW (aC)) Tryz.func130 ag0
noncomputable def ad4:cX:=⟨Tryz.prog,[qN],dE [],13,[],[],[],[]⟩
noncomputable def abC(f:Nat)(a:Rg):Option Int:=aG ad4 (eO []) (zd Tryz.prog [.tmp 2] [.v zI]) f [.code (aB Tryz.f99)] (aQ [.g sF] a)
theorem UY(f:Nat)(r:Rg):abC (f+1) r =
  bif !valid (r.1,r.2)then some 0 else bif decide (0≤u64.wrap r.2)then some (i64.wrap (r.1+i64.wrap (1*2 ^ min (u64.wrap r.2).toNat i64.bits)))else none:=by kernel_rfl
theorem XD:∀a,(fun _=>true) a=true→∃f,abC f a=some (kd a):=by
 rintro⟨b,k⟩ _;refine⟨1,(UY 0 _).trans ?_⟩;cases hv:valid (b,k)
 ·simp[kd,hv]
 ·obtain⟨h1,h2,h3,h4,h5⟩:=gI hv
  dsimp only at h1 h2 h3 h4 h5
  have h6:=eZ k;have hu:u64.wrap k=k:=sD (by omega) (by omega);have hs:=sh1 (k:=k) (by omega) (by omega);simp only[hu,hs,kd,hv,az (n:=b+p2 k) (by omega) (by omega),show(0≤k)by omega];rfl
noncomputable def OL:dn:=⟨99,[.g sF],[.v zI],fun _=>true,kd⟩
theorem E2:OL.Ok Tryz.prog:=fl ad4 (eO []) [.tmp 2] mixed (ah kx (aC)) Tryz.func99 XD
noncomputable def aem:cX:=⟨Tryz.prog,[Hi,ajI],dE [(1,([(0,[]),(1,[]),(2,[]),(3,[]),(4,[]),(5,[]),(6,[]),(7,[]),(8,[]),(9,[]),(10,[]),(11,[]),(12,[]),(13,[]),(14,[]),(16,[]),(15,[]),(17,[]),(18,[]),(19,[]),(20,[])],[(4,24)]))],25,[],[],[],[]⟩
noncomputable def aca(f:Nat)(a:Rg×Rg):Option Bool:=aG aem (eO []) (zd Tryz.prog [.tmp 4] [.v .bool]) f [.code (aB Tryz.f96)] (aQ [.g sF,.g sF] a)
theorem Vi(f:Nat)(a:Rg)(b:Rg):aca (f+1) (a,b) =
  bif valid (a.1,a.2)then bif valid (b.1,b.2)then bif decide (a.1≤b.1)then some (decide (kd (b.1,b.2)≤kd (a.1,a.2)))else some false else some false else some false:=by kernel_rfl
theorem aad:∀a,(fun _=>true) a=true→∃f,aca f a=some (contains a):=by
 rintro⟨⟨b,k⟩,c,l⟩ _;refine⟨1,(Vi 0 _ _).trans ?_⟩;simp only[contains];cases valid (b,k)<;>cases valid (c,l)<;>cases hb:decide (b≤c)<;>simp_all
noncomputable def adM:dn:=⟨96,[.g sF,.g sF],[.v .bool],fun _=>true,contains⟩
theorem VO:adM.Ok Tryz.prog:=fl aem (eO []) [.tmp 4] mixed (ah CW (ah adF (aC))) Tryz.func96 aad
noncomputable def Sm:cX:=⟨Tryz.prog,[qN,OL],dE [(1,([(0,[]),(1,[]),(2,[]),(3,[]),(4,[]),(5,[]),(6,[]),(7,[]),(8,[]),(9,[]),(10,[]),(11,[]),(12,[]),(13,[]),(14,[]),(16,[]),(15,[]),(17,[]),(18,[]),(19,[]),(20,[])],[(4,24)]))],25,[],[],[],[]⟩
noncomputable def Q4(f:Nat)(a:Rg×Rg):Option Bool:=aG Sm (eO []) (zd Tryz.prog [.tmp 4] [.v .bool]) f [.code (aB Tryz.f63)] (aQ [.g sF,.g sF] a)
theorem Of(f:Nat)(a:Rg)(b:Rg):Q4 (f+1) (a,b) =
  bif valid (a.1,a.2)then bif valid (b.1,b.2)then bif decide (a.1≤b.1)then some (decide (kd (b.1,b.2)≤kd (a.1,a.2)))else some false else some false else some false:=by kernel_rfl
theorem Tj:∀a,(fun _=>true) a=true→∃f,Q4 f a=some (contains a):=by
 rintro⟨⟨b,k⟩,c,l⟩ _;refine⟨1,(Of 0 _ _).trans ?_⟩;simp only[contains];cases valid (b,k)<;>cases valid (c,l)<;>cases hb:decide (b≤c)<;>simp_all
noncomputable def R6:dn:=⟨63,[.g sF,.g sF],[.v .bool],fun _=>true,contains⟩
theorem OM:R6.Ok Tryz.prog:=fl Sm (eO []) [.tmp 4] mixed (ah kx (ah E2 (aC))) Tryz.func63 Tj
noncomputable def Sk:cX:=⟨Tryz.prog,[qN,OL],dE [(1,([(0,[]),(1,[]),(2,[]),(3,[]),(4,[]),(5,[]),(6,[]),(7,[]),(8,[]),(9,[]),(10,[]),(11,[]),(12,[]),(13,[]),(14,[]),(15,[]),(16,[]),(17,[]),(18,[]),(19,[]),(20,[])],[(4,24)]))],25,[],[],[],[]⟩
noncomputable def Q2(f:Nat)(a:Rg×Rg):Option Bool:=aG Sk (eO []) (zd Tryz.prog [.tmp 4] [.v .bool]) f [.code (aB Tryz.f135)] (aQ [.g sF,.g sF] a)
theorem Od(f:Nat)(a:Rg)(b:Rg):Q2 (f+1) (a,b) =
  bif valid (a.1,a.2)then bif valid (b.1,b.2)then bif decide (a.1<kd (b.1,b.2))then some (decide (b.1<kd (a.1,a.2)))else some false else some false else some false:=by kernel_rfl
theorem S6:∀a,(fun _=>true) a=true→∃f,Q2 f a=some (overlaps a):=by
 rintro⟨⟨b,k⟩,c,l⟩ _;refine⟨1,(Od 0 _ _).trans ?_⟩;simp only[overlaps];cases valid (b,k)<;>cases valid (c,l)<;>cases hb:decide (b<kd (c,l))<;>simp_all
noncomputable def R4:dn:=⟨135,[.g sF,.g sF],[.v .bool],fun _=>true,overlaps⟩
theorem OJ:R4.Ok Tryz.prog:=fl Sk (eO []) [.tmp 4] mixed (ah kx (ah E2 (aC))) Tryz.func135 S6
