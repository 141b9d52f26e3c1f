/- By an AI agent. -/
import Derived.Test.YtfggefeflojnkaaGreatProg
import Derived.Test.YtfggefeflojnkaaGreatAxAuto
namespace Go.AL
open Go.Proofs
theorem mixed:Tryz.prog.follows .mixedOrders=true:=by kernel_rfl
abbrev s8:List Ty:=[.int .i64,.int .i64]
abbrev Rg:=Int×Int
def valid(r:Rg):Bool:=decide (6≤r.2)&&(decide (r.2≤40)&&(decide (0≤r.1)&&(Int.tmod r.1 (p2 r.2) == 0&&decide (r.1+p2 r.2≤1099511627776))))
def sF(r:Rg):Int:=bif valid r then r.1+p2 r.2 else 0
def contains(a:Rg×Rg):Bool:=valid a.1&&(valid a.2&&(decide (a.1.1≤a.2.1)&&decide (sF a.2≤sF a.1)))
def overlaps(a:Rg×Rg):Bool:=valid a.1&&(valid a.2&&(decide (a.1.1<sF a.2)&&decide (a.2.1<sF a.1)))
theorem Af{r:Rg}(h:valid r=true):6≤r.2∧r.2≤40∧0≤r.1∧Int.tmod r.1 (p2 r.2)=0∧r.1+p2 r.2≤1099511627776:=by
 simpa [valid]using h
noncomputable def SV:cR:=⟨Tryz.prog,[],dn [],32,[],[],[],[]⟩
theorem abk:bp Tryz.prog [] [] []:=aD
def LL:Nat→LD:=ej []
noncomputable def RV(f:Nat)(a:Rg):Option (Bool):=(aG (SV) LL (aQ Tryz.prog [.tmp 2] [.v (.bool)]) f [.code (aC Tryz.f129)] (aV [.g s8] a):Option (aA [.v (.bool)]))
theorem Oz(f:Nat)(r:Rg):RV (f+1) r =
  bif decide (r.2<6)then some false else bif decide (r.2>40)then some false else bif decide (r.1<0)then some false else bif decide (0≤r.2)then bif IntKind.i64.wrap (1*2 ^ min (Int.toNat r.2) IntKind.i64.bits) != 0 then bif Int.tmod r.1 (IntKind.i64.wrap (1*2 ^ min (Int.toNat r.2) IntKind.i64.bits)) == 0 then some (decide (r.1≤IntKind.i64.wrap (1099511627776-IntKind.i64.wrap (1*2 ^ min (Int.toNat r.2) IntKind.i64.bits))))else some false else none else none:=by kernel_rfl
theorem Tm:∀a,(fun _=>true) a=true→∃f,RV f a=some (valid a):=by
 rintro⟨b,k⟩ _;refine⟨1,(Oz 0 _).trans ?_⟩;simp only[valid];by_cases h1:k<6
 ·simp[h1,show ¬ (6≤k)by omega]
 by_cases h2:k>40
 ·simp[h1,h2,show ¬ (k≤40)by omega]
 by_cases h3:b<0
 ·simp[h1,h2,h3,show ¬ (0≤b)by omega]
 have hs:=sh1 (k:=k) (by omega) (by omega);have h5:=AJ k;have h6:=QK (k:=k) (by omega);have ec:(p2 k != 0)=true:=by simp;omega
 simp only[hs,aN (n:=1099511627776-p2 k) (by omega) (by omega),ec,aCn];rw[nA h1,nA h2,nA h3,sd (by omega:0≤k)];have e1:decide (b≤1099511627776-p2 k)=decide (b+p2 k≤1099511627776):=aEc.2 (by omega);rw[e1];simp only[show 6≤k by omega,show k≤40 by omega,show 0≤b by omega,aEE,aCu];cases (Int.tmod b (p2 k) == 0)<;>rfl
noncomputable def wB:db:=⟨129,[.g s8],[.v (.bool)],fun a=>(fun _=>true:Rg→Bool) a,fun a=>(valid:Rg→Bool) a⟩
theorem Ce:wB.Ok Tryz.prog:=eB (C:=SV) (Lt:=LL) (rs:=[.tmp 2]) mixed abk Tryz.func129 rfl rfl rfl (by kernel_rfl) (by kernel_rfl) Tm
noncomputable def L8:cR:=⟨Tryz.prog,[],dn [],38,[],[],[],[]⟩
theorem UX:bp Tryz.prog [] [] []:=aD
def Eu:Nat→LD:=ej []
noncomputable def LH(f:Nat)(a:Rg):Option (Bool):=(aG (L8) Eu (aQ Tryz.prog [.tmp 2] [.v (.bool)]) f [.code (aC Tryz.f98)] (aV [.g s8] a):Option (aA [.v (.bool)]))
theorem LG(f:Nat)(r:Rg):LH (f+1) r =
  bif decide (r.2<6)then some false else bif decide (r.2>40)then some false else bif decide (r.1<0)then some false else bif decide (r.1≥1099511627776)then some false else bif decide (0≤IntKind.u64.wrap r.2)then bif IntKind.i64.wrap (1*2 ^ min (IntKind.u64.wrap r.2).toNat IntKind.i64.bits) != 0 then bif Int.tmod r.1 (IntKind.i64.wrap (1*2 ^ min (IntKind.u64.wrap r.2).toNat IntKind.i64.bits)) == 0 then some (decide (IntKind.i64.wrap (r.1+IntKind.i64.wrap (1*2 ^ min (IntKind.u64.wrap r.2).toNat IntKind.i64.bits))≤1099511627776))else some false else none else none:=by kernel_rfl
theorem MY:∀a,(fun _=>true) a=true→∃f,LH f a=some (valid a):=by
 rintro⟨b,k⟩ _;refine⟨1,(LG 0 _).trans ?_⟩;simp only[valid];by_cases h1:k<6
 ·simp[h1,show ¬ (6≤k)by omega]
 by_cases h2:k>40
 ·simp[h1,h2,show ¬ (k≤40)by omega]
 by_cases h3:b<0
 ·simp[h1,h2,h3,show ¬ (0≤b)by omega]
 have h5:=AJ k;by_cases h4:b≥1099511627776
 ·simp[h1,h2,h3,h4,show ¬ (b+p2 k≤1099511627776)by omega]
 have hu:IntKind.u64.wrap k=k:=ML (by omega) (by omega);have hs:=sh1 (k:=k) (by omega) (by omega);have h6:=QK (k:=k) (by omega);have ec:(p2 k != 0)=true:=by simp;omega
 simp only[hu,hs,aN (n:=b+p2 k) (by omega) (by omega),ec,aCn];rw[nA h1,nA h2,nA h3,nA h4,sd (by omega:0≤k)];simp only[show 6≤k by omega,show k≤40 by omega,show 0≤b by omega,aEE,aCu];cases (Int.tmod b (p2 k) == 0)<;>rfl
noncomputable def jX:db:=⟨98,[.g s8],[.v (.bool)],fun a=>(fun _=>true:Rg→Bool) a,fun a=>(valid:Rg→Bool) a⟩
theorem rH:jX.Ok Tryz.prog:=eB (C:=L8) (Lt:=Eu) (rs:=[.tmp 2]) mixed UX Tryz.func98 rfl rfl rfl (by kernel_rfl) (by kernel_rfl) MY
noncomputable def amg:cR:=⟨Tryz.prog,[wB],dn [(3,([(0,[]),(1,[]),(2,[]),(3,[]),(4,[]),(5,[]),(6,[])],[(2,2),(6,11)]))],12,[],[],[],[]⟩
theorem apz:bp Tryz.prog [wB] [] []:=ak Ce (aD)
def aes:Nat→LD:=ej []
noncomputable def alU(f:Nat)(a:Rg):Option (Int):=(aG (amg) aes (aQ Tryz.prog [.tmp 2] [.v (.int .i64)]) f [.code (aC Tryz.f130)] (aV [.g s8] a):Option (aA [.v (.int .i64)]))
theorem ad6(f:Nat)(r:Rg):alU (f+1) r =
  bif !valid (r.1,r.2)then some 0 else bif decide (0≤r.2)then some (IntKind.i64.wrap (r.1+IntKind.i64.wrap (1*2 ^ min (Int.toNat r.2) IntKind.i64.bits)))else none:=by kernel_rfl
theorem ajD:∀a,(fun _=>true) a=true→∃f,alU f a=some (sF a):=by
 rintro⟨b,k⟩ _;refine⟨1,(ad6 0 _).trans ?_⟩;cases hv:valid (b,k)
 ·simp[sF,hv]
 ·obtain⟨h1,h2,h3,h4,h5⟩:=Af hv
  dsimp only at h1 h2 h3 h4 h5
  have h6:=AJ k;have hs:=sh1 (k:=k) (by omega) (by omega);simp only[hs,sF,hv,aN (n:=b+p2 k) (by omega) (by omega),show(0≤k)by omega];rfl
noncomputable def afw:db:=⟨130,[.g s8],[.v (.int .i64)],fun a=>(fun _=>true:Rg→Bool) a,fun a=>(sF:Rg→Int) a⟩
theorem afv:afw.Ok Tryz.prog:=eB (C:=amg) (Lt:=aes) (rs:=[.tmp 2]) mixed apz Tryz.func130 rfl rfl rfl (by kernel_rfl) (by kernel_rfl) ajD
noncomputable def afU:cR:=⟨Tryz.prog,[jX],dn [],13,[],[],[],[]⟩
theorem ajc:bp Tryz.prog [jX] [] []:=ak rH (aD)
def Sk:Nat→LD:=ej []
noncomputable def adK(f:Nat)(a:Rg):Option (Int):=(aG (afU) Sk (aQ Tryz.prog [.tmp 2] [.v (.int .i64)]) f [.code (aC Tryz.f99)] (aV [.g s8] a):Option (aA [.v (.int .i64)]))
theorem V2(f:Nat)(r:Rg):adK (f+1) r =
  bif !valid (r.1,r.2)then some 0 else bif decide (0≤IntKind.u64.wrap r.2)then some (IntKind.i64.wrap (r.1+IntKind.i64.wrap (1*2 ^ min (IntKind.u64.wrap r.2).toNat IntKind.i64.bits)))else none:=by kernel_rfl
theorem Zu:∀a,(fun _=>true) a=true→∃f,adK f a=some (sF a):=by
 rintro⟨b,k⟩ _;refine⟨1,(V2 0 _).trans ?_⟩;cases hv:valid (b,k)
 ·simp[sF,hv]
 ·obtain⟨h1,h2,h3,h4,h5⟩:=Af hv
  dsimp only at h1 h2 h3 h4 h5
  have h6:=AJ k;have hu:IntKind.u64.wrap k=k:=ML (by omega) (by omega);have hs:=sh1 (k:=k) (by omega) (by omega);simp only[hu,hs,sF,hv,aN (n:=b+p2 k) (by omega) (by omega),show(0≤k)by omega];rfl
noncomputable def Pv:db:=⟨99,[.g s8],[.v (.int .i64)],fun a=>(fun _=>true:Rg→Bool) a,fun a=>(sF:Rg→Int) a⟩
theorem WS:Pv.Ok Tryz.prog:=eB (C:=afU) (Lt:=Sk) (rs:=[.tmp 2]) mixed ajc Tryz.func99 rfl rfl rfl (by kernel_rfl) (by kernel_rfl) Zu
noncomputable def agb:cR:=⟨Tryz.prog,[wB,afw],dn [(1,([(0,[]),(1,[]),(2,[]),(3,[]),(4,[]),(5,[]),(6,[]),(7,[]),(8,[]),(9,[]),(10,[]),(11,[]),(12,[]),(13,[]),(14,[]),(16,[]),(15,[]),(17,[]),(18,[]),(19,[]),(20,[])],[(4,24)]))],25,[],[],[],[]⟩
theorem ajv:bp Tryz.prog [wB,afw] [] []:=ak Ce (ak afv (aD))
def Sy:Nat→LD:=ej []
noncomputable def aee(f:Nat)(a:Rg×Rg):Option (Bool):=(aG (agb) Sy (aQ Tryz.prog [.tmp 4] [.v (.bool)]) f [.code (aC Tryz.f96)] (aV [.g s8,.g s8] a):Option (aA [.v (.bool)]))
theorem Wl(f:Nat)(a:Rg)(b:Rg):aee (f+1) (a,b) =
  bif valid (a.1,a.2)then bif valid (b.1,b.2)then bif decide (a.1≤b.1)then some (decide (sF (b.1,b.2)≤sF (a.1,a.2)))else some false else some false else some false:=by kernel_rfl
theorem abX:∀a,(fun _=>true) a=true→∃f,aee f a=some (contains a):=by
 rintro⟨⟨b,k⟩,c,l⟩ _;refine⟨1,(Wl 0 _ _).trans ?_⟩;simp only[contains];cases valid (b,k)<;>cases valid (c,l)<;>cases hb:decide (b≤c)<;>simp_all
noncomputable def PG:db:=⟨96,[.g s8,.g s8],[.v (.bool)],fun a=>(fun _=>true:Rg×Rg→Bool) a,fun a=>(contains:Rg×Rg→Bool) a⟩
theorem W6:PG.Ok Tryz.prog:=eB (C:=agb) (Lt:=Sy) (rs:=[.tmp 4]) mixed ajv Tryz.func96 rfl rfl rfl (by kernel_rfl) (by kernel_rfl) abX
noncomputable def S2:cR:=⟨Tryz.prog,[jX,Pv],dn [(1,([(0,[]),(1,[]),(2,[]),(3,[]),(4,[]),(5,[]),(6,[]),(7,[]),(8,[]),(9,[]),(10,[]),(11,[]),(12,[]),(13,[]),(14,[]),(16,[]),(15,[]),(17,[]),(18,[]),(19,[]),(20,[])],[(4,24)]))],25,[],[],[],[]⟩
theorem abr:bp Tryz.prog [jX,Pv] [] []:=ak rH (ak WS (aD))
def LP:Nat→LD:=ej []
noncomputable def R5(f:Nat)(a:Rg×Rg):Option (Bool):=(aG (S2) LP (aQ Tryz.prog [.tmp 4] [.v (.bool)]) f [.code (aC Tryz.f63)] (aV [.g s8,.g s8] a):Option (aA [.v (.bool)]))
theorem OG(f:Nat)(a:Rg)(b:Rg):R5 (f+1) (a,b) =
  bif valid (a.1,a.2)then bif valid (b.1,b.2)then bif decide (a.1≤b.1)then some (decide (sF (b.1,b.2)≤sF (a.1,a.2)))else some false else some false else some false:=by kernel_rfl
theorem Ue:∀a,(fun _=>true) a=true→∃f,R5 f a=some (contains a):=by
 rintro⟨⟨b,k⟩,c,l⟩ _;refine⟨1,(OG 0 _ _).trans ?_⟩;simp only[contains];cases valid (b,k)<;>cases valid (c,l)<;>cases hb:decide (b≤c)<;>simp_all
noncomputable def Hj:db:=⟨63,[.g s8,.g s8],[.v (.bool)],fun a=>(fun _=>true:Rg×Rg→Bool) a,fun a=>(contains:Rg×Rg→Bool) a⟩
theorem Px:Hj.Ok Tryz.prog:=eB (C:=S2) (Lt:=LP) (rs:=[.tmp 4]) mixed abr Tryz.func63 rfl rfl rfl (by kernel_rfl) (by kernel_rfl) Ue
