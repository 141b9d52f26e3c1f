/- AI. -/
import Derived.Test.YtfggefeflojnkaaGreatEg1
set_option linter.unusedVariables false
open Go.IntKind (i64 u64)
namespace Go.AL
open Go.Proofs
abbrev aF:List Ty:=[zI,zI,zI,zI,zI,.sl aE,zI,zI,zI,zI,zI,zI,.bool]
abbrev ag:=Int×Int×Int×Int×Int×(List aj)×Int×Int×Int×Int×Int×Int×Bool
def place(a:Int×Int):Int:=bif decide (a.2<1)then 0 else a.1 % a.2
def cP(a:Int×Int):Bool:=decide (a.2≤4611686018427387904)
def small(a:Int×Int):Rg:=(place (a.1,p2 (16-(6+place (a.2,11))))*p2 (6+place (a.2,11)),6+place (a.2,11))
noncomputable def Sn:cX:=zC [] (dE []) 16
noncomputable def Q6(f:Nat)(a:Int×Int):Option Int:=aG Sn (eO []) (zK [.tmp 4] [.v zI]) f [.code (aB Tryz.f11)] (aQ [.c zI,.c zI] a)
theorem Oh(f:Nat)(n size:Int):Q6 (f+1) (n,size) =
  bif decide (size<1)then some 0 else bif size != 0 then bif decide (n.tmod size<0)then some (i64.wrap (n.tmod size+size))else some (n.tmod size)else none:=by kernel_rfl
theorem SG{n s:Int}(h:0<s):n % s=if n.tmod s<0 then n.tmod s+s else n.tmod s:=by
 have h1:=Int.mul_tdiv_add_tmod n s;have h2:=aCh n h;have h3 : -s<n.tmod s:=by
  have:=aCh (-n) h;rw[Int.neg_tmod]at this;omega
 have e:n % s=(n.tmod s) % s:=by
  have:(s*n.tdiv s+n.tmod s) % s=n.tmod s % s:=by rw[Int.mul_add_emod_self_left]
  grind
 rw[e]
 split
 ·rename_i h4
  have:(n.tmod s+s) % s=n.tmod s % s:=by simp_all
  rw[← this];exact Int.emod_eq_of_lt (by omega) (by omega)
 ·rename_i h4
  exact Int.emod_eq_of_lt (by omega) h2
theorem Tp:∀a,cP a=true→∃f,Q6 f a=some (place a):=by
 rintro⟨n,s⟩ h;have h:s≤4611686018427387904:=azZ h;refine⟨1,(Oh 0 _ _).trans ?_⟩;unfold place;by_cases h1:s<1
 ·grind
 ·rw[eS h1,eS h1]
  have h2:(s != 0)=true:=by simp;omega
  have h3:=aCh n (by omega:0<s);have h4 : -s<n.tmod s:=by
   have:=aCh (-n) (by omega:0<s);rw[Int.neg_tmod]at this;omega
  rw[h2,azH,SG (by omega:0<s)];by_cases h5:n.tmod s<0
  ·rw[eR h5,azE h5,az (by omega) (by omega)]
  grind
theorem kY(n s:Int):0≤place (n,s):=by
 unfold place;by_cases h:s<1
 ·grind
 ·rw[eS h];exact Int.emod_nonneg _ (by grind)
theorem oz(n:Int){s:Int}(h:0<s):place (n,s)<s:=by
 unfold place;rw[eS (by grind)];exact Int.emod_lt_of_pos _ h
noncomputable def gY:dn:=⟨11,[.c zI,.c zI],[.v zI],cP,place⟩
theorem fk:zO gY:=fl Sn (eO []) [.tmp 4] mixed (aC) Tryz.func11 Tp
noncomputable def Sh:cX:=zC [gY] (dE []) 20
noncomputable def QW(f:Nat)(a:Int×Int):Option Rg:=aG Sh (eO []) (zK [.cell 4 72] [.g sF]) f [.code (aB Tryz.f133)] (aQ [.c zI,.c zI] a)
theorem N8(f:Nat)(base bits:Int):QW (f+1) (base,bits) =
  bif decide (0≤u64.wrap (i64.wrap (16-i64.wrap (6+place (bits,11)))))then bif cP (base,i64.wrap (1*2 ^ min (u64.wrap (i64.wrap (16-i64.wrap (6+place (bits,11))))).toNat i64.bits))then bif decide (0≤u64.wrap (i64.wrap (6+place (bits,11))))then some (i64.wrap (place (base,i64.wrap (1*2 ^ min (u64.wrap (i64.wrap (16-i64.wrap (6+place (bits,11))))).toNat i64.bits))*2 ^ min (u64.wrap (i64.wrap (6+place (bits,11)))).toNat i64.bits),i64.wrap (6+place (bits,11)))else none else none else none:=by kernel_rfl
theorem SO:∀a,(fun _=>true) a=true→∃f,QW f a=some (small a):=by
 rintro⟨base,bits⟩ _;refine⟨1,(N8 0 _ _).trans ?_⟩;have h1:=kY bits 11;have h2:=oz bits (s:=11) (by omega);simp only[small];generalize place (bits,11)=t at h1 h2 ⊢;rw[az (n:=6+t) (by omega) (by omega),az (n:=16-(6+t)) (by omega) (by omega),sD (n:=16-(6+t)) (by omega) (by omega),sD (n:=6+t) (by omega) (by omega)];rw[sh1 (k:=16-(6+t)) (by omega) (by omega)];have h3:=eZ (16-(6+t));have h4:=mj (k:=16-(6+t)) (by omega);have h5:cP (base,p2 (16-(6+t)))=true:=azC (by grind);have h6:=kY base (p2 (16-(6+t)));have h7:=oz base h3;have h8:place (base,p2 (16-(6+t)))*p2 (6+t)≤p2 (16-(6+t))*p2 (6+t):=aB5 (by omega) (aAV (eZ _));have h9:0≤place (base,p2 (16-(6+t)))*p2 (6+t):=aBR h6 (aAV (eZ _));have V5:p2 (16-(6+t))*p2 (6+t)=p2 16:=by rw[← MO (by omega) (by omega)];grind
 have h11:p2 16≤1099511627776:=mj (by omega);rw[shp (k:=6+t) (by omega) (by omega) (by omega) (by omega),h5];grind
noncomputable def RX:dn:=⟨133,[.c zI,.c zI],[.g sF],fun _=>true,small⟩
theorem OD:zO RX:=fl Sh (eO []) [.cell 4 72] mixed (ah fk (aC)) Tryz.func133 SO
def ba(a:List Int×Int):Int:=bif decide (a.2<0)then 0 else bif decide (a.2≥((a.1.length:Nat):Int))then 0 else a.1.getD a.2.toNat 0
noncomputable def arw:cX:=zC [] (dE []) 17
noncomputable def ari(f:Nat)(a:(List Int)×Int):Option Int:=aG arw (eO []) (zK [.tmp 4] [.v zI]) f [.code (aB Tryz.f35)] (aQ [.rd [zI],.c zI] a)
theorem aht(f:Nat)(l:List Int)(i:Int):ari (f+1) (l,i) =
  bif decide (i<0)then some 0 else bif decide (i≥(↑l.length:Int))then some 0 else bif decide (0≤i)&&decide (i<(↑l.length:Int))then some (l.getD i.toNat 0)else none:=by kernel_rfl
noncomputable def arp:((List Int)×Int)→Int
 | (l,i)=>bif decide (i<0)then 0 else bif decide (i≥(↑l.length:Int))then 0 else l.getD i.toNat 0
noncomputable def anm:((List Int)×Int)→Bool
 | (l,i)=>bif decide (i<0)then true else bif decide (i≥(↑l.length:Int))then true else decide (0≤i)&&decide (i<(↑l.length:Int))
theorem ahh:∀a:(List Int)×Int,de (fun f=>ari f a) (anm a) (arp a)
 | (l,i)=>ai (fun f=>aht f _ _) (ao ae (ao ae (cS ae)))
theorem auQ:∀a,(fun _=>true) a=true→anm a=true:=by
 rintro⟨l,i⟩ _;simp only[anm];grind
noncomputable def ahB:dn:=⟨35,[.rd [zI],.c zI],[.v zI],fun _=>true,ba⟩
theorem Hs:zO ahB:=fl arw (eO []) [.tmp 4] mixed (aC) Tryz.func35 (bp ahh auQ (fun _ _=>rfl))
noncomputable def ajM:cX:=zC [RX] (dE []) 14
noncomputable def aiZ(f:Nat)(a:Int×Int):Option bP:=aG ajM (eO []) (zK [.cell 4 52] [.g aev]) f [.code (aB Tryz.f100)] (aQ [.c zI,.c zI] a)
theorem abf(f:Nat)(base bits:Int):aiZ (f+1) (base,bits) =
  some (1,(small (base,bits)).1,(small (base,bits)).2,7,0,0,false):=by kernel_rfl
noncomputable def ajw:Rg→bP
 | (base,bits)=>(1,(small (base,bits)).1,(small (base,bits)).2,7,0,0,false)
noncomputable def aiS:Rg→Bool
 | (base,bits)=>true
theorem Wn:∀a:Int×Int,de (fun f=>aiZ f a) (aiS a) (ajw a)
 | (base,bits)=>ai (fun f=>abf f _ _) ae
def fY(a:Int×Int):bP:=(1,(small a).1,(small a).2,7,0,0,false)
noncomputable def ajC:dn:=⟨100,[.c zI,.c zI],[.g aev],fun _=>true,fY⟩
theorem ac2:zO ajC:=fl ajM (eO []) [.cell 4 52] mixed (ah OD (aC)) Tryz.func100 (bp Wn (fun _ _=>rfl) (fun _ _=>rfl))
def fv(e:ag):aj:=jm e.2.2
def lF(e:ag):List aj:=aZ e.2.2
def gb(e:ag):bP:=MZ e.2.2
def wL(l:List ag):Bool:=decide (l.length≤1099511627776)&&l.all fun e=>af e.2.2.2.2.2.1
theorem ki{l:List ag}(h:wL l=true):l.length≤1099511627776:=by
 simp only[wL,azF,azM]at h;exact h.1
theorem zj{l:List ag}(h:wL l=true){e:ag}(he:e∈l):af e.2.2.2.2.2.1=true:=by
 simp only[wL,azF]at h;grind
theorem FM{l:List ag}(h1:l.length≤1099511627776)(h2:∀e∈l,af e.2.2.2.2.2.1=true):wL l=true:=by
 simp only[wL,azF,azM];grind
noncomputable def Hz:cX:=zC [ni] (dE [(5,([(0,[]),(1,[]),(2,[]),(3,[]),(4,[]),(5,[]),(6,[]),(7,[]),(8,[]),(9,[]),(10,[]),(11,[]),(12,[]),(13,[]),(14,[]),(15,[]),(16,[]),(17,[]),(18,[]),(19,[]),(20,[])],[(3,3),(11,30)]))]) 32
def vF:Nat→LD:=eO [(0,⟨[.rd 0 aF,.list 3 999 69 13 aF,.c 4 (zI)],[],0⟩)]
noncomputable def Q5(f:Nat)(a:(List ag)):Option ((List ag)):=aG Hz vF (zK [.tmp 2] [.o 69 13 aF]) f [.code (aB Tryz.f137)] (aQ [.rd aF] a)
noncomputable def rH(f:Nat)(x:(List ag)×(List ag)×Int):Option ((List ag)):=aG Hz vF (zK [.tmp 2] [.o 69 13 aF]) f (aV Tryz.f137 0) ((vF 0).mk' x)
theorem Og(f:Nat)(l:List ag):Q5 (f+1) l =
  rH f (l,[],0):=by kernel_rfl
theorem vS(f:Nat)(l out:List ag)(i:Int):rH (f+1) (l,out,i) =
  bif decide (i<(↑l.length:Int))then bif decide (0≤i)&&decide (i<(↑l.length:Int))then bif decide (0≤i)&&decide (i<(↑l.length:Int))then bif decide (0≤i)&&decide (i<(↑l.length:Int))then bif af (l.getD i.toNat zq1).2.2.2.2.2.1 then bif decide ((out.length+[((l.getD i.toNat zq1).1,(l.getD i.toNat zq1).2.1,(l.getD i.toNat zq1).2.2)].length)*120≤140737488355328)then rH f (l,out++[l.getD i.toNat zq1],i64.wrap (i+1))else none else none else none else none else none else some out:=by kernel_rfl
noncomputable def jr:List ag→((List ag)×(List ag)×Nat)→(List ag)
 | [],(l,out,i)=>out
 | uu::rest,(l,out,i)=>jr rest (l,out++[uu],i+1)
noncomputable def lP:List ag→((List ag)×(List ag)×Nat)→Bool
 | [],(l,out,i)=>true
 | uu::rest,(l,out,i)=>af uu.2.2.2.2.2.1&&(decide ((out.length+1)*120≤140737488355328)&&lP rest (l,out++[uu],i+1))
theorem Fc:∀(rest l out:List ag) (i:Nat) (hd:l.drop i=rest) (hl:l.length≤1099511627776),de (fun f=>rH f (l,out,((i:Nat):Int))) (lP rest (l,out,i)) (jr rest (l,out,i))
 | [],l,out,i,hd,hl=>ai (fun f=>(vS f _ _ _).trans (by simp only[fA (bT hd),fW,azP,azI]<;>rfl)) ae
 | uu::rest,l,out,i,hd,hl=>ai (fun f=>(vS f _ _ _).trans (by simp only[cK (ak hd),bC hd,bk (ak hd) hl,fW,azQ,azH]<;>rfl)) (aI (aI (Fc rest _ _ _ (aH hd) hl)))
noncomputable def He:(List ag)→(List ag)
 | l=>jr l (l,[],0)
noncomputable def GU:(List ag)→Bool
 | l=>decide (l.length≤1099511627776)&&lP l (l,[],0)
theorem MI:∀a:(List ag),de (fun f=>Q5 f a) (GU a) (He a)
 | l=>ai (fun f=>Og f _) (bL fun hh=>Fc _ _ _ _ rfl (azZ hh))
theorem FK(l:List ag):∀(r out:List ag) (k:Nat),(∀e∈r,af e.2.2.2.2.2.1=true)→out.length+r.length≤1099511627776→jr r (l,out,k)=out++r∧lP r (l,out,k)=true
 | [],out,k,h,hl=>⟨by simp[jr],rfl⟩
 | u::r,out,k,h,hl=>by
  obtain⟨i1,i2⟩:=FK l r (out++[u]) (k+1) (fun e he=>h e (az6 _ he)) (by grind);have h1:=h u (az1 ..);grind[jr,lP]
theorem afF:∀a,wL a=true→GU a=true:=fun a h=>by
 simp only[GU,(FK a a [] 0 (fun e he=>zj h he) (by grind[ki])).2,aAt];exact azC (ki h)
theorem afG:∀a,wL a=true→He a=a:=fun a h=>by
 simp only[He,(FK a a [] 0 (fun e he=>zj h he) (by grind[ki])).1,aAs]
noncomputable def R7:dn:=⟨137,[.rd aF],[.o 69 13 aF],wL,fun a:(List ag)=>a⟩
theorem ON:zO R7:=fl Hz vF [.tmp 2] mixed (ah gR (aC)) Tryz.func137 (bp MI afF afG)
def bu{α:Type}(p:α→Bool):List α→Int→Int
 | [],_=>-1
 | u::r,k=>bif p u then k else bu p r (k+1)
def dV(l:List ag)(id:aj):Int:=bu (fun e=>decide (fv e=id)) l 0
def atE(l:List ag)(core slot:Int):Int:=bu (fun e=>decide (e.1=core)&&decide (e.2.1=slot)) l 0
theorem amL(u:ag)(id:aj):(u.2.2.1 == id.1&&(u.2.2.2.1 == id.2.1&&(u.2.2.2.2.1 == id.2.2&&true)))=decide (fv u=id):=id_eq (fv u) id
noncomputable def Hv:cX:=zC [] (dE [(4,([(0,[]),(1,[]),(2,[]),(3,[]),(4,[]),(5,[]),(6,[]),(7,[])],[(12,19)]))]) 21
def vE:Nat→LD:=eO [(0,⟨[.rd 0 aF,.box 3 3 48 3 aE,.c 5 (zI)],[],0⟩)]
noncomputable def Q3(f:Nat)(a:(List ag)×aj):Option Int:=aG Hv vE (zK [.tmp 4] [.v zI]) f [.code (aB Tryz.f134)] (aQ [.rd aF,.g aE] a)
noncomputable def rG(f:Nat)(x:(List ag)×aj×Int):Option Int:=aG Hv vE (zK [.tmp 4] [.v zI]) f (aV Tryz.f134 0) ((vE 0).mk' x)
theorem Oe(f:Nat)(l:List ag)(id:aj):Q3 (f+1) (l,id) =
  rG f (l,id,0):=by kernel_rfl
theorem vP(f:Nat)(l:List ag)(id:aj)(i:Int):rG (f+1) (l,id,i) =
  bif decide (i<(↑l.length:Int))then bif decide (0≤i)&&decide (i<(↑l.length:Int))then bif(l.getD i.toNat zq1).2.2.1 == id.1&&((l.getD i.toNat zq1).2.2.2.1 == id.2.1&&((l.getD i.toNat zq1).2.2.2.2.1 == id.2.2&&true))then some i else rG f (l,id,i64.wrap (i+1))else none else some (-1):=by kernel_rfl
noncomputable def lV:List ag→((List ag)×aj×Nat)→Int
 | [],(l,id,i)=>-1
 | uu::rest,(l,id,i)=>bif uu.2.2.1 == id.1&&(uu.2.2.2.1 == id.2.1&&(uu.2.2.2.2.1 == id.2.2&&true))then(↑i:Int)else lV rest (l,id,i+1)
noncomputable def lN:List ag→((List ag)×aj×Nat)→Bool
 | [],(l,id,i)=>true
 | uu::rest,(l,id,i)=>bif uu.2.2.1 == id.1&&(uu.2.2.2.1 == id.2.1&&(uu.2.2.2.2.1 == id.2.2&&true))then true else lN rest (l,id,i+1)
theorem Fb:∀(rest l:List ag) (id:aj) (i:Nat) (hd:l.drop i=rest) (hl:l.length≤1099511627776),de (fun f=>rG f (l,id,((i:Nat):Int))) (lN rest (l,id,i)) (lV rest (l,id,i))
 | [],l,id,i,hd,hl=>ai (fun f=>(vP f _ _ _).trans (by simp only[fA (bT hd),fW,azP,azI]<;>rfl)) ae
 | uu::rest,l,id,i,hd,hl=>ai (fun f=>(vP f _ _ _).trans (by simp only[cK (ak hd),bC hd,bk (ak hd) hl,fW,azQ,azH]<;>rfl)) (ao ae (Fb rest _ _ _ (aH hd) hl))
noncomputable def Hc:((List ag)×aj)→Int
 | (l,id)=>lV l (l,id,0)
noncomputable def GR:((List ag)×aj)→Bool
 | (l,id)=>decide (l.length≤1099511627776)&&lN l (l,id,0)
theorem MC:∀a:(List ag)×aj,de (fun f=>Q3 f a) (GR a) (Hc a)
 | (l,id)=>ai (fun f=>Oe f _ _) (bL fun hh=>Fb _ _ _ _ rfl (azZ hh))
theorem FH(l:List ag)(id:aj):∀(r:List ag) (k:Nat),lV r (l,id,k)=bu (fun e=>decide (fv e=id)) r k∧lN r (l,id,k)=true
 | [],k=>⟨rfl,rfl⟩
 | u::r,k=>by
  obtain⟨i1,i2⟩:=FH l id r (k+1);grind[lV,lN,bu,amL,fv]
theorem afx:∀a:List ag×aj,af a.1=true→GR a=true:=fun a h=>by simp only[GR,(FH _ _ _ _).2,aAt];exact h
theorem afy:∀a:List ag×aj,af a.1=true→Hc a=dV a.1 a.2:=fun a h=>by simp only[Hc,(FH _ _ _ _).1];rfl
noncomputable def Ho:dn:=⟨134,[.rd aF,.g aE],[.v zI],fun a:(List ag)×aj=>af a.1,fun a:(List ag)×aj=>dV a.1 a.2⟩
theorem CX:zO Ho:=fl Hv vE [.tmp 4] mixed (aC) Tryz.func134 (bp MC afx afy)
noncomputable def aea:cX:=zC [] (dE []) 31
def G1:Nat→LD:=eO [(0,⟨[.rd 0 aF,.c 1 (zI),.c 2 (zI),.c 7 (zI)],[],0⟩)]
noncomputable def ai8(f:Nat)(a:(List ag)×Int×Int):Option Int:=aG aea G1 (zK [.tmp 6] [.v zI]) f [.code (aB Tryz.f149)] (aQ [.rd aF,.c zI,.c zI] a)
noncomputable def vT(f:Nat)(x:(List ag)×Int×Int×Int):Option Int:=aG aea G1 (zK [.tmp 6] [.v zI]) f (aV Tryz.f149 0) ((G1 0).mk' x)
theorem abK(f:Nat)(l:List ag)(core slot:Int):ai8 (f+1) (l,core,slot) =
  vT f (l,core,slot,0):=by kernel_rfl
theorem CM(f:Nat)(l:List ag)(core slot i:Int):vT (f+1) (l,core,slot,i) =
  bif decide (i<(↑l.length:Int))then bif decide (0≤i)&&decide (i<(↑l.length:Int))then bif(l.getD i.toNat zq1).1 == core then bif decide (0≤i)&&decide (i<(↑l.length:Int))then bif(l.getD i.toNat zq1).2.1 == slot then some i else vT f (l,core,slot,i64.wrap (i+1))else none else vT f (l,core,slot,i64.wrap (i+1))else none else some (-1):=by kernel_rfl
noncomputable def rN:List ag→((List ag)×Int×Int×Nat)→Int
 | [],(l,core,slot,i)=>-1
 | uu::rest,(l,core,slot,i)=>bif uu.1 == core then bif uu.2.1 == slot then(↑i:Int)else rN rest (l,core,slot,i+1)else rN rest (l,core,slot,i+1)
noncomputable def rA:List ag→((List ag)×Int×Int×Nat)→Bool
 | [],(l,core,slot,i)=>true
 | uu::rest,(l,core,slot,i)=>bif uu.1 == core then bif uu.2.1 == slot then true else rA rest (l,core,slot,i+1)else rA rest (l,core,slot,i+1)
theorem H2:∀(rest l:List ag) (core slot:Int) (i:Nat) (hd:l.drop i=rest) (hl:l.length≤1099511627776),de (fun f=>vT f (l,core,slot,((i:Nat):Int))) (rA rest (l,core,slot,i)) (rN rest (l,core,slot,i))
 | [],l,core,slot,i,hd,hl=>ai (fun f=>(CM f _ _ _ _).trans (by simp only[fA (bT hd),fW,azP,azI]<;>rfl)) ae
 | uu::rest,l,core,slot,i,hd,hl=>ai (fun f=>(CM f _ _ _ _).trans (by simp only[cK (ak hd),bC hd,bk (ak hd) hl,fW,azQ,azH]<;>rfl)) (ao (ao ae (H2 rest _ _ _ _ (aH hd) hl)) (H2 rest _ _ _ _ (aH hd) hl))
noncomputable def acJ:((List ag)×Int×Int)→Int
 | (l,core,slot)=>rN l (l,core,slot,0)
noncomputable def aaY:((List ag)×Int×Int)→Bool
 | (l,core,slot)=>decide (l.length≤1099511627776)&&rA l (l,core,slot,0)
theorem XH:∀a:(List ag)×Int×Int,de (fun f=>ai8 f a) (aaY a) (acJ a)
 | (l,core,slot)=>ai (fun f=>abK f _ _ _) (bL fun hh=>H2 _ _ _ _ _ rfl (azZ hh))
theorem XJ(l:List ag)(c s:Int):∀(r:List ag) (k:Nat),rN r (l,c,s,k)=bu (fun e=>decide (e.1=c)&&decide (e.2.1=s)) r k∧rA r (l,c,s,k)=true
 | [],k=>⟨rfl,rfl⟩
 | u::r,k=>by
  obtain⟨i1,i2⟩:=XJ l c s r (k+1);simp only[rN,rA,bu,xm,i1,i2];grind
theorem ao0:∀a:List ag×Int×Int,af a.1=true→aaY a=true:=fun a h=>by simp only[aaY,(XJ _ _ _ _ _).2,aAt];exact h
theorem ao1:∀a:List ag×Int×Int,af a.1=true→acJ a=atE a.1 a.2.1 a.2.2:=fun a h=>by simp only[acJ,(XJ _ _ _ _ _).1];rfl
noncomputable def ajF:dn:=⟨149,[.rd aF,.c zI,.c zI],[.v zI],fun a:(List ag)×Int×Int=>af a.1,fun a:(List ag)×Int×Int=>atE a.1 a.2.1 a.2.2⟩
theorem adq:zO ajF:=fl aea G1 [.tmp 6] mixed (aC) Tryz.func149 (bp XH ao0 ao1)
def oK(e:ag):List ag→List ag
 | []=>[e]
 | u::r=>bif cw (fv e,fv u)then e::u::r else u::oK e r
def wR(a:List ag×ag):List ag×Bool:=bif decide (dV a.1 (fv a.2)≥0) || decide (atE a.1 a.2.1 a.2.2.1≥0)then([],false)else(oK a.2 a.1,true)
theorem XZ{l:List ag}(h:wL l=true)(k:Nat):wL (l.take k)=true:=
 FM (by have:=ki h;rw[az5];omega) (fun e he=>zj h (aAY he))
theorem X0{l:List ag}(h:wL l=true)(k:Nat):wL (l.drop k)=true:=
 FM (by have:=ki h;rw[aAe];omega) (fun e he=>zj h (aA2 he))
noncomputable def OV:cX:=zC [Ho,ajF,Hq,R7,ni] (dE [(4,([(0,[]),(1,[]),(2,[]),(3,[]),(4,[]),(5,[]),(6,[]),(7,[]),(8,[]),(9,[]),(10,[]),(11,[]),(12,[]),(13,[]),(14,[]),(15,[]),(16,[])],[(23,39)])),(6,([(0,[]),(1,[]),(2,[]),(4,[]),(5,[]),(6,[]),(7,[]),(8,[]),(9,[]),(3,[]),(10,[]),(11,[]),(12,[]),(13,[]),(14,[])],[(7,7),(42,55)]))]) 62
def Ab:Nat→LD:=eO [(0,⟨[.rd 0 aF,.box 3 3 69 13 aF,.c 6 (zI)],[],0⟩)]
noncomputable def abz(f:Nat)(a:(List ag)×ag):Option ((List ag)×Bool):=aG OV Ab (zK [.tmp 4,.tmp 5] [.o 69 13 aF,.v .bool]) f [.code (aB Tryz.f136)] (aQ [.rd aF,.g aF] a)
noncomputable def vO(f:Nat)(x:(List ag)×ag×Int):Option ((List ag)×Bool):=aG OV Ab (zK [.tmp 4,.tmp 5] [.o 69 13 aF,.v .bool]) f (aV Tryz.f136 0) ((Ab 0).mk' x)
theorem UU(f:Nat)(l:List ag)(e:ag):abz (f+1) (l,e) =
  bif af l then bif decide (dV l (e.2.2.1,e.2.2.2.1,e.2.2.2.2.1)≥0)then some ([],false)else bif af l then bif decide (atE l e.1 e.2.1≥0)then some ([],false)else vO f (l,e,0)else none else none:=by kernel_rfl
theorem ym(f:Nat)(l:List ag)(e:ag)(k:Int):vO (f+1) (l,e,k) =
  bif decide (k<(↑l.length:Int))then bif decide (0≤k)&&decide (k<(↑l.length:Int))then bif !cw ((e.2.2.1,e.2.2.2.1,e.2.2.2.2.1),(l.getD k.toNat zq1).2.2.1,(l.getD k.toNat zq1).2.2.2.1,(l.getD k.toNat zq1).2.2.2.2.1)then vO f (l,e,i64.wrap (k+1))else bif decide (0≤k)&&decide (k≤(↑l.length:Int))then bif wL (List.take k.toNat l)then bif af e.2.2.2.2.2.1 then bif decide (((List.take k.toNat l).length+[e].length)*120≤140737488355328)then bif decide (0≤k)&&decide (k≤(↑l.length:Int))then bif wL (List.drop k.toNat l)then bif decide (((List.take k.toNat l++[e]).length+(List.drop k.toNat l).length)*120≤140737488355328)then some (List.take k.toNat l++[e]++List.drop k.toNat l,true)else none else none else none else none else none else none else none else none else bif decide (0≤k)&&decide (k≤(↑l.length:Int))then bif wL (List.take k.toNat l)then bif af e.2.2.2.2.2.1 then bif decide (((List.take k.toNat l).length+[e].length)*120≤140737488355328)then bif decide (0≤k)&&decide (k≤(↑l.length:Int))then bif wL (List.drop k.toNat l)then bif decide (((List.take k.toNat l++[e]).length+(List.drop k.toNat l).length)*120≤140737488355328)then some (List.take k.toNat l++[e]++List.drop k.toNat l,true)else none else none else none else none else none else none else none:=by kernel_rfl
noncomputable def lU:List ag→((List ag)×ag×Nat)→(List ag)×Bool
 | [],(l,e,k)=>(List.take (↑k:Int).toNat l++[e]++List.drop (↑k:Int).toNat l,true)
 | uu::rest,(l,e,k)=>bif !cw ((e.2.2.1,e.2.2.2.1,e.2.2.2.2.1),uu.2.2.1,uu.2.2.2.1,uu.2.2.2.2.1)then lU rest (l,e,k+1)else(List.take (↑k:Int).toNat l++[e]++List.drop (↑k:Int).toNat l,true)
noncomputable def qj:List ag→((List ag)×ag×Nat)→Bool
 | [],(l,e,k)=>decide ((↑k:Int)≤(↑l.length:Int))&&(wL (List.take (↑k:Int).toNat l)&&(af e.2.2.2.2.2.1&&(decide (((List.take (↑k:Int).toNat l).length+[e].length)*120≤140737488355328)&&(decide ((↑k:Int)≤(↑l.length:Int))&&(wL (List.drop (↑k:Int).toNat l)&&decide (((List.take (↑k:Int).toNat l++[e]).length+(List.drop (↑k:Int).toNat l).length)*120≤140737488355328))))))
 | uu::rest,(l,e,k)=>bif !cw ((e.2.2.1,e.2.2.2.1,e.2.2.2.2.1),uu.2.2.1,uu.2.2.2.1,uu.2.2.2.2.1)then qj rest (l,e,k+1)else decide ((↑k:Int)≤(↑l.length:Int))&&(wL (List.take (↑k:Int).toNat l)&&(af e.2.2.2.2.2.1&&(decide (((List.take (↑k:Int).toNat l).length+[e].length)*120≤140737488355328)&&(decide ((↑k:Int)≤(↑l.length:Int))&&(wL (List.drop (↑k:Int).toNat l)&&decide (((List.take (↑k:Int).toNat l++[e]).length+(List.drop (↑k:Int).toNat l).length)*120≤140737488355328))))))
theorem LW:∀(rest l:List ag) (e:ag) (k:Nat) (hd:l.drop k=rest) (hl:l.length≤1099511627776),de (fun f=>vO f (l,e,((k:Nat):Int))) (qj rest (l,e,k)) (lU rest (l,e,k))
 | [],l,e,k,hd,hl=>ai (fun f=>(ym f _ _ _).trans (by simp only[fA (bT hd),fW,azP,azI]<;>rfl)) (aI (aI (aI (aI (aI (aI (cS ae)))))))
 | uu::rest,l,e,k,hd,hl=>ai (fun f=>(ym f _ _ _).trans (by simp only[cK (ak hd),bC hd,bk (ak hd) hl,fW,azQ,azP,azH]<;>rfl)) (ao (LW rest _ _ _ (aH hd) hl) (aI (aI (aI (aI (aI (aI (cS ae))))))))
noncomputable def Ov:((List ag)×ag)→(List ag)×Bool
 | (l,e)=>bif decide (dV l (e.2.2.1,e.2.2.2.1,e.2.2.2.2.1)≥0)then([],false)else bif decide (atE l e.1 e.2.1≥0)then([],false)else lU l (l,e,0)
noncomputable def NZ:((List ag)×ag)→Bool
 | (l,e)=>af l&&bif decide (dV l (e.2.2.1,e.2.2.2.1,e.2.2.2.2.1)≥0)then true else af l&&bif decide (atE l e.1 e.2.1≥0)then true else decide (l.length≤1099511627776)&&qj l (l,e,0)
theorem S9:∀a:(List ag)×ag,de (fun f=>abz f a) (NZ a) (Ov a)
 | (l,e)=>ai (fun f=>UU f _ _) (aI (ao ae (aI (ao ae (bL fun hh=>LW _ _ _ _ rfl (azZ hh))))))
theorem Xs(l:List ag)(e:ag)(hl:wL l=true)(he:af e.2.2.2.2.2.1=true):∀(r:List ag) (k:Nat),l.drop k=r→k≤l.length→lU r (l,e,k)=(l.take k++oK e r,true)∧qj r (l,e,k)=true:=by
 have len:=ki hl;have base:∀k:Nat,k≤l.length→(decide ((k:Int)≤((l.length:Nat):Int))&&(wL (List.take (k:Int).toNat l)&&(af e.2.2.2.2.2.1&&(decide (((List.take (k:Int).toNat l).length+[e].length)*120≤140737488355328)&&(decide ((k:Int)≤((l.length:Nat):Int))&&(wL (List.drop (k:Int).toNat l)&&decide (((List.take (k:Int).toNat l++[e]).length+(List.drop (k:Int).toNat l).length)*120≤140737488355328)))))))=true:=by
  intro k hk;rw[aAn,XZ hl,X0 hl,he,azC (show(k:Int)≤((l.length:Nat):Int)by omega)];simp only[azP,azF,azM,azG,az5,aAe,aAl];omega
 intro r;induction r with
 | nil=>
  intro k h hk;refine⟨?_,base k hk⟩;simp only[lU,aAn,oK,h,aAc]
 | cons u r ih=>
  intro k h hk;obtain⟨i1,i2⟩:=ih (k+1) (aH h) (ak h);have e1:cw ((e.2.2.1,e.2.2.2.1,e.2.2.2.2.1),u.2.2.1,u.2.2.2.1,u.2.2.2.2.1)=cw (fv e,fv u):=rfl;constructor
  ·simp only[lU,oK,e1,i1,aAn]
   cases cw (fv e,fv u)
   ·simp[jx h]
   ·simp[h]
  ·simp only[qj,e1,i2]
   cases cw (fv e,fv u)
   all_goals grind
def kF(a:List ag×ag):Bool:=wL a.1&&af a.2.2.2.2.2.2.1
theorem akI:∀a:List ag×ag,kF a=true→NZ a=true:=by
 rintro⟨l,e⟩ h;simp only[kF,azF]at h;have h1:af l=true:=azC (ki h.1);simp only[NZ,h1,(Xs l e h.1 h.2 l 0 rfl (by omega)).2,azC (ki h.1),azQ,azP];grind
theorem akJ:∀a:List ag×ag,kF a=true→Ov a=wR a:=by
 rintro⟨l,e⟩ h;simp only[kF,azF]at h;simp only[Ov,wR,(Xs l e h.1 h.2 l 0 rfl (by omega)).1];show(bif decide (dV l (fv e)≥0)then _ else _)=_;grind
noncomputable def adh:dn:=⟨136,[.rd aF,.g aF],[.o 69 13 aF,.v .bool],kF,wR⟩
theorem Vy:zO adh:=fl OV Ab [.tmp 4,.tmp 5] mixed (ah CX (ah adq (ah E5 (ah ON (ah gR (aC)))))) Tryz.func136 (bp S9 akI akJ)
def nV(c:bP):Rg:=(c.2.1,c.2.2.1)
def JF(e:ag):Rg:=nV (gb e)
def zEn:ag:=zq1
def Nq(l:List ag)(s:Int)(c:bP)(e:ag):Bool:=overlaps (JF e,nV c)&&!(decide (s≥0)&&(decide ((gb e).1=1)&&contains (JF e,JF (l.getD s.toNat zEn))))
def mz(a:List ag×aj×List bP):Bool:=a.2.2.any fun c=>a.1.any (Nq a.1 (dV a.1 a.2.1) c)
theorem jO{α:Type}(p:α→Bool):∀(l:List α) (k:Int),0≤k→bu p l k<k+l.length
 | [],k,h=>by simp only[bu,az2];omega
 | u::r,k,h=>by
  have:=jO p r (k+1) (by omega);simp only[bu,azL];grind
noncomputable def Hx:cX:=zC [Ho,OI,R6,R4] (dE [(9,([(0,[]),(1,[]),(2,[]),(3,[]),(4,[]),(5,[]),(6,[]),(7,[]),(8,[]),(10,[]),(11,[]),(12,[]),(13,[]),(14,[]),(15,[]),(9,[]),(16,[]),(17,[]),(18,[]),(19,[])],[(11,11),(33,51)])),(10,([(0,[]),(2,[]),(3,[]),(4,[]),(5,[]),(1,[]),(6,[]),(7,[]),(8,[]),(9,[]),(10,[]),(11,[])],[(52,63)]))]) 64
def rC:Nat→LD:=eO [(0,⟨[.rd 0 aF,.rd 2 aev,.c 7 (zI),.c 8 (zI)],[],0⟩),(2,⟨[.rd 0 aF,.rd 2 aev,.c 7 (zI),.c 8 (zI),.c 9 (zI)],[],0⟩)]
noncomputable def abH(f:Nat)(a:(List ag)×aj×(List bP)):Option Bool:=aG Hx rC (zK [.tmp 6] [.v .bool]) f [.code (aB Tryz.f101)] (aQ [.rd aF,.g aE,.rd aev] a)
noncomputable def qB(f:Nat)(x:(List ag)×(List bP)×Int×Int):Option Bool:=aG Hx rC (zK [.tmp 6] [.v .bool]) f (aV Tryz.f101 0) ((rC 0).mk' x)
noncomputable def jY(f:Nat)(x:(List ag)×(List bP)×Int×Int×Int):Option Bool:=aG Hx rC (zK [.tmp 6] [.v .bool]) f (aV Tryz.f101 2) ((rC 2).mk' x)
theorem U2(f:Nat)(l:List ag)(src:aj)(aw:List bP):abH (f+1) (l,src,aw) =
  bif af l then qB f (l,aw,dV l src,0)else none:=by kernel_rfl
theorem yp(f:Nat)(l:List ag)(aw:List bP)(s i:Int):qB (f+1) (l,aw,s,i) =
  bif decide (i<(↑aw.length:Int))then jY f (l,aw,s,i,0)else some false:=by kernel_rfl
theorem yo(f:Nat)(l:List ag)(aw:List bP)(s i k:Int):jY (f+1) (l,aw,s,i,k) =
  bif decide (k<(↑l.length:Int))then bif decide (0≤k)&&decide (k<(↑l.length:Int))then bif decide (s≥0)then bif(l.getD k.toNat zq1).2.2.2.2.2.2.1 == 1 then bif decide (0≤s)&&decide (s<(↑l.length:Int))then bif decide (0≤i)&&decide (i<(↑aw.length:Int))then bif overlaps (((l.getD k.toNat zq1).2.2.2.2.2.2.2.1,(l.getD k.toNat zq1).2.2.2.2.2.2.2.2.1),(aw.getD i.toNat (0,0,0,0,0,0,false)).2.1,(aw.getD i.toNat (0,0,0,0,0,0,false)).2.2.1)then bif !contains (((l.getD k.toNat zq1).2.2.2.2.2.2.2.1,(l.getD k.toNat zq1).2.2.2.2.2.2.2.2.1),(l.getD s.toNat zq1).2.2.2.2.2.2.2.1,(l.getD s.toNat zq1).2.2.2.2.2.2.2.2.1)then some true else jY f (l,aw,s,i,i64.wrap (k+1))else jY f (l,aw,s,i,i64.wrap (k+1))else none else none else bif decide (0≤i)&&decide (i<(↑aw.length:Int))then bif overlaps (((l.getD k.toNat zq1).2.2.2.2.2.2.2.1,(l.getD k.toNat zq1).2.2.2.2.2.2.2.2.1),(aw.getD i.toNat (0,0,0,0,0,0,false)).2.1,(aw.getD i.toNat (0,0,0,0,0,0,false)).2.2.1)then some true else jY f (l,aw,s,i,i64.wrap (k+1))else none else bif decide (0≤i)&&decide (i<(↑aw.length:Int))then bif overlaps (((l.getD k.toNat zq1).2.2.2.2.2.2.2.1,(l.getD k.toNat zq1).2.2.2.2.2.2.2.2.1),(aw.getD i.toNat (0,0,0,0,0,0,false)).2.1,(aw.getD i.toNat (0,0,0,0,0,0,false)).2.2.1)then some true else jY f (l,aw,s,i,i64.wrap (k+1))else none else none else qB f (l,aw,s,i64.wrap (i+1)):=by kernel_rfl
noncomputable def iC(K_0:((List ag)×(List bP)×Int×Nat)→Bool):List ag→((List ag)×(List bP)×Int×Nat×Nat)→Bool
 | [],(l,aw,s,i,k)=>K_0 (l,aw,s,i+1)
 | uu::rest,(l,aw,s,i,k)=>bif decide (s≥0)then bif uu.2.2.2.2.2.2.1 == 1 then bif overlaps ((uu.2.2.2.2.2.2.2.1,uu.2.2.2.2.2.2.2.2.1),(aw.getD (↑i:Int).toNat (0,0,0,0,0,0,false)).2.1,(aw.getD (↑i:Int).toNat (0,0,0,0,0,0,false)).2.2.1)then bif !contains ((uu.2.2.2.2.2.2.2.1,uu.2.2.2.2.2.2.2.2.1),(l.getD s.toNat zq1).2.2.2.2.2.2.2.1,(l.getD s.toNat zq1).2.2.2.2.2.2.2.2.1)then true else iC K_0 rest (l,aw,s,i,k+1)else iC K_0 rest (l,aw,s,i,k+1)else bif overlaps ((uu.2.2.2.2.2.2.2.1,uu.2.2.2.2.2.2.2.2.1),(aw.getD (↑i:Int).toNat (0,0,0,0,0,0,false)).2.1,(aw.getD (↑i:Int).toNat (0,0,0,0,0,0,false)).2.2.1)then true else iC K_0 rest (l,aw,s,i,k+1)else bif overlaps ((uu.2.2.2.2.2.2.2.1,uu.2.2.2.2.2.2.2.2.1),(aw.getD (↑i:Int).toNat (0,0,0,0,0,0,false)).2.1,(aw.getD (↑i:Int).toNat (0,0,0,0,0,0,false)).2.2.1)then true else iC K_0 rest (l,aw,s,i,k+1)
noncomputable def iA(LJ:((List ag)×(List bP)×Int×Nat)→Bool):List ag→((List ag)×(List bP)×Int×Nat×Nat)→Bool
 | [],(l,aw,s,i,k)=>LJ (l,aw,s,i+1)
 | uu::rest,(l,aw,s,i,k)=>bif decide (s≥0)then bif uu.2.2.2.2.2.2.1 == 1 then decide (0≤s)&&decide (s<(↑l.length:Int))&&bif overlaps ((uu.2.2.2.2.2.2.2.1,uu.2.2.2.2.2.2.2.2.1),(aw.getD (↑i:Int).toNat (0,0,0,0,0,0,false)).2.1,(aw.getD (↑i:Int).toNat (0,0,0,0,0,0,false)).2.2.1)then bif !contains ((uu.2.2.2.2.2.2.2.1,uu.2.2.2.2.2.2.2.2.1),(l.getD s.toNat zq1).2.2.2.2.2.2.2.1,(l.getD s.toNat zq1).2.2.2.2.2.2.2.2.1)then true else iA LJ rest (l,aw,s,i,k+1)else iA LJ rest (l,aw,s,i,k+1)else bif overlaps ((uu.2.2.2.2.2.2.2.1,uu.2.2.2.2.2.2.2.2.1),(aw.getD (↑i:Int).toNat (0,0,0,0,0,0,false)).2.1,(aw.getD (↑i:Int).toNat (0,0,0,0,0,0,false)).2.2.1)then true else iA LJ rest (l,aw,s,i,k+1)else bif overlaps ((uu.2.2.2.2.2.2.2.1,uu.2.2.2.2.2.2.2.2.1),(aw.getD (↑i:Int).toNat (0,0,0,0,0,0,false)).2.1,(aw.getD (↑i:Int).toNat (0,0,0,0,0,0,false)).2.2.1)then true else iA LJ rest (l,aw,s,i,k+1)
theorem qP{K_0:((List ag)×(List bP)×Int×Nat)→Bool}{LJ:((List ag)×(List bP)×Int×Nat)→Bool}{Xt:List bP}(ZE:∀(l:List ag) (aw:List bP) (s:Int) (i:Nat) (hd:aw.drop i=Xt) (hl:aw.length≤1099511627776),de (fun f=>qB f (l,aw,s,((i:Nat):Int))) (LJ (l,aw,s,i)) (K_0 (l,aw,s,i))):∀(rest l:List ag) (aw:List bP) (s:Int) (i k:Nat) (hd:l.drop k=rest) (hl:l.length≤1099511627776) (oM:aw.drop (i+1)=Xt) (uO:aw.length≤1099511627776) (rU:i<aw.length),de (fun f=>jY f (l,aw,s,((i:Nat):Int),((k:Nat):Int))) (iA LJ rest (l,aw,s,i,k)) (iC K_0 rest (l,aw,s,i,k))
 | [],l,aw,s,i,k,hd,hl,oM,uO,rU=>ai (fun f=>(yo f _ _ _ _ _).trans (by simp only[fA (bT hd),fW,azQ,azP,azH,azI,bk rU uO,cK rU]<;>rfl)) (ZE _ _ _ _ (by grind) (by grind))
 | uu::rest,l,aw,s,i,k,hd,hl,oM,uO,rU=>ai (fun f=>(yo f _ _ _ _ _).trans (by simp only[cK (ak hd),bC hd,bk (ak hd) hl,fW,azQ,azH,bk rU uO,cK rU]<;>rfl)) (ao (ao (aI (ao (ao ae (qP ZE rest _ _ _ _ _ (aH hd) hl (by grind) (by grind) (by grind))) (qP ZE rest _ _ _ _ _ (aH hd) hl (by grind) (by grind) (by grind)))) (ao ae (qP ZE rest _ _ _ _ _ (aH hd) hl (by grind) (by grind) (by grind)))) (ao ae (qP ZE rest _ _ _ _ _ (aH hd) hl (by grind) (by grind) (by grind))))
noncomputable def lX:List bP→((List ag)×(List bP)×Int×Nat)→Bool
 | [],(l,aw,s,i)=>false
 | uu::rest,(l,aw,s,i)=>iC (lX rest) l (l,aw,s,i,0)
noncomputable def lO:List bP→((List ag)×(List bP)×Int×Nat)→Bool
 | [],(l,aw,s,i)=>true
 | uu::rest,(l,aw,s,i)=>decide (l.length≤1099511627776)&&iA (lO rest) l (l,aw,s,i,0)
theorem LY:∀(rest:List bP) (l:List ag) (aw:List bP) (s:Int) (i:Nat) (hd:aw.drop i=rest) (hl:aw.length≤1099511627776),de (fun f=>qB f (l,aw,s,((i:Nat):Int))) (lO rest (l,aw,s,i)) (lX rest (l,aw,s,i))
 | [],l,aw,s,i,hd,hl=>ai (fun f=>(yp f _ _ _ _).trans (by simp only[fA (bT hd),azI]<;>rfl)) ae
 | uu::rest,l,aw,s,i,hd,hl=>ai (fun f=>(yp f _ _ _ _).trans (by simp only[cK (ak hd),azH]<;>rfl)) (bL fun hh=>qP (LY rest) _ _ _ _ _ _ rfl (azZ hh) (aH hd) hl (by first | exact ak hd | simpa using ak hd))
noncomputable def Ox:((List ag)×aj×(List bP))→Bool
 | (l,src,aw)=>lX aw (l,aw,dV l src,0)
noncomputable def N1:((List ag)×aj×(List bP))→Bool
 | (l,src,aw)=>af l&&(decide (aw.length≤1099511627776)&&lO aw (l,aw,dV l src,0))
theorem Tk:∀a:(List ag)×aj×(List bP),de (fun f=>abH f a) (N1 a) (Ox a)
 | (l,src,aw)=>ai (fun f=>U2 f _ _ _) (aI (bL fun hh=>LY _ _ _ _ _ rfl (azZ hh)))
theorem XG(K KP:List ag×List bP×Int×Nat→Bool)(l:List ag)(aw:List bP)(s:Int)(hs:s<l.length)(i:Nat)(c:bP)(t:List bP)(hc:aw.drop i=c::t):∀(r:List ag) (k:Nat),
  iC K r (l,aw,s,i,k)=(r.any (Nq l s c) || K (l,aw,s,i+1))∧(KP (l,aw,s,i+1)=true→iA KP r (l,aw,s,i,k)=true)
 | [],k=>⟨rfl,fun h=>h⟩
 | u::r,k=>by
  obtain⟨i1,i2⟩:=XG K KP l aw s hs i c t hc r (k+1);constructor
  ·simp only[iC,bC hc,i1,aBS,Nq,xm]
   show(bif decide (s≥0)then bif decide ((gb u).1=1)then bif overlaps (JF u,nV c)then bif !contains (JF u,JF (l.getD s.toNat zEn))then true else _ else _ else bif overlaps (JF u,nV c)then true else _ else bif overlaps (JF u,nV c)then true else _)=_;grind
  grind[iA]
theorem MH(l:List ag)(aw:List bP)(s:Int)(hs:s<l.length)(hl:l.length≤1099511627776):∀(r:List bP) (i:Nat),aw.drop i=r→lX r (l,aw,s,i)=r.any (fun c=>l.any (Nq l s c))∧lO r (l,aw,s,i)=true
 | [],i,h=>⟨rfl,rfl⟩
 | c::r,i,h=>by
  obtain⟨i1,i2⟩:=MH l aw s hs hl r (i+1) (aH h);obtain⟨j1,j2⟩:=XG (lX r) (lO r) l aw s hs i c r h l 0;simp only[lX,lO,j1,j2 i2,i1,aBS,azC hl];grind
def ff(a:List ag×aj×List bP):Bool:=af a.1&&af a.2.2
theorem akW:∀a:List ag×aj×List bP,ff a=true→N1 a=true:=by
 rintro⟨l,src,aw⟩ h;simp only[ff,azF]at h;have h1:l.length≤1099511627776:=azZ h.1;have h2:dV l src<l.length:=by have:=jO (fun e:ag=>decide (fv e=src)) l 0 (by omega);grind[dV]
 simp only[N1,(MH l aw _ h2 h1 aw 0 rfl).2,h.1,azP,aAt];exact h.2
theorem akX:∀a:List ag×aj×List bP,ff a=true→Ox a=mz a:=by
 rintro⟨l,src,aw⟩ h;simp only[ff,azF]at h;have h1:l.length≤1099511627776:=azZ h.1;have h2:dV l src<l.length:=by have:=jO (fun e:ag=>decide (fv e=src)) l 0 (by omega);grind[dV]
 grind[Ox,MH,mz]
noncomputable def adm:dn:=⟨101,[.rd aF,.g aE,.rd aev],[.v .bool],ff,mz⟩
theorem VC:zO adm:=fl Hx rC [.tmp 6] mixed (ah CX (ah EZ (ah OM (ah OJ (aC))))) Tryz.func101 (bp Tk akW akX)
noncomputable def ajY:cX:=zC [adh] (dE []) 24
noncomputable def ajs(f:Nat)(a:(List ag)×Int×Int×cu):Option ((List ag)):=aG ajY (eO []) (zK [.tmp 8] [.v (.sl aF)]) f [.code (aB Tryz.f102)] (aQ [.c (.sl aF),.c zI,.c zI,.g gA] a)
theorem ack(f:Nat)(l:List ag)(core slot:Int)(n:cu):ajs (f+1) (l,core,slot,n) =
  bif kF (l,core,slot,n)then bif !(wR (l,core,slot,n)).2 then some l else some (wR (l,core,slot,n)).1 else none:=by kernel_rfl
noncomputable def ac1:((List ag)×Int×Int×cu)→(List ag)
 | (l,core,slot,n)=>bif !(wR (l,core,slot,n)).2 then l else(wR (l,core,slot,n)).1
noncomputable def aiY:((List ag)×Int×Int×cu)→Bool
 | (l,core,slot,n)=>kF (l,core,slot,n)
theorem aaI:∀a:(List ag)×Int×Int×cu,de (fun f=>ajs f a) (aiY a) (ac1 a)
 | (l,core,slot,n)=>ai (fun f=>ack f _ _ _ _) (cS (aT ae ae))
def sg(a:List ag×Int×Int×cu):List ag:=bif(wR (a.1,a.2.1,a.2.2.1,a.2.2.2)).2 then(wR (a.1,a.2.1,a.2.2.1,a.2.2.2)).1 else a.1
def gQ(a:List ag×Int×Int×cu):Bool:=kF (a.1,a.2.1,a.2.2.1,a.2.2.2)
theorem aq9:∀a,gQ a=true→aiY a=true:=fun a h=>h
theorem ara:∀a,gQ a=true→ac1 a=sg a:=by
 grind[ac1,sg,wR]
noncomputable def ajL:dn:=⟨102,[.c (.sl aF),.c zI,.c zI,.g gA],[.v (.sl aF)],gQ,sg⟩
theorem adR:zO ajL:=fl ajY (eO []) [.tmp 8] mixed (ah Vy (aC)) Tryz.func102 (bp aaI aq9 ara)
