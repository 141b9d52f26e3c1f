/- AI. -/
import Derived.Test.YtfggefeflojnkaaGreatEg0
set_option linter.unusedVariables false
open Go.IntKind (i64 u64)
namespace Go.AL
open Go.Proofs
abbrev aE:List Ty:=[zI,zI,zI]
abbrev aj:=Int×Int×Int
abbrev aev:List Ty:=[zI,zI,zI,zI,zI,zI,.bool]
abbrev bP:=Int×Int×Int×Int×Int×Int×Bool
abbrev gA:List Ty:=[zI,zI,zI,.sl aE,zI,zI,zI,zI,zI,zI,.bool]
abbrev cu:=Int×Int×Int×(List aj)×Int×Int×Int×Int×Int×Int×Bool
theorem id_eq(a b:aj):(a.1 == b.1&&(a.2.1 == b.2.1&&(a.2.2 == b.2.2&&true)))=decide (a=b):=by
 grind
def fX(id:aj):Bool:=decide (0≤id.1)&&(decide (id.1<32)&&(decide (1≤id.2.1)&&(decide (id.2.1≤1073741824)&&(decide (0≤id.2.2)&&decide (id.2.2<8)))))
theorem AJ(id:aj):fX id=true↔0≤id.1∧id.1<32∧1≤id.2.1∧id.2.1≤1073741824∧0≤id.2.2∧id.2.2<8:=by simp[fX]
theorem zZ{a b:Bool}:(bif a then b else false)=(a&&b):=by grind
instance aqQ:DecidableEq bP:=@instDecidableEqProd Int _ _ (@instDecidableEqProd Int _ _ (@instDecidableEqProd Int _ _ inferInstance))
def cJ{α:Type}[DecidableEq α](v:α)(l:List α):Bool:=decide (v∈l)
theorem Br{α:Type}[DecidableEq α]{v:α}{l:List α}:cJ v l=false↔¬ v∈l:=by simp[cJ]
theorem Eg{α:Type}[DecidableEq α](v u:α)(l:List α):cJ v (u::l)=(decide (u=v) || cJ v l):=by
 grind[cJ]
instance awj:DecidableEq cu:=@instDecidableEqProd Int _ _ (@instDecidableEqProd Int _ _ (@instDecidableEqProd Int _ _ (@instDecidableEqProd (List aj) bP _ aqQ)))
noncomputable def adX:cX:=zC [] (dE []) 31
noncomputable def abt(f:Nat)(a:aj):Option Bool:=aG adX (eO []) (zK [.tmp 2] [.v .bool]) f [.code (aB Tryz.f78)] (aQ [.g aE] a)
theorem UP(f:Nat)(id:aj):abt (f+1) id =
  bif decide (id.1≥0)then bif decide (id.1<32)then bif decide (id.2.1≥1)then bif decide (id.2.1≤1073741824)then bif decide (id.2.2≥0)then some (decide (id.2.2<8))else some false else some false else some false else some false else some false:=by kernel_rfl
noncomputable def Oq:aj→Bool
 | id=>bif decide (id.1≥0)then bif decide (id.1<32)then bif decide (id.2.1≥1)then bif decide (id.2.1≤1073741824)then bif decide (id.2.2≥0)then decide (id.2.2<8)else false else false else false else false else false
noncomputable def aaO:aj→Bool
 | id=>true
theorem SZ:∀a:aj,de (fun f=>abt f a) (aaO a) (Oq a)
 | id=>ai (fun f=>UP f _) (aT (aT (aT (aT (aT ae ae) ae) ae) ae) ae)
theorem akw:∀a,(fun _=>true) a=true→Oq a=fX a:=fun a _=>by grind[Oq,fX,zZ]
noncomputable def OG:dn:=⟨78,[.g aE],[.v .bool],fun _=>true,fX⟩
theorem EX:zO OG:=fl adX (eO []) [.tmp 2] mixed (aC) Tryz.func78 (bp SZ (fun _ _=>rfl) akw)
noncomputable def ajQ:cX:=zC [] (dE []) 6
noncomputable def ajb(f:Nat)(a:Int):Option Bool:=aG ajQ (eO []) (zK [.tmp 2] [.v .bool]) f [.code (aB Tryz.f123)] (aQ [.c zI] a)
theorem abP(f:Nat)(x:Int):ajb (f+1) x =
  some (x != x):=by kernel_rfl
noncomputable def acN:Int→Bool
 | x=>x != x
noncomputable def aiT:Int→Bool
 | x=>true
theorem Yb:∀a:Int,de (fun f=>ajb f a) (aiT a) (acN a)
 | x=>ai (fun f=>abP f _) ae
theorem apf:∀a,(fun _=>true) a=true→acN a=(fun _=>false) a:=fun a _=>by simp[acN]
noncomputable def ajG:dn:=⟨123,[.c zI],[.v .bool],fun _=>true,fun _=>false⟩
theorem adu:zO ajG:=fl ajQ (eO []) [.tmp 2] mixed (aC) Tryz.func123 (bp Yb (fun _ _=>rfl) apf)
noncomputable def aep:cX:=zC [ajG] (dE []) 20
noncomputable def acg(f:Nat)(a:Int×Int):Option Int:=aG aep (eO []) (zK [.tmp 4] [.v zI]) f [.code (aB Tryz.f84)] (aQ [.c zI,.c zI] a)
theorem Vm(f:Nat)(x y:Int):acg (f+1) (x,y) =
  bif decide (x<y)then some (-1)else bif decide (x>y)then some 1 else some 0:=by kernel_rfl
noncomputable def acY:Rg→Int
 | (x,y)=>bif decide (x<y)then -1 else bif decide (x>y)then 1 else 0
noncomputable def abb:Rg→Bool
 | (x,y)=>true
theorem Uq:∀a:Int×Int,de (fun f=>acg f a) (abb a) (acY a)
 | (x,y)=>ai (fun f=>Vm f _ _) (aT ae (aT ae ae))
def tc(a:Int×Int):Int:=bif decide (a.1<a.2)then -1 else bif decide (a.1>a.2)then 1 else 0
noncomputable def adN:dn:=⟨84,[.c zI,.c zI],[.v zI],fun _=>true,tc⟩
theorem VQ:zO adN:=fl aep (eO []) [.tmp 4] mixed (ah adu (aC)) Tryz.func84 (bp Uq (fun _ _=>rfl) (fun _ _=>rfl))
noncomputable def aek:cX:=zC [] (dE []) 18
def G6:Nat→LD:=eO [(0,⟨[.c 3 (zI),.rd 6 [zI],.c 7 (zI),.c 8 (zI)],[],0⟩)]
noncomputable def ajn(f:Nat)(a:(List Int)):Option Int:=aG aek G6 (zK [.tmp 2] [.v zI]) f [.code (aB Tryz.f83)] (aQ [.rd [zI]] a)
noncomputable def Az(f:Nat)(x:Int×(List Int)×Int×Int):Option Int:=aG aek G6 (zK [.tmp 2] [.v zI]) f (aV Tryz.f83 0) ((G6 0).mk' x)
theorem ab8(f:Nat)(l:List Int):ajn (f+1) l =
  Az f (0,l,(↑l.length:Int),0):=by kernel_rfl
theorem CT(f:Nat)(zero:Int)(x6:List Int)(x7 x8:Int):Az (f+1) (zero,x6,x7,x8) =
  bif decide (x8<x7)then bif decide (0≤x8)&&decide (x8<(↑x6.length:Int))then bif x6.getD x8.toNat 0 != zero then some (x6.getD x8.toNat 0)else Az f (zero,x6,x7,i64.wrap (x8+1))else none else some zero:=by kernel_rfl
noncomputable def wc:List Int→(Int×(List Int)×Int×Nat)→Int
 | [],(zero,x6,x7,x8)=>zero
 | uu::rest,(zero,x6,x7,x8)=>bif uu != zero then uu else wc rest (zero,x6,x7,x8+1)
noncomputable def vA:List Int→(Int×(List Int)×Int×Nat)→Bool
 | [],(zero,x6,x7,x8)=>true
 | uu::rest,(zero,x6,x7,x8)=>bif uu != zero then true else vA rest (zero,x6,x7,x8+1)
theorem Sz:∀(rest:List Int) (zero:Int) (x6:List Int) (x7:Int) (x8:Nat) (hd:x6.drop x8=rest) (hn:x7=((x6.length:Nat):Int)) (hl:x6.length≤1099511627776),de (fun f=>Az f (zero,x6,x7,((x8:Nat):Int))) (vA rest (zero,x6,x7,x8)) (wc rest (zero,x6,x7,x8))
 | [],zero,x6,x7,x8,hd,hn,hl=>ai (fun f=>(CT f _ _ _ _).trans (by simp only[iZ hn (bT hd),fW,azP,azI]<;>rfl)) ae
 | uu::rest,zero,x6,x7,x8,hd,hn,hl=>ai (fun f=>(CT f _ _ _ _).trans (by simp only[iW hn (ak hd),cK (ak hd),bC hd,bk (ak hd) hl,fW,azQ,azH]<;>rfl)) (ao ae (Sz rest _ _ _ _ (aH hd) (by grind) hl))
noncomputable def acU:(List Int)→Int
 | l=>wc l (0,l,(↑l.length:Int),0)
noncomputable def aa7:(List Int)→Bool
 | l=>decide (l.length≤1099511627776)&&vA l (0,l,(↑l.length:Int),0)
theorem Z8:∀a:(List Int),de (fun f=>ajn f a) (aa7 a) (acU a)
 | l=>ai (fun f=>ab8 f _) (bL fun hh=>Sz _ _ _ _ _ rfl (by grind) (azZ hh))
def orI:List Int→Int
 | []=>0
 | u::r=>bif u != 0 then u else orI r
theorem Z9:∀(rest l:List Int) (n:Int) (k:Nat),vA rest (0,l,n,k)=true
 | [],l,n,k=>rfl
 | u::r,l,n,k=>by simp only[vA];rw[Z9 r];grind
theorem aaa:∀(rest l:List Int) (n:Int) (k:Nat),wc rest (0,l,n,k)=orI rest
 | [],l,n,k=>rfl
 | u::r,l,n,k=>by simp only[wc,orI];rw[aaa r]
theorem aqU:∀a,af a=true→aa7 a=true:=fun a h=>by simp only[aa7,Z9,aAt];exact h
theorem aqV:∀a,af a=true→acU a=orI a:=fun a h=>by grind[acU,aaa]
noncomputable def ajK:dn:=⟨83,[.rd [zI]],[.v zI],af,orI⟩
theorem adK:zO ajK:=fl aek G6 [.tmp 2] mixed (aC) Tryz.func83 (bp Z8 aqU aqV)
noncomputable def aed:cX:=zC [adN,ajK] (dE [(1,([(0,[]),(1,[]),(2,[]),(3,[]),(5,[]),(6,[]),(7,[]),(8,[]),(10,[]),(11,[]),(12,[]),(13,[]),(4,[]),(9,[]),(14,[]),(15,[]),(16,[]),(17,[])],[(4,21)]))]) 22
noncomputable def abO(f:Nat)(a:aj×aj):Option Int:=aG aed (eO []) (zK [.tmp 4] [.v zI]) f [.code (aB Tryz.f49)] (aQ [.g aE,.g aE] a)
theorem U6(f:Nat)(a b:aj):abO (f+1) (a,b) =
  some (orI [tc (a.1,b.1),tc (a.2.1,b.2.1),tc (a.2.2,b.2.2)]):=by kernel_rfl
noncomputable def acM:(aj×aj)→Int
 | (a,b)=>orI [tc (a.1,b.1),tc (a.2.1,b.2.1),tc (a.2.2,b.2.2)]
noncomputable def aa1:(aj×aj)→Bool
 | (a,b)=>true
theorem TA:∀a:aj×aj,de (fun f=>abO f a) (aa1 a) (acM a)
 | (a,b)=>ai (fun f=>U6 f _ _) ae
def xW(a:aj×aj):Int:=bif tc (a.1.1,a.2.1) != 0 then tc (a.1.1,a.2.1)else bif tc (a.1.2.1,a.2.2.1) != 0 then tc (a.1.2.1,a.2.2.1)else bif tc (a.1.2.2,a.2.2.2) != 0 then tc (a.1.2.2,a.2.2.2)else 0
noncomputable def OO:dn:=⟨49,[.g aE,.g aE],[.v zI],fun _=>true,xW⟩
theorem E4:zO OO:=fl aed (eO []) [.tmp 4] mixed (ah VQ (ah adK (aC))) Tryz.func49 (bp TA (fun _ _=>rfl) (fun _ _=>rfl))
noncomputable def aef:cX:=zC [] (dE []) 30
noncomputable def abV(f:Nat)(a:aj×aj):Option Bool:=aG aef (eO []) (zK [.tmp 4] [.v .bool]) f [.code (aB Tryz.f24)] (aQ [.g aE,.g aE] a)
theorem U9(f:Nat)(a b:aj):abV (f+1) (a,b) =
  bif a.1 != b.1 then some (decide (a.1<b.1))else bif a.2.1 != b.2.1 then some (decide (a.2.1<b.2.1))else some (decide (a.2.2<b.2.2)):=by kernel_rfl
noncomputable def acQ:(aj×aj)→Bool
 | (a,b)=>bif a.1 != b.1 then decide (a.1<b.1)else bif a.2.1 != b.2.1 then decide (a.2.1<b.2.1)else decide (a.2.2<b.2.2)
noncomputable def aa2:(aj×aj)→Bool
 | (a,b)=>true
theorem TF:∀a:aj×aj,de (fun f=>abV f a) (aa2 a) (acQ a)
 | (a,b)=>ai (fun f=>U9 f _ _) (aT ae (aT ae ae))
def cw(a:aj×aj):Bool:=bif a.1.1 != a.2.1 then decide (a.1.1<a.2.1)else bif a.1.2.1 != a.2.2.1 then decide (a.1.2.1<a.2.2.1)else decide (a.1.2.2<a.2.2.2)
noncomputable def Hq:dn:=⟨24,[.g aE,.g aE],[.v .bool],fun _=>true,cw⟩
theorem E5:zO Hq:=fl aef (eO []) [.tmp 4] mixed (aC) Tryz.func24 (bp TF (fun _ _=>rfl) (fun _ _=>rfl))
def mw{α:Type}[DecidableEq α]:List α→α→Int→Int
 | [],_,_=>-1
 | u::r,v,k=>bif decide (u=v)then k else mw r v (k+1)
theorem F0{α:Type}[DecidableEq α](v:α):∀(l:List α) (k:Int),0≤k→decide (mw l v k≥0)=cJ v l
 | [],k,h=>by simp[mw,cJ]
 | u::r,k,h=>by
  rw[Eg];by_cases e:u=v
  ·grind[mw]
  ·have h1:mw (u::r) v k=mw r v (k+1):=by simp[mw,e]
   rw[h1,F0 v r (k+1) (by omega),azK e];rfl
noncomputable def OS:cX:=zC [] (dE [(4,([(0,[]),(1,[]),(2,[]),(3,[]),(4,[]),(5,[])],[(11,16)]))]) 19
def z7:Nat→LD:=eO [(0,⟨[.rd 0 aE,.box 3 3 48 3 aE,.c 7 (zI),.c 8 (zI)],[],0⟩)]
noncomputable def abp(f:Nat)(a:(List aj)×aj):Option Int:=aG OS z7 (zK [.tmp 4] [.v zI]) f [.code (aB Tryz.f144)] (aQ [.rd aE,.g aE] a)
noncomputable def vJ(f:Nat)(x:(List aj)×aj×Int×Int):Option Int:=aG OS z7 (zK [.tmp 4] [.v zI]) f (aV Tryz.f144 0) ((z7 0).mk' x)
theorem UM(f:Nat)(s:List aj)(v:aj):abp (f+1) (s,v) =
  vJ f (s,v,(↑s.length:Int),0):=by kernel_rfl
theorem yi(f:Nat)(s:List aj)(v:aj)(x7 x8:Int):vJ (f+1) (s,v,x7,x8) =
  bif decide (x8<x7)then bif decide (0≤x8)&&decide (x8<(↑s.length:Int))then bif v.1 == (s.getD x8.toNat (0,0,0)).1&&(v.2.1 == (s.getD x8.toNat (0,0,0)).2.1&&(v.2.2 == (s.getD x8.toNat (0,0,0)).2.2&&true))then some x8 else vJ f (s,v,x7,i64.wrap (x8+1))else none else some (-1):=by kernel_rfl
noncomputable def qK:List aj→((List aj)×aj×Int×Nat)→Int
 | [],(s,v,x7,x8)=>-1
 | uu::rest,(s,v,x7,x8)=>bif v.1 == uu.1&&(v.2.1 == uu.2.1&&(v.2.2 == uu.2.2&&true))then(↑x8:Int)else qK rest (s,v,x7,x8+1)
noncomputable def qi:List aj→((List aj)×aj×Int×Nat)→Bool
 | [],(s,v,x7,x8)=>true
 | uu::rest,(s,v,x7,x8)=>bif v.1 == uu.1&&(v.2.1 == uu.2.1&&(v.2.2 == uu.2.2&&true))then true else qi rest (s,v,x7,x8+1)
theorem LU:∀(rest s:List aj) (v:aj) (x7:Int) (x8:Nat) (hd:s.drop x8=rest) (hn:x7=((s.length:Nat):Int)) (hl:s.length≤1099511627776),de (fun f=>vJ f (s,v,x7,((x8:Nat):Int))) (qi rest (s,v,x7,x8)) (qK rest (s,v,x7,x8))
 | [],s,v,x7,x8,hd,hn,hl=>ai (fun f=>(yi f _ _ _ _).trans (by simp only[iZ hn (bT hd),fW,azP,azI]<;>rfl)) ae
 | uu::rest,s,v,x7,x8,hd,hn,hl=>ai (fun f=>(yi f _ _ _ _).trans (by simp only[iW hn (ak hd),cK (ak hd),bC hd,bk (ak hd) hl,fW,azQ,azH]<;>rfl)) (ao ae (LU rest _ _ _ _ (aH hd) (by grind) hl))
noncomputable def On:((List aj)×aj)→Int
 | (s,v)=>qK s (s,v,(↑s.length:Int),0)
noncomputable def NX:((List aj)×aj)→Bool
 | (s,v)=>decide (s.length≤1099511627776)&&qi s (s,v,(↑s.length:Int),0)
theorem SS:∀a:(List aj)×aj,de (fun f=>abp f a) (NX a) (On a)
 | (s,v)=>ai (fun f=>UM f _ _) (bL fun hh=>LU _ _ _ _ _ rfl (by grind) (azZ hh))
theorem Pq(v:aj):∀(rest l:List aj) (n:Int) (k:Nat),qi rest (l,v,n,k)=true
 | [],l,n,k=>rfl
 | u::r,l,n,k=>by simp only[qi];rw[Pq v r];simp
theorem Pr(v:aj):∀(rest l:List aj) (n:Int) (k:Nat),qK rest (l,v,n,k)=mw rest v k
 | [],l,n,k=>rfl
 | u::r,l,n,k=>by
  simp only[qK,mw,id_eq];rw[Pr v r];grind
theorem akm:∀a:List aj×aj,af a.1=true→NX a=true:=fun a h=>by simp only[NX,Pq,aAt];exact h
theorem akn:∀a:List aj×aj,af a.1=true→On a=mw a.1 a.2 0:=fun a h=>by grind[On,Pr]
noncomputable def ada:dn:=⟨144,[.rd aE,.g aE],[.v zI],fun a:(List aj)×aj=>af a.1,fun a:(List aj)×aj=>mw a.1 a.2 0⟩
theorem Vu:zO ada:=fl OS z7 [.tmp 4] mixed (aC) Tryz.func144 (bp SS akm akn)
noncomputable def OY:cX:=zC [] (dE []) 19
def Ae:Nat→LD:=eO [(0,⟨[.rd 0 [zI],.c 1 (zI),.c 7 (zI),.c 8 (zI)],[],0⟩)]
noncomputable def abX(f:Nat)(a:(List Int)×Int):Option Int:=aG OY Ae (zK [.tmp 4] [.v zI]) f [.code (aB Tryz.f145)] (aQ [.rd [zI],.c zI] a)
noncomputable def vW(f:Nat)(x:(List Int)×Int×Int×Int):Option Int:=aG OY Ae (zK [.tmp 4] [.v zI]) f (aV Tryz.f145 0) ((Ae 0).mk' x)
theorem Va(f:Nat)(s:List Int)(v:Int):abX (f+1) (s,v) =
  vW f (s,v,(↑s.length:Int),0):=by kernel_rfl
theorem yw(f:Nat)(s:List Int)(v x7 x8:Int):vW (f+1) (s,v,x7,x8) =
  bif decide (x8<x7)then bif decide (0≤x8)&&decide (x8<(↑s.length:Int))then bif v == s.getD x8.toNat 0 then some x8 else vW f (s,v,x7,i64.wrap (x8+1))else none else some (-1):=by kernel_rfl
noncomputable def qL:List Int→((List Int)×Int×Int×Nat)→Int
 | [],(s,v,x7,x8)=>-1
 | uu::rest,(s,v,x7,x8)=>bif v == uu then(↑x8:Int)else qL rest (s,v,x7,x8+1)
noncomputable def qm:List Int→((List Int)×Int×Int×Nat)→Bool
 | [],(s,v,x7,x8)=>true
 | uu::rest,(s,v,x7,x8)=>bif v == uu then true else qm rest (s,v,x7,x8+1)
theorem LZ:∀(rest s:List Int) (v x7:Int) (x8:Nat) (hd:s.drop x8=rest) (hn:x7=((s.length:Nat):Int)) (hl:s.length≤1099511627776),de (fun f=>vW f (s,v,x7,((x8:Nat):Int))) (qm rest (s,v,x7,x8)) (qL rest (s,v,x7,x8))
 | [],s,v,x7,x8,hd,hn,hl=>ai (fun f=>(yw f _ _ _ _).trans (by simp only[iZ hn (bT hd),fW,azP,azI]<;>rfl)) ae
 | uu::rest,s,v,x7,x8,hd,hn,hl=>ai (fun f=>(yw f _ _ _ _).trans (by simp only[iW hn (ak hd),cK (ak hd),bC hd,bk (ak hd) hl,fW,azQ,azH]<;>rfl)) (ao ae (LZ rest _ _ _ _ (aH hd) (by grind) hl))
noncomputable def Oy:((List Int)×Int)→Int
 | (s,v)=>qL s (s,v,(↑s.length:Int),0)
noncomputable def N3:((List Int)×Int)→Bool
 | (s,v)=>decide (s.length≤1099511627776)&&qm s (s,v,(↑s.length:Int),0)
theorem TK:∀a:(List Int)×Int,de (fun f=>abX f a) (N3 a) (Oy a)
 | (s,v)=>ai (fun f=>Va f _ _) (bL fun hh=>LZ _ _ _ _ _ rfl (by grind) (azZ hh))
theorem P3(v:Int):∀(rest l:List Int) (n:Int) (k:Nat),qm rest (l,v,n,k)=true
 | [],l,n,k=>rfl
 | u::r,l,n,k=>by simp only[qm];rw[P3 v r];grind
theorem P4(v:Int):∀(rest l:List Int) (n:Int) (k:Nat),qL rest (l,v,n,k)=mw rest v k
 | [],l,n,k=>rfl
 | u::r,l,n,k=>by
  simp only[qL,mw];rw[P4 v r];grind
theorem alC:∀a:List Int×Int,af a.1=true→N3 a=true:=fun a h=>by simp only[N3,P3,aAt];exact h
theorem alD:∀a:List Int×Int,af a.1=true→Oy a=mw a.1 a.2 0:=fun a h=>by grind[Oy,P4]
noncomputable def adD:dn:=⟨145,[.rd [zI],.c zI],[.v zI],fun a:(List Int)×Int=>af a.1,fun a:(List Int)×Int=>mw a.1 a.2 0⟩
theorem VH:zO adD:=fl OY Ae [.tmp 4] mixed (aC) Tryz.func145 (bp TK alC alD)
noncomputable def adW:cX:=zC [ada] (dE []) 9
noncomputable def abr(f:Nat)(a:(List aj)×aj):Option Bool:=aG adW (eO []) (zK [.tmp 4] [.v .bool]) f [.code (aB Tryz.f126)] (aQ [.rd aE,.g aE] a)
theorem UO(f:Nat)(s:List aj)(v:aj):abr (f+1) (s,v) =
  bif af s then some (decide (mw s v 0≥0))else none:=by kernel_rfl
noncomputable def acE:((List aj)×aj)→Bool
 | (s,v)=>decide (mw s v 0≥0)
noncomputable def aaN:((List aj)×aj)→Bool
 | (s,v)=>af s
theorem SV:∀a:(List aj)×aj,de (fun f=>abr f a) (aaN a) (acE a)
 | (s,v)=>ai (fun f=>UO f _ _) (cS ae)
theorem akt:∀a:List aj×aj,af a.1=true→aaN a=true:=fun a h=>h
theorem aku:∀a:List aj×aj,af a.1=true→acE a=cJ a.2 a.1:=fun a h=>F0 a.2 a.1 0 (by omega)
noncomputable def anr:dn:=⟨126,[.rd aE,.g aE],[.v .bool],fun a:(List aj)×aj=>af a.1,fun a:(List aj)×aj=>cJ a.2 a.1⟩
theorem Vw:zO anr:=fl adW (eO []) [.tmp 4] mixed (ah Vu (aC)) Tryz.func126 (bp SV akt aku)
noncomputable def aeg:cX:=zC [adD] (dE []) 9
noncomputable def abY(f:Nat)(a:(List Int)×Int):Option Bool:=aG aeg (eO []) (zK [.tmp 4] [.v .bool]) f [.code (aB Tryz.f127)] (aQ [.rd [zI],.c zI] a)
theorem Vb(f:Nat)(s:List Int)(v:Int):abY (f+1) (s,v) =
  bif af s then some (decide (mw s v 0≥0))else none:=by kernel_rfl
noncomputable def acR:((List Int)×Int)→Bool
 | (s,v)=>decide (mw s v 0≥0)
noncomputable def aa3:((List Int)×Int)→Bool
 | (s,v)=>af s
theorem TM:∀a:(List Int)×Int,de (fun f=>abY f a) (aa3 a) (acR a)
 | (s,v)=>ai (fun f=>Vb f _ _) (cS ae)
theorem alE:∀a:List Int×Int,af a.1=true→aa3 a=true:=fun a h=>h
theorem alF:∀a:List Int×Int,af a.1=true→acR a=cJ a.2 a.1:=fun a h=>F0 a.2 a.1 0 (by omega)
noncomputable def OQ:dn:=⟨127,[.rd [zI],.c zI],[.v .bool],fun a:(List Int)×Int=>af a.1,fun a:(List Int)×Int=>cJ a.2 a.1⟩
theorem VI:zO OQ:=fl aeg (eO []) [.tmp 4] mixed (ah VH (aC)) Tryz.func127 (bp TM alE alF)
noncomputable def Su:cX:=zC [] (dE []) 8
theorem NH:jh Tryz.prog []:=aC
theorem arc(l:List aj):(aG Su (fun _=>⟨[],[],0⟩) (zK [.tmp 2] [.o 48 3 aE]) 1 [.code (aB Tryz.f55)] (aQ [.rd aE] l):Option (eC [.o 48 3 aE]))=bif Decidable.decide (0<l.length)&&Bool.true then bif Decidable.decide ((([]:List Nat).length+l.length)*(bytesOf Tryz.prog 48)≤140737488355328)then some l else none else none:=by kernel_rfl
noncomputable def ajH:dn:=⟨55,[.rd aE],[.o 48 3 aE],fun a=>af (a:List aj),fun a=>(a:List aj)⟩
theorem LN:ajH.Ok Tryz.prog:=fun a hp vs hv=>B3 (τ:=aE) (t:=48) (es:=3)
  (fun a h0 h1 vs hv=>iI (C:=Su) (Lt:=fun _=>⟨[],[],0⟩) (fn:=Tryz.f55) (rs:=[.tmp 2]) [.rd aE] [.o 48 3 aE] mixed NH Tryz.func55 rfl rfl rfl (by kernel_rfl) (by kernel_rfl) 1 ((arc a).trans (Uk h0 h1 (by decide +kernel))) vs hv)
  (iI (C:=Su) (Lt:=fun _=>⟨[],[],0⟩) (fn:=Tryz.f55) (rs:=[.tmp 2]) (a:=()) [.raw (.slice none 0 0)] [.o 48 3 aE] mixed NH Tryz.func55 rfl rfl rfl (by kernel_rfl) (by kernel_rfl) 1 (by kernel_rfl) _ (by simp only[bY,ed,lZ];exact⟨_,rfl,rfl⟩))
  (fun b c=>iI (C:=Su) (Lt:=fun _=>⟨[],[],0⟩) (fn:=Tryz.f55) (rs:=[.tmp 2]) (a:=()) [.raw (.slice (some b) 0 c)] [.o 48 3 aE] mixed NH Tryz.func55 rfl rfl rfl (by kernel_rfl) (by kernel_rfl) 1 (by kernel_rfl) _ (by simp only[bY,ed,lZ];exact⟨_,rfl,rfl⟩))
  a (azZ hp) vs hv
noncomputable def HV:cX:=zC [] (dE [(4,([(0,[]),(1,[]),(2,[]),(3,[]),(4,[]),(5,[])],[(12,17)]))]) 18
def vG:Nat→LD:=eO [(0,⟨[.rd 0 aE,.box 3 3 48 3 aE,.c 5 (zI)],[],0⟩)]
noncomputable def Q7(f:Nat)(a:(List aj)×aj):Option Bool:=aG HV vG (zK [.tmp 4] [.v .bool]) f [.code (aB Tryz.f20)] (aQ [.rd aE,.g aE] a)
noncomputable def rL(f:Nat)(x:(List aj)×aj×Int):Option Bool:=aG HV vG (zK [.tmp 4] [.v .bool]) f (aV Tryz.f20 0) ((vG 0).mk' x)
theorem Oi(f:Nat)(l:List aj)(id:aj):Q7 (f+1) (l,id) =
  rL f (l,id,0):=by kernel_rfl
theorem vX(f:Nat)(l:List aj)(id:aj)(i:Int):rL (f+1) (l,id,i) =
  bif decide (i<(↑l.length:Int))then bif decide (0≤i)&&decide (i<(↑l.length:Int))then bif(l.getD i.toNat (0,0,0)).1 == id.1&&((l.getD i.toNat (0,0,0)).2.1 == id.2.1&&((l.getD i.toNat (0,0,0)).2.2 == id.2.2&&true))then some true else rL f (l,id,i64.wrap (i+1))else none else some false:=by kernel_rfl
noncomputable def lY:List aj→((List aj)×aj×Nat)→Bool
 | [],(l,id,i)=>false
 | uu::rest,(l,id,i)=>bif uu.1 == id.1&&(uu.2.1 == id.2.1&&(uu.2.2 == id.2.2&&true))then true else lY rest (l,id,i+1)
noncomputable def lQ:List aj→((List aj)×aj×Nat)→Bool
 | [],(l,id,i)=>true
 | uu::rest,(l,id,i)=>bif uu.1 == id.1&&(uu.2.1 == id.2.1&&(uu.2.2 == id.2.2&&true))then true else lQ rest (l,id,i+1)
theorem Fe:∀(rest l:List aj) (id:aj) (i:Nat) (hd:l.drop i=rest) (hl:l.length≤1099511627776),de (fun f=>rL f (l,id,((i:Nat):Int))) (lQ rest (l,id,i)) (lY rest (l,id,i))
 | [],l,id,i,hd,hl=>ai (fun f=>(vX f _ _ _).trans (by simp only[fA (bT hd),fW,azP,azI]<;>rfl)) ae
 | uu::rest,l,id,i,hd,hl=>ai (fun f=>(vX f _ _ _).trans (by simp only[cK (ak hd),bC hd,bk (ak hd) hl,fW,azQ,azH]<;>rfl)) (ao ae (Fe rest _ _ _ (aH hd) hl))
noncomputable def Hf:((List aj)×aj)→Bool
 | (l,id)=>lY l (l,id,0)
noncomputable def GV:((List aj)×aj)→Bool
 | (l,id)=>decide (l.length≤1099511627776)&&lQ l (l,id,0)
theorem Nu:∀a:(List aj)×aj,de (fun f=>Q7 f a) (GV a) (Hf a)
 | (l,id)=>ai (fun f=>Oi f _ _) (bL fun hh=>Fe _ _ _ _ rfl (azZ hh))
theorem Ks(v:aj):∀(rest l:List aj) (k:Nat),lQ rest (l,v,k)=true
 | [],l,k=>rfl
 | u::r,l,k=>by simp only[lQ];rw[Ks v r];simp
theorem Kt(v:aj):∀(rest l:List aj) (k:Nat),lY rest (l,v,k)=cJ v rest
 | [],l,k=>rfl
 | u::r,l,k=>by
  simp only[lY,id_eq];rw[Kt v r,Eg];grind
theorem agF:∀a:List aj×aj,af a.1=true→GV a=true:=fun a h=>by simp only[GV,Ks,aAt];exact h
theorem agG:∀a:List aj×aj,af a.1=true→Hf a=cJ a.2 a.1:=fun a h=>by grind[Hf,Kt]
noncomputable def wg:dn:=⟨20,[.rd aE,.g aE],[.v .bool],fun a:(List aj)×aj=>af a.1,fun a:(List aj)×aj=>cJ a.2 a.1⟩
theorem tF:zO wg:=fl HV vG [.tmp 4] mixed (aC) Tryz.func20 (bp Nu agF agG)
noncomputable def aen:cX:=zC [] (dE []) 5
noncomputable def acd(f:Nat)(a:(List aj)):Option ((List aj)):=aG aen (eO []) (zK [.tmp 2] [.o 48 3 aE]) f [.code (aB Tryz.f71)] (aQ [.rd aE] a)
theorem Vj(f:Nat)(l:List aj):acd (f+1) l =
  bif decide (l.length*24≤140737488355328)then some l else none:=by kernel_rfl
noncomputable def acW:(List aj)→(List aj)
 | l=>l
noncomputable def aa9:(List aj)→Bool
 | l=>decide (l.length*24≤140737488355328)
theorem Ul:∀a:(List aj),de (fun f=>acd f a) (aa9 a) (acW a)
 | l=>ai (fun f=>Vj f _) (cS ae)
theorem amU:∀a:List aj,af a=true→aa9 a=true:=fun a h=>by
 have h:a.length≤1099511627776:=azZ h;exact azC (by omega)
theorem amV:∀a:List aj,af a=true→acW a=a:=fun a h=>rfl
noncomputable def OR:dn:=⟨71,[.rd aE],[.o 48 3 aE],fun a:(List aj)=>af a,fun a:(List aj)=>a⟩
theorem E7:zO OR:=fl aen (eO []) [.tmp 2] mixed (aC) Tryz.func71 (bp Ul amU amV)
theorem DP{α:Type}[DecidableEq α](F P:List α→List α×List α×Nat→Bool)
  (h0:∀a b k,F [] (a,b,k)=true∧P [] (a,b,k)=true)
  (h1:∀u r a b k v t,b.drop k=v::t→F (u::r) (a,b,k)=(bif !decide (u=v)then false else F r (a,b,k+1))∧(P r (a,b,k+1)=true→P (u::r) (a,b,k)=true)) :
  ∀(r a b t:List α) (k:Nat),b.drop k=t→r.length=t.length→F r (a,b,k)=decide (r=t)∧P r (a,b,k)=true
 | [],a,b,[],k,h,e=>by simp[h0]
 | [],a,b,v::t,k,h,e=>by simp at e
 | u::r,a,b,[],k,h,e=>by simp at e
 | u::r,a,b,v::t,k,h,e=>by
  obtain⟨i1,i2⟩:=DP F P h0 h1 r a b t (k+1) (aH h) (by grind);obtain⟨j1,j2⟩:=h1 u r a b k v t h;simp_all
noncomputable def OT:cX:=zC [] (dE [(6,([(0,[]),(1,[]),(2,[]),(3,[]),(4,[]),(5,[]),(6,[]),(7,[]),(8,[])],[(17,25)]))]) 26
def z8:Nat→LD:=eO [(0,⟨[.rd 0 aE,.rd 1 aE,.c 5 (zI)],[],0⟩)]
noncomputable def abq(f:Nat)(a:(List aj)×(List aj)):Option Bool:=aG OT z8 (zK [.tmp 4] [.v .bool]) f [.code (aB Tryz.f37)] (aQ [.rd aE,.rd aE] a)
noncomputable def vL(f:Nat)(x:(List aj)×(List aj)×Int):Option Bool:=aG OT z8 (zK [.tmp 4] [.v .bool]) f (aV Tryz.f37 0) ((z8 0).mk' x)
theorem UN(f:Nat)(a b:List aj):abq (f+1) (a,b) =
  bif(↑a.length:Int) != (↑b.length:Int)then some false else vL f (a,b,0):=by kernel_rfl
theorem yj(f:Nat)(a b:List aj)(i:Int):vL (f+1) (a,b,i) =
  bif decide (i<(↑a.length:Int))then bif decide (0≤i)&&decide (i<(↑a.length:Int))then bif decide (0≤i)&&decide (i<(↑b.length:Int))then bif !((a.getD i.toNat (0,0,0)).1 == (b.getD i.toNat (0,0,0)).1&&((a.getD i.toNat (0,0,0)).2.1 == (b.getD i.toNat (0,0,0)).2.1&&((a.getD i.toNat (0,0,0)).2.2 == (b.getD i.toNat (0,0,0)).2.2&&true)))then some false else vL f (a,b,i64.wrap (i+1))else none else none else some true:=by kernel_rfl
noncomputable def lT:List aj→((List aj)×(List aj)×Nat)→Bool
 | [],(a,b,i)=>true
 | uu::rest,(a,b,i)=>bif !(uu.1 == (b.getD (↑i:Int).toNat (0,0,0)).1&&(uu.2.1 == (b.getD (↑i:Int).toNat (0,0,0)).2.1&&(uu.2.2 == (b.getD (↑i:Int).toNat (0,0,0)).2.2&&true)))then false else lT rest (a,b,i+1)
noncomputable def lM:List aj→((List aj)×(List aj)×Nat)→Bool
 | [],(a,b,i)=>true
 | uu::rest,(a,b,i)=>decide ((↑i:Int)<(↑b.length:Int))&&bif !(uu.1 == (b.getD (↑i:Int).toNat (0,0,0)).1&&(uu.2.1 == (b.getD (↑i:Int).toNat (0,0,0)).2.1&&(uu.2.2 == (b.getD (↑i:Int).toNat (0,0,0)).2.2&&true)))then true else lM rest (a,b,i+1)
theorem LV:∀(rest a b:List aj) (i:Nat) (hd:a.drop i=rest) (hl:a.length≤1099511627776),de (fun f=>vL f (a,b,((i:Nat):Int))) (lM rest (a,b,i)) (lT rest (a,b,i))
 | [],a,b,i,hd,hl=>ai (fun f=>(yj f _ _ _).trans (by simp only[fA (bT hd),fW,azP,azI]<;>rfl)) ae
 | uu::rest,a,b,i,hd,hl=>ai (fun f=>(yj f _ _ _).trans (by simp only[cK (ak hd),bC hd,bk (ak hd) hl,fW,azQ,azP,azH]<;>rfl)) (aI (ao ae (LV rest _ _ _ (aH hd) hl)))
noncomputable def Oo:((List aj)×(List aj))→Bool
 | (a,b)=>bif(↑a.length:Int) != (↑b.length:Int)then false else lT a (a,b,0)
noncomputable def NY:((List aj)×(List aj))→Bool
 | (a,b)=>bif(↑a.length:Int) != (↑b.length:Int)then true else decide (a.length≤1099511627776)&&lM a (a,b,0)
theorem SU:∀a:(List aj)×(List aj),de (fun f=>abq f a) (NY a) (Oo a)
 | (a,b)=>ai (fun f=>UN f _ _) (ao ae (bL fun hh=>LV _ _ _ _ rfl (azZ hh)))
theorem Xb:∀(r a b t:List aj) (k:Nat),b.drop k=t→r.length=t.length→lT r (a,b,k)=decide (r=t)∧lM r (a,b,k)=true:=by
 refine DP lT lM (fun _ _ _=>⟨rfl,rfl⟩) fun u r a b k v t h=>?_
 simp only[lT,lM,bC h,cK (ak h),id_eq,azP];grind
theorem zp{α β:Type}(a:List α)(b:List β):(((a.length:Nat):Int) != ((b.length:Nat):Int)) = !decide (a.length=b.length):=by
 grind
theorem ako:∀a:List aj×List aj,af a.1=true→NY a=true:=fun a h=>by
 simp only[NY,zp];by_cases e:a.1.length=a.2.length
 ·rw[(Xb a.1 a.1 a.2 a.2 0 rfl e).2];simp[e];rw[← e];exact azZ h
 ·simp[e]
theorem akp:∀a:List aj×List aj,af a.1=true→Oo a=decide (a.1=a.2):=fun a h=>by
 grind[Oo,zp,Xb]
noncomputable def adb:dn:=⟨37,[.rd aE,.rd aE],[.v .bool],fun a:(List aj)×(List aj)=>af a.1,fun a:(List aj)×(List aj)=>decide (a.1=a.2)⟩
theorem Vv:zO adb:=fl OT z8 [.tmp 4] mixed (aC) Tryz.func37 (bp SU ako akp)
noncomputable def aei:cX:=zC [] (dE []) 8
noncomputable def ab5(f:Nat)(a:bP):Option Rg:=aG aei (eO []) (zK [.cell 2 72] [.g sF]) f [.code (aB Tryz.f60)] (aQ [.g aev] a)
theorem Vg(f:Nat)(c:bP):ab5 (f+1) c =
  some (c.2.1,c.2.2.1):=by kernel_rfl
noncomputable def acT:bP→Rg
 | c=>(c.2.1,c.2.2.1)
noncomputable def aa5:bP→Bool
 | c=>true
theorem Ud:∀a:bP,de (fun f=>ab5 f a) (aa5 a) (acT a)
 | c=>ai (fun f=>Vg f _) ae
noncomputable def anu:dn:=⟨60,[.g aev],[.g sF],fun _=>true,fun a=>(fun c=>(c.2.1,c.2.2.1):bP→Rg) a⟩
theorem VM:zO anu:=fl aei (eO []) [.cell 2 72] mixed (aC) Tryz.func60 (bp Ud (fun _ _=>rfl) (fun _ _=>rfl))
noncomputable def adZ:cX:=zC [] (dE []) 8
noncomputable def abv(f:Nat)(a:bP):Option Rg:=aG adZ (eO []) (zK [.cell 2 72] [.g sF]) f [.code (aB Tryz.f23)] (aQ [.g aev] a)
theorem UR(f:Nat)(c:bP):abv (f+1) c =
  some (c.2.1,c.2.2.1):=by kernel_rfl
noncomputable def acF:bP→Rg
 | c=>(c.2.1,c.2.2.1)
noncomputable def aaQ:bP→Bool
 | c=>true
theorem S2:∀a:bP,de (fun f=>abv f a) (aaQ a) (acF a)
 | c=>ai (fun f=>UR f _) ae
noncomputable def OI:dn:=⟨23,[.g aev],[.g sF],fun _=>true,fun a=>(fun c=>(c.2.1,c.2.2.1):bP→Rg) a⟩
theorem EZ:zO OI:=fl adZ (eO []) [.cell 2 72] mixed (aC) Tryz.func23 (bp S2 (fun _ _=>rfl) (fun _ _=>rfl))
noncomputable def ad3:cX:=zC [] (dE []) 12
noncomputable def abB(f:Nat)(a:Int):Option Int:=aG ad3 (eO []) (zK [.tmp 2] [.v zI]) f [.code (aB Tryz.f138)] (aQ [.c zI] a)
theorem UX(f:Nat)(kind:Int):abB (f+1) kind =
  bif kind == 3 then some 12 else bif kind == 4 then some 6 else bif kind == 5 then some 10 else bif kind == 6 then some 16 else some 0:=by kernel_rfl
noncomputable def tD:Int→Int
 | kind=>bif kind == 3 then 12 else bif kind == 4 then 6 else bif kind == 5 then 10 else bif kind == 6 then 16 else 0
noncomputable def aaT:Int→Bool
 | kind=>true
theorem Tb:∀a:Int,de (fun f=>abB f a) (aaT a) (tD a)
 | kind=>ai (fun f=>UX f _) (aT ae (aT ae (aT ae (aT ae ae))))
noncomputable def adi:dn:=⟨138,[.c zI],[.v zI],fun _=>true,tD⟩
theorem Vz:zO adi:=fl ad3 (eO []) [.tmp 2] mixed (aC) Tryz.func138 (bp Tb (fun _ _=>rfl) (fun _ _=>rfl))
noncomputable def adY:cX:=zC [adi] (dE []) 35
noncomputable def abu(f:Nat)(a:Int×Int):Option Bool:=aG adY (eO []) (zK [.tmp 4] [.v .bool]) f [.code (aB Tryz.f111)] (aQ [.c zI,.c zI] a)
theorem UQ(f:Nat)(kind bits:Int):abu (f+1) (kind,bits) =
  bif kind == 1 then bif decide (bits≥6)then some (decide (bits≤40))else some false else bif kind == 2 then bif decide (bits≥12)then some (decide (bits≤40))else some false else bif decide (kind≥3)then bif decide (kind≤6)then some (bits == tD kind)else some false else some false:=by kernel_rfl
noncomputable def Ot:Rg→Bool
 | (kind,bits)=>bif kind == 1 then bif decide (bits≥6)then decide (bits≤40)else false else bif kind == 2 then bif decide (bits≥12)then decide (bits≤40)else false else bif decide (kind≥3)then bif decide (kind≤6)then bits == tD kind else false else false
noncomputable def aaP:Rg→Bool
 | (kind,bits)=>true
theorem S1:∀a:Int×Int,de (fun f=>abu f a) (aaP a) (Ot a)
 | (kind,bits)=>ai (fun f=>UQ f _ _) (aT (aT ae ae) (aT (aT ae ae) (aT (aT ae ae) ae)))
def sK(a:Int×Int):Bool:=(decide (a.1=1)&&(decide (6≤a.2)&&decide (a.2≤40))) || ((decide (a.1=2)&&(decide (12≤a.2)&&decide (a.2≤40))) || ((decide (a.1=3)&&decide (a.2=12)) || ((decide (a.1=4)&&decide (a.2=6)) || ((decide (a.1=5)&&decide (a.2=10)) || (decide (a.1=6)&&decide (a.2=16))))))
theorem AV(k b:Int):sK (k,b)=true↔(k=1∧6≤b∧b≤40)∨(k=2∧12≤b∧b≤40)∨(k=3∧b=12)∨(k=4∧b=6)∨(k=5∧b=10)∨(k=6∧b=16):=by simp[sK]
theorem akz:∀a,(fun _=>true) a=true→Ot a=sK a:=by
 rintro⟨k,b⟩ _;rw[aBM,AV];simp only[Ot,tD,zZ];grind
noncomputable def OH:dn:=⟨111,[.c zI,.c zI],[.v .bool],fun _=>true,sK⟩
theorem EY:zO OH:=fl adY (eO []) [.tmp 4] mixed (ah Vz (aC)) Tryz.func111 (bp S1 (fun _ _=>rfl) akz)
def sW(a:Int×Int):Bool:=decide (0≤a.2)&&((decide (a.1=32)&&decide (a.2≤1)) || (decide (a.1=39)&&decide (a.2≤2)))
theorem YK(w l:Int):sW (w,l)=true↔0≤l∧((w=32∧l≤1)∨(w=39∧l≤2)):=by simp[sW]
noncomputable def ad1:cX:=zC [] (dE []) 23
noncomputable def aby(f:Nat)(a:Int×Int):Option Bool:=aG ad1 (eO []) (zK [.tmp 4] [.v .bool]) f [.code (aB Tryz.f112)] (aQ [.c zI,.c zI] a)
theorem UT(f:Nat)(width level:Int):aby (f+1) (width,level) =
  bif decide (level≥0)then bif width == 32 then bif decide (level≤1)then some true else bif width == 39 then some (decide (level≤2))else some false else bif width == 39 then some (decide (level≤2))else some false else some false:=by kernel_rfl
noncomputable def Ou:Rg→Bool
 | (width,level)=>bif decide (level≥0)then bif width == 32 then bif decide (level≤1)then true else bif width == 39 then decide (level≤2)else false else bif width == 39 then decide (level≤2)else false else false
noncomputable def aaR:Rg→Bool
 | (width,level)=>true
theorem S8:∀a:Int×Int,de (fun f=>aby f a) (aaR a) (Ou a)
 | (width,level)=>ai (fun f=>UT f _ _) (aT (aT (aT ae (aT ae ae)) (aT ae ae)) ae)
theorem akH:∀a,(fun _=>true) a=true→Ou a=sW a:=by
 rintro⟨w,l⟩ _;rw[aBM,YK];grind[Ou,zZ]
noncomputable def OK:dn:=⟨112,[.c zI,.c zI],[.v .bool],fun _=>true,sW⟩
theorem E0:zO OK:=fl ad1 (eO []) [.tmp 4] mixed (aC) Tryz.func112 (bp S8 (fun _ _=>rfl) akH)
def rQ(a:bP×bP):Bool:=decide (a.1.1=a.2.1)&&(decide (a.1.2.1=a.2.2.1)&&(decide (a.1.2.2.1=a.2.2.2.1)&&(decide (a.1.2.2.2.2.1=a.2.2.2.2.2.1)&&(decide (a.1.2.2.2.2.2.1=a.2.2.2.2.2.2.1)&&(a.1.2.2.2.2.2.2 == a.2.2.2.2.2.2.2)))))
theorem xm(a b:Int):(a == b)=decide (a=b):=by grind
def sw(a:bP×bP):Bool:=!overlaps ((a.1.2.1,a.1.2.2.1),(a.2.2.1,a.2.2.2.1)) || (rQ a || ((decide (a.1.1=1)&&contains ((a.1.2.1,a.1.2.2.1),(a.2.2.1,a.2.2.2.1))) || (decide (a.2.1=1)&&contains ((a.2.2.1,a.2.2.2.1),(a.1.2.1,a.1.2.2.1)))))
noncomputable def ad9:cX:=zC [] (dE []) 11
noncomputable def abJ(f:Nat)(a:bP×Int):Option bP:=aG ad9 (eO []) (zK [.cell 4 52] [.g aev]) f [.code (aB Tryz.f103)] (aQ [.g aev,.c zI] a)
theorem U4(f:Nat)(c:bP)(mask:Int):abJ (f+1) (c,mask) =
  some (c.1,c.2.1,c.2.2.1,i64.wrap (↑(BitVec.ofInt i64.bits c.2.2.2.1&&&BitVec.ofInt i64.bits mask).toNat:Int),c.2.2.2.2):=by kernel_rfl
noncomputable def eE:(bP×Int)→bP
 | (c,mask)=>(c.1,c.2.1,c.2.2.1,i64.wrap (↑(BitVec.ofInt i64.bits c.2.2.2.1&&&BitVec.ofInt i64.bits mask).toNat:Int),c.2.2.2.2)
noncomputable def aaX:(bP×Int)→Bool
 | (c,mask)=>true
theorem Tm:∀a:bP×Int,de (fun f=>abJ f a) (aaX a) (eE a)
 | (c,mask)=>ai (fun f=>U4 f _ _) ae
noncomputable def adp:dn:=⟨103,[.g aev,.c zI],[.g aev],fun _=>true,eE⟩
theorem VF:zO adp:=fl ad9 (eO []) [.cell 4 52] mixed (aC) Tryz.func103 (bp Tm (fun _ _=>rfl) (fun _ _=>rfl))
def cQ(c:bP):Bool:=sK (c.1,c.2.2.1)&&(valid (c.2.1,c.2.2.1)&&(decide (0≤c.2.2.2.1)&&(decide (c.2.2.2.1≤7)&&((bif decide (c.1=3)then sW (c.2.2.2.2.1,c.2.2.2.2.2.1)else decide (c.2.2.2.2.1=0)&&decide (c.2.2.2.2.2.1=0))&&(!c.2.2.2.2.2.2 || (decide (c.1=1) || decide (c.1=2)))))))
theorem ahe(a b:Int):(a != b) = !decide (a=b):=by rw[bne,xm]
noncomputable def Sj:cX:=zC [OH,OI,qN,OK] (dE []) 64
noncomputable def QZ(f:Nat)(a:bP):Option Bool:=aG Sj (eO []) (zK [.tmp 2] [.v .bool]) f [.code (aB Tryz.f80)] (aQ [.g aev] a)
theorem Oc(f:Nat)(c:bP):QZ (f+1) c =
  bif !sK (c.1,c.2.2.1)then some false else bif !valid (c.2.1,c.2.2.1)then some false else bif decide (c.2.2.2.1<0)then some false else bif decide (c.2.2.2.1>7)then some false else bif c.1 == 3 then bif !sW (c.2.2.2.2.1,c.2.2.2.2.2.1)then some false else bif c.1 != 3 then bif c.2.2.2.2.1 != 0 then some false else bif c.2.2.2.2.2.1 != 0 then some false else bif !c.2.2.2.2.2.2 then some true else bif c.1 == 1 then some true else some (c.1 == 2)else bif !c.2.2.2.2.2.2 then some true else bif c.1 == 1 then some true else some (c.1 == 2)else bif c.1 != 3 then bif c.2.2.2.2.1 != 0 then some false else bif c.2.2.2.2.2.1 != 0 then some false else bif !c.2.2.2.2.2.2 then some true else bif c.1 == 1 then some true else some (c.1 == 2)else bif !c.2.2.2.2.2.2 then some true else bif c.1 == 1 then some true else some (c.1 == 2):=by kernel_rfl
noncomputable def Ha:bP→Bool
 | c=>bif !sK (c.1,c.2.2.1)then false else bif !valid (c.2.1,c.2.2.1)then false else bif decide (c.2.2.2.1<0)then false else bif decide (c.2.2.2.1>7)then false else bif c.1 == 3 then bif !sW (c.2.2.2.2.1,c.2.2.2.2.2.1)then false else bif c.1 != 3 then bif c.2.2.2.2.1 != 0 then false else bif c.2.2.2.2.2.1 != 0 then false else bif !c.2.2.2.2.2.2 then true else bif c.1 == 1 then true else c.1 == 2 else bif !c.2.2.2.2.2.2 then true else bif c.1 == 1 then true else c.1 == 2 else bif c.1 != 3 then bif c.2.2.2.2.1 != 0 then false else bif c.2.2.2.2.2.1 != 0 then false else bif !c.2.2.2.2.2.2 then true else bif c.1 == 1 then true else c.1 == 2 else bif !c.2.2.2.2.2.2 then true else bif c.1 == 1 then true else c.1 == 2
noncomputable def QO:bP→Bool
 | c=>true
theorem Mv:∀a:bP,de (fun f=>QZ f a) (QO a) (Ha a)
 | c=>ai (fun f=>Oc f _) (aT ae (aT ae (aT ae (aT ae (aT (aT ae (aT (aT ae (aT ae (aT ae (aT ae ae)))) (aT ae (aT ae ae)))) (aT (aT ae (aT ae (aT ae (aT ae ae)))) (aT ae (aT ae ae))))))))
theorem afn:∀a,(fun _=>true) a=true→Ha a=cQ a:=by
 rintro⟨k,b,z,r,w,l,d⟩ _;simp only[Ha,cQ,xm,ahe];rw[show decide (0≤r) = !decide (r<0)by rw[← decide_not];exact aBB.2 (by omega),show decide (r≤7) = !decide (r>7)by rw[← decide_not];exact aBB.2 (by omega)];cases sK (k,z)<;>cases valid (b,z)<;>cases decide (r<0)<;>cases decide (r>7)<;>(try rfl)
 grind
noncomputable def AB:dn:=⟨80,[.g aev],[.v .bool],fun _=>true,cQ⟩
theorem tE:zO AB:=fl Sj (eO []) [.tmp 2] mixed (ah EY (ah EZ (ah kx (ah E0 (aC))))) Tryz.func80 (bp Mv (fun _ _=>rfl) afn)
def eN(src:bP)(ob bits wid kE off:Int):Nat→Nat→List bP
 | 0,_=>[]
 | n+1,k=>(ob,src.2.1+off+(k:Int)*p2 bits,bits,src.2.2.2.1,wid,kE,src.2.2.2.2.2.2)::eN src ob bits wid kE off n (k+1)
def anf(r:Int):Bool:=i64.wrap (((BitVec.ofInt i64.bits r&&&BitVec.ofInt i64.bits 2).toNat:Nat):Int) == 0
def j9(a:bP×Int×Int×Int×Int×Int×Int):List bP×Int:=match a with
 | (src,ob,bits,kE,wid,off,jc)=>
  bif !cQ src || !decide (src.1=1)then([],5)
  else bif anf src.2.2.2.1 then([],8)
  else bif !sK (ob,bits) || (decide (ob=3)&&!sW (wid,kE) || (decide (jc<1) || (decide (jc>8) || decide (off<0))))then([],1)
  else bif src.2.2.2.2.2.2&&(!decide (ob=1)&&!decide (ob=2))then([],5)
  else bif !decide (Int.tmod off (p2 bits)=0) || (decide (off>p2 src.2.2.1) || (decide (jc*p2 bits>p2 src.2.2.1-off) || decide (ob=1)&&decide (bits≥src.2.2.1)))then([],6)
  else(eN src ob bits (bif decide (ob=3)then wid else 0) (bif decide (ob=3)then kE else 0) off jc.toNat 0,0)
theorem sC{c:bP}(h:cQ c=true):6≤c.2.2.1∧c.2.2.1≤40∧valid (c.2.1,c.2.2.1)=true:=by
 simp only[cQ,azF]at h;have:=gI h.2.1;grind
theorem DO{k b:Int}(h:sK (k,b)=true):6≤b∧b≤40:=by
 grind[AV]
noncomputable def OU:cX:=zC [AB,OH,OK] (dE []) 136
def Aa:Nat→LD:=eO [(0,⟨[.c 1 (zI),.c 2 (zI),.c 3 (zI),.c 4 (zI),.c 5 (zI),.c 6 (zI),.box 7 7 52 7 aev,.c 16 (.bool),.c 17 (zI),.list 19 999 52 7 aev,.c 20 (zI)],[],0⟩)]
noncomputable def abw(f:Nat)(a:bP×Int×Int×Int×Int×Int×Int):Option ((List bP)×Int):=aG OU Aa (zK [.tmp 14,.tmp 15] [.o 52 7 aev,.v zI]) f [.code (aB Tryz.f104)] (aQ [.g aev,.c zI,.c zI,.c zI,.c zI,.c zI,.c zI] a)
noncomputable def dh(f:Nat)(x:Int×Int×Int×Int×Int×Int×bP×Bool×Int×(List bP)×Int):Option ((List bP)×Int):=aG OU Aa (zK [.tmp 14,.tmp 15] [.o 52 7 aev,.v zI]) f (aV Tryz.f104 0) ((Aa 0).mk' x)
abbrev rtA(object bits level width offset count:Int)(src:bP):=(object,bits,level,width,offset,count,src,object == 3,i64.wrap (1*2 ^ min (u64.wrap bits).toNat i64.bits),([]:List bP),(0:Int))
theorem US(f:Nat)(src:bP)(object bits level width offset count:Int):abw (f+1) (src,object,bits,level,width,offset,count) =
  bif !cQ src then some ([],5)else bif src.1 != 1 then some ([],5)else bif i64.wrap (↑(BitVec.ofInt i64.bits src.2.2.2.1&&&BitVec.ofInt i64.bits 2).toNat:Int) == 0 then some ([],8)else bif !sK (object,bits)then some ([],1)else bif object == 3 then bif !sW (width,level)then some ([],1)else bif decide (count<1)then some ([],1)else bif decide (count>8)then some ([],1)else bif decide (offset<0)then some ([],1)else bif src.2.2.2.2.2.2 then bif object != 1 then bif object != 2 then some ([],5)else bif decide (0≤u64.wrap bits)then bif decide (0≤u64.wrap src.2.2.1)then bif i64.wrap (1*2 ^ min (u64.wrap bits).toNat i64.bits) != 0 then bif offset.tmod (i64.wrap (1*2 ^ min (u64.wrap bits).toNat i64.bits)) != 0 then some ([],6)else bif decide (offset>i64.wrap (1*2 ^ min (u64.wrap src.2.2.1).toNat i64.bits))then some ([],6)else bif decide (i64.wrap (count*i64.wrap (1*2 ^ min (u64.wrap bits).toNat i64.bits))>i64.wrap (i64.wrap (1*2 ^ min (u64.wrap src.2.2.1).toNat i64.bits)-offset))then some ([],6)else bif object == 1 then bif decide (bits≥src.2.2.1)then some ([],6)else dh f (rtA object bits level width offset count src)else dh f (rtA object bits level width offset count src)else none else none else none else bif decide (0≤u64.wrap bits)then bif decide (0≤u64.wrap src.2.2.1)then bif i64.wrap (1*2 ^ min (u64.wrap bits).toNat i64.bits) != 0 then bif offset.tmod (i64.wrap (1*2 ^ min (u64.wrap bits).toNat i64.bits)) != 0 then some ([],6)else bif decide (offset>i64.wrap (1*2 ^ min (u64.wrap src.2.2.1).toNat i64.bits))then some ([],6)else bif decide (i64.wrap (count*i64.wrap (1*2 ^ min (u64.wrap bits).toNat i64.bits))>i64.wrap (i64.wrap (1*2 ^ min (u64.wrap src.2.2.1).toNat i64.bits)-offset))then some ([],6)else bif object == 1 then bif decide (bits≥src.2.2.1)then some ([],6)else dh f (rtA object bits level width offset count src)else dh f (rtA object bits level width offset count src)else none else none else none else bif decide (0≤u64.wrap bits)then bif decide (0≤u64.wrap src.2.2.1)then bif i64.wrap (1*2 ^ min (u64.wrap bits).toNat i64.bits) != 0 then bif offset.tmod (i64.wrap (1*2 ^ min (u64.wrap bits).toNat i64.bits)) != 0 then some ([],6)else bif decide (offset>i64.wrap (1*2 ^ min (u64.wrap src.2.2.1).toNat i64.bits))then some ([],6)else bif decide (i64.wrap (count*i64.wrap (1*2 ^ min (u64.wrap bits).toNat i64.bits))>i64.wrap (i64.wrap (1*2 ^ min (u64.wrap src.2.2.1).toNat i64.bits)-offset))then some ([],6)else bif object == 1 then bif decide (bits≥src.2.2.1)then some ([],6)else dh f (rtA object bits level width offset count src)else dh f (rtA object bits level width offset count src)else none else none else none else bif decide (count<1)then some ([],1)else bif decide (count>8)then some ([],1)else bif decide (offset<0)then some ([],1)else bif src.2.2.2.2.2.2 then bif object != 1 then bif object != 2 then some ([],5)else bif decide (0≤u64.wrap bits)then bif decide (0≤u64.wrap src.2.2.1)then bif i64.wrap (1*2 ^ min (u64.wrap bits).toNat i64.bits) != 0 then bif offset.tmod (i64.wrap (1*2 ^ min (u64.wrap bits).toNat i64.bits)) != 0 then some ([],6)else bif decide (offset>i64.wrap (1*2 ^ min (u64.wrap src.2.2.1).toNat i64.bits))then some ([],6)else bif decide (i64.wrap (count*i64.wrap (1*2 ^ min (u64.wrap bits).toNat i64.bits))>i64.wrap (i64.wrap (1*2 ^ min (u64.wrap src.2.2.1).toNat i64.bits)-offset))then some ([],6)else bif object == 1 then bif decide (bits≥src.2.2.1)then some ([],6)else dh f (rtA object bits level width offset count src)else dh f (rtA object bits level width offset count src)else none else none else none else bif decide (0≤u64.wrap bits)then bif decide (0≤u64.wrap src.2.2.1)then bif i64.wrap (1*2 ^ min (u64.wrap bits).toNat i64.bits) != 0 then bif offset.tmod (i64.wrap (1*2 ^ min (u64.wrap bits).toNat i64.bits)) != 0 then some ([],6)else bif decide (offset>i64.wrap (1*2 ^ min (u64.wrap src.2.2.1).toNat i64.bits))then some ([],6)else bif decide (i64.wrap (count*i64.wrap (1*2 ^ min (u64.wrap bits).toNat i64.bits))>i64.wrap (i64.wrap (1*2 ^ min (u64.wrap src.2.2.1).toNat i64.bits)-offset))then some ([],6)else bif object == 1 then bif decide (bits≥src.2.2.1)then some ([],6)else dh f (rtA object bits level width offset count src)else dh f (rtA object bits level width offset count src)else none else none else none else bif decide (0≤u64.wrap bits)then bif decide (0≤u64.wrap src.2.2.1)then bif i64.wrap (1*2 ^ min (u64.wrap bits).toNat i64.bits) != 0 then bif offset.tmod (i64.wrap (1*2 ^ min (u64.wrap bits).toNat i64.bits)) != 0 then some ([],6)else bif decide (offset>i64.wrap (1*2 ^ min (u64.wrap src.2.2.1).toNat i64.bits))then some ([],6)else bif decide (i64.wrap (count*i64.wrap (1*2 ^ min (u64.wrap bits).toNat i64.bits))>i64.wrap (i64.wrap (1*2 ^ min (u64.wrap src.2.2.1).toNat i64.bits)-offset))then some ([],6)else bif object == 1 then bif decide (bits≥src.2.2.1)then some ([],6)else dh f (rtA object bits level width offset count src)else dh f (rtA object bits level width offset count src)else none else none else none:=by kernel_rfl
theorem yl(f:Nat)(object bits level width offset count:Int)(src:bP)(table:Bool)(size:Int)(out:List bP)(i:Int):dh (f+1) (object,bits,level,width,offset,count,src,table,size,out,i) =
  bif decide (i<count)then bif table then bif decide ((out.length+[(object,i64.wrap (i64.wrap (src.2.1+offset)+i64.wrap (i*size)),bits,src.2.2.2.1,width,level,src.2.2.2.2.2.2)].length)*56≤140737488355328)then dh f (object,bits,level,width,offset,count,src,table,size,out++[(object,i64.wrap (i64.wrap (src.2.1+offset)+i64.wrap (i*size)),bits,src.2.2.2.1,width,level,src.2.2.2.2.2.2)],i64.wrap (i+1))else none else bif decide ((out.length+[(object,i64.wrap (i64.wrap (src.2.1+offset)+i64.wrap (i*size)),bits,src.2.2.2.1,0,0,src.2.2.2.2.2.2)].length)*56≤140737488355328)then dh f (object,bits,level,width,offset,count,src,table,size,out++[(object,i64.wrap (i64.wrap (src.2.1+offset)+i64.wrap (i*size)),bits,src.2.2.2.1,0,0,src.2.2.2.2.2.2)],i64.wrap (i+1))else none else some (out,0):=by kernel_rfl
noncomputable def cn:Nat→(Int×Int×Int×Int×Int×Int×bP×Bool×Int×(List bP)×Nat)→(List bP)×Int
 | 0,(object,bits,level,width,offset,count,src,table,size,out,i)=>(out,0)
 | rest+1,(object,bits,level,width,offset,count,src,table,size,out,i)=>bif table then cn rest (object,bits,level,width,offset,count,src,table,size,out++[(object,i64.wrap (i64.wrap (src.2.1+offset)+i64.wrap ((↑i:Int)*size)),bits,src.2.2.2.1,width,level,src.2.2.2.2.2.2)],i+1)else cn rest (object,bits,level,width,offset,count,src,table,size,out++[(object,i64.wrap (i64.wrap (src.2.1+offset)+i64.wrap ((↑i:Int)*size)),bits,src.2.2.2.1,0,0,src.2.2.2.2.2.2)],i+1)
noncomputable def cF:Nat→(Int×Int×Int×Int×Int×Int×bP×Bool×Int×(List bP)×Nat)→Bool
 | 0,(object,bits,level,width,offset,count,src,table,size,out,i)=>true
 | rest+1,(object,bits,level,width,offset,count,src,table,size,out,i)=>bif table then decide ((out.length+[(object,i64.wrap (i64.wrap (src.2.1+offset)+i64.wrap ((↑i:Int)*size)),bits,src.2.2.2.1,width,level,src.2.2.2.2.2.2)].length)*56≤140737488355328)&&cF rest (object,bits,level,width,offset,count,src,table,size,out++[(object,i64.wrap (i64.wrap (src.2.1+offset)+i64.wrap ((↑i:Int)*size)),bits,src.2.2.2.1,width,level,src.2.2.2.2.2.2)],i+1)else decide ((out.length+[(object,i64.wrap (i64.wrap (src.2.1+offset)+i64.wrap ((↑i:Int)*size)),bits,src.2.2.2.1,0,0,src.2.2.2.2.2.2)].length)*56≤140737488355328)&&cF rest (object,bits,level,width,offset,count,src,table,size,out++[(object,i64.wrap (i64.wrap (src.2.1+offset)+i64.wrap ((↑i:Int)*size)),bits,src.2.2.2.1,0,0,src.2.2.2.2.2.2)],i+1)
theorem dN:∀(rest:Nat) (object bits level width offset count:Int) (src:bP) (table:Bool) (size:Int) (out:List bP) (i:Nat) (hd:((count:Int)-((i:Nat):Int)).toNat=rest) (hl:(count:Int)≤1099511627776),de (fun f=>dh f (object,bits,level,width,offset,count,src,table,size,out,((i:Nat):Int))) (cF rest (object,bits,level,width,offset,count,src,table,size,out,i)) (cn rest (object,bits,level,width,offset,count,src,table,size,out,i))
 | 0,object,bits,level,width,offset,count,src,table,size,out,i,hd,hl=>ai (fun f=>(yl f _ _ _ _ _ _ _ _ _ _ _).trans (by simp only[aah hd,azI]<;>rfl)) ae
 | rest+1,object,bits,level,width,offset,count,src,table,size,out,i,hd,hl=>ai (fun f=>(yl f _ _ _ _ _ _ _ _ _ _ _).trans (by simp only[aag hd,KQ hd hl,azH]<;>rfl)) (ao (aI (dN rest _ _ _ _ _ _ _ _ _ _ _ (u7 hd) (by grind))) (aI (dN rest _ _ _ _ _ _ _ _ _ _ _ (u7 hd) (by grind))))
noncomputable def Hb:(bP×Int×Int×Int×Int×Int×Int)→(List bP)×Int
 | (src,object,bits,level,width,offset,count)=>bif !cQ src then([],5)else bif src.1 != 1 then([],5)else bif i64.wrap (↑(BitVec.ofInt i64.bits src.2.2.2.1&&&BitVec.ofInt i64.bits 2).toNat:Int) == 0 then([],8)else bif !sK (object,bits)then([],1)else bif object == 3 then bif !sW (width,level)then([],1)else bif decide (count<1)then([],1)else bif decide (count>8)then([],1)else bif decide (offset<0)then([],1)else bif src.2.2.2.2.2.2 then bif object != 1 then bif object != 2 then([],5)else bif offset.tmod (i64.wrap (1*2 ^ min (u64.wrap bits).toNat i64.bits)) != 0 then([],6)else bif decide (offset>i64.wrap (1*2 ^ min (u64.wrap src.2.2.1).toNat i64.bits))then([],6)else bif decide (i64.wrap (count*i64.wrap (1*2 ^ min (u64.wrap bits).toNat i64.bits))>i64.wrap (i64.wrap (1*2 ^ min (u64.wrap src.2.2.1).toNat i64.bits)-offset))then([],6)else bif object == 1 then bif decide (bits≥src.2.2.1)then([],6)else cn (count-(↑0:Int)).toNat (object,bits,level,width,offset,count,src,object == 3,i64.wrap (1*2 ^ min (u64.wrap bits).toNat i64.bits),[],0)else cn (count-(↑0:Int)).toNat (object,bits,level,width,offset,count,src,object == 3,i64.wrap (1*2 ^ min (u64.wrap bits).toNat i64.bits),[],0)else bif offset.tmod (i64.wrap (1*2 ^ min (u64.wrap bits).toNat i64.bits)) != 0 then([],6)else bif decide (offset>i64.wrap (1*2 ^ min (u64.wrap src.2.2.1).toNat i64.bits))then([],6)else bif decide (i64.wrap (count*i64.wrap (1*2 ^ min (u64.wrap bits).toNat i64.bits))>i64.wrap (i64.wrap (1*2 ^ min (u64.wrap src.2.2.1).toNat i64.bits)-offset))then([],6)else bif object == 1 then bif decide (bits≥src.2.2.1)then([],6)else cn (count-(↑0:Int)).toNat (object,bits,level,width,offset,count,src,object == 3,i64.wrap (1*2 ^ min (u64.wrap bits).toNat i64.bits),[],0)else cn (count-(↑0:Int)).toNat (object,bits,level,width,offset,count,src,object == 3,i64.wrap (1*2 ^ min (u64.wrap bits).toNat i64.bits),[],0)else bif offset.tmod (i64.wrap (1*2 ^ min (u64.wrap bits).toNat i64.bits)) != 0 then([],6)else bif decide (offset>i64.wrap (1*2 ^ min (u64.wrap src.2.2.1).toNat i64.bits))then([],6)else bif decide (i64.wrap (count*i64.wrap (1*2 ^ min (u64.wrap bits).toNat i64.bits))>i64.wrap (i64.wrap (1*2 ^ min (u64.wrap src.2.2.1).toNat i64.bits)-offset))then([],6)else bif object == 1 then bif decide (bits≥src.2.2.1)then([],6)else cn (count-(↑0:Int)).toNat (object,bits,level,width,offset,count,src,object == 3,i64.wrap (1*2 ^ min (u64.wrap bits).toNat i64.bits),[],0)else cn (count-(↑0:Int)).toNat (object,bits,level,width,offset,count,src,object == 3,i64.wrap (1*2 ^ min (u64.wrap bits).toNat i64.bits),[],0)else bif decide (count<1)then([],1)else bif decide (count>8)then([],1)else bif decide (offset<0)then([],1)else bif src.2.2.2.2.2.2 then bif object != 1 then bif object != 2 then([],5)else bif offset.tmod (i64.wrap (1*2 ^ min (u64.wrap bits).toNat i64.bits)) != 0 then([],6)else bif decide (offset>i64.wrap (1*2 ^ min (u64.wrap src.2.2.1).toNat i64.bits))then([],6)else bif decide (i64.wrap (count*i64.wrap (1*2 ^ min (u64.wrap bits).toNat i64.bits))>i64.wrap (i64.wrap (1*2 ^ min (u64.wrap src.2.2.1).toNat i64.bits)-offset))then([],6)else bif object == 1 then bif decide (bits≥src.2.2.1)then([],6)else cn (count-(↑0:Int)).toNat (object,bits,level,width,offset,count,src,object == 3,i64.wrap (1*2 ^ min (u64.wrap bits).toNat i64.bits),[],0)else cn (count-(↑0:Int)).toNat (object,bits,level,width,offset,count,src,object == 3,i64.wrap (1*2 ^ min (u64.wrap bits).toNat i64.bits),[],0)else bif offset.tmod (i64.wrap (1*2 ^ min (u64.wrap bits).toNat i64.bits)) != 0 then([],6)else bif decide (offset>i64.wrap (1*2 ^ min (u64.wrap src.2.2.1).toNat i64.bits))then([],6)else bif decide (i64.wrap (count*i64.wrap (1*2 ^ min (u64.wrap bits).toNat i64.bits))>i64.wrap (i64.wrap (1*2 ^ min (u64.wrap src.2.2.1).toNat i64.bits)-offset))then([],6)else bif object == 1 then bif decide (bits≥src.2.2.1)then([],6)else cn (count-(↑0:Int)).toNat (object,bits,level,width,offset,count,src,object == 3,i64.wrap (1*2 ^ min (u64.wrap bits).toNat i64.bits),[],0)else cn (count-(↑0:Int)).toNat (object,bits,level,width,offset,count,src,object == 3,i64.wrap (1*2 ^ min (u64.wrap bits).toNat i64.bits),[],0)else bif offset.tmod (i64.wrap (1*2 ^ min (u64.wrap bits).toNat i64.bits)) != 0 then([],6)else bif decide (offset>i64.wrap (1*2 ^ min (u64.wrap src.2.2.1).toNat i64.bits))then([],6)else bif decide (i64.wrap (count*i64.wrap (1*2 ^ min (u64.wrap bits).toNat i64.bits))>i64.wrap (i64.wrap (1*2 ^ min (u64.wrap src.2.2.1).toNat i64.bits)-offset))then([],6)else bif object == 1 then bif decide (bits≥src.2.2.1)then([],6)else cn (count-(↑0:Int)).toNat (object,bits,level,width,offset,count,src,object == 3,i64.wrap (1*2 ^ min (u64.wrap bits).toNat i64.bits),[],0)else cn (count-(↑0:Int)).toNat (object,bits,level,width,offset,count,src,object == 3,i64.wrap (1*2 ^ min (u64.wrap bits).toNat i64.bits),[],0)
noncomputable def GQ:(bP×Int×Int×Int×Int×Int×Int)→Bool
 | (src,object,bits,level,width,offset,count)=>bif !cQ src then true else bif src.1 != 1 then true else bif i64.wrap (↑(BitVec.ofInt i64.bits src.2.2.2.1&&&BitVec.ofInt i64.bits 2).toNat:Int) == 0 then true else bif !sK (object,bits)then true else bif object == 3 then bif !sW (width,level)then true else bif decide (count<1)then true else bif decide (count>8)then true else bif decide (offset<0)then true else bif src.2.2.2.2.2.2 then bif object != 1 then bif object != 2 then true else decide (0≤u64.wrap bits)&&(decide (0≤u64.wrap src.2.2.1)&&(i64.wrap (1*2 ^ min (u64.wrap bits).toNat i64.bits) != 0&&bif offset.tmod (i64.wrap (1*2 ^ min (u64.wrap bits).toNat i64.bits)) != 0 then true else bif decide (offset>i64.wrap (1*2 ^ min (u64.wrap src.2.2.1).toNat i64.bits))then true else bif decide (i64.wrap (count*i64.wrap (1*2 ^ min (u64.wrap bits).toNat i64.bits))>i64.wrap (i64.wrap (1*2 ^ min (u64.wrap src.2.2.1).toNat i64.bits)-offset))then true else bif object == 1 then bif decide (bits≥src.2.2.1)then true else decide (count≤1099511627776)&&cF (count-(↑0:Int)).toNat (object,bits,level,width,offset,count,src,object == 3,i64.wrap (1*2 ^ min (u64.wrap bits).toNat i64.bits),[],0)else decide (count≤1099511627776)&&cF (count-(↑0:Int)).toNat (object,bits,level,width,offset,count,src,object == 3,i64.wrap (1*2 ^ min (u64.wrap bits).toNat i64.bits),[],0)))else decide (0≤u64.wrap bits)&&(decide (0≤u64.wrap src.2.2.1)&&(i64.wrap (1*2 ^ min (u64.wrap bits).toNat i64.bits) != 0&&bif offset.tmod (i64.wrap (1*2 ^ min (u64.wrap bits).toNat i64.bits)) != 0 then true else bif decide (offset>i64.wrap (1*2 ^ min (u64.wrap src.2.2.1).toNat i64.bits))then true else bif decide (i64.wrap (count*i64.wrap (1*2 ^ min (u64.wrap bits).toNat i64.bits))>i64.wrap (i64.wrap (1*2 ^ min (u64.wrap src.2.2.1).toNat i64.bits)-offset))then true else bif object == 1 then bif decide (bits≥src.2.2.1)then true else decide (count≤1099511627776)&&cF (count-(↑0:Int)).toNat (object,bits,level,width,offset,count,src,object == 3,i64.wrap (1*2 ^ min (u64.wrap bits).toNat i64.bits),[],0)else decide (count≤1099511627776)&&cF (count-(↑0:Int)).toNat (object,bits,level,width,offset,count,src,object == 3,i64.wrap (1*2 ^ min (u64.wrap bits).toNat i64.bits),[],0)))else decide (0≤u64.wrap bits)&&(decide (0≤u64.wrap src.2.2.1)&&(i64.wrap (1*2 ^ min (u64.wrap bits).toNat i64.bits) != 0&&bif offset.tmod (i64.wrap (1*2 ^ min (u64.wrap bits).toNat i64.bits)) != 0 then true else bif decide (offset>i64.wrap (1*2 ^ min (u64.wrap src.2.2.1).toNat i64.bits))then true else bif decide (i64.wrap (count*i64.wrap (1*2 ^ min (u64.wrap bits).toNat i64.bits))>i64.wrap (i64.wrap (1*2 ^ min (u64.wrap src.2.2.1).toNat i64.bits)-offset))then true else bif object == 1 then bif decide (bits≥src.2.2.1)then true else decide (count≤1099511627776)&&cF (count-(↑0:Int)).toNat (object,bits,level,width,offset,count,src,object == 3,i64.wrap (1*2 ^ min (u64.wrap bits).toNat i64.bits),[],0)else decide (count≤1099511627776)&&cF (count-(↑0:Int)).toNat (object,bits,level,width,offset,count,src,object == 3,i64.wrap (1*2 ^ min (u64.wrap bits).toNat i64.bits),[],0)))else bif decide (count<1)then true else bif decide (count>8)then true else bif decide (offset<0)then true else bif src.2.2.2.2.2.2 then bif object != 1 then bif object != 2 then true else decide (0≤u64.wrap bits)&&(decide (0≤u64.wrap src.2.2.1)&&(i64.wrap (1*2 ^ min (u64.wrap bits).toNat i64.bits) != 0&&bif offset.tmod (i64.wrap (1*2 ^ min (u64.wrap bits).toNat i64.bits)) != 0 then true else bif decide (offset>i64.wrap (1*2 ^ min (u64.wrap src.2.2.1).toNat i64.bits))then true else bif decide (i64.wrap (count*i64.wrap (1*2 ^ min (u64.wrap bits).toNat i64.bits))>i64.wrap (i64.wrap (1*2 ^ min (u64.wrap src.2.2.1).toNat i64.bits)-offset))then true else bif object == 1 then bif decide (bits≥src.2.2.1)then true else decide (count≤1099511627776)&&cF (count-(↑0:Int)).toNat (object,bits,level,width,offset,count,src,object == 3,i64.wrap (1*2 ^ min (u64.wrap bits).toNat i64.bits),[],0)else decide (count≤1099511627776)&&cF (count-(↑0:Int)).toNat (object,bits,level,width,offset,count,src,object == 3,i64.wrap (1*2 ^ min (u64.wrap bits).toNat i64.bits),[],0)))else decide (0≤u64.wrap bits)&&(decide (0≤u64.wrap src.2.2.1)&&(i64.wrap (1*2 ^ min (u64.wrap bits).toNat i64.bits) != 0&&bif offset.tmod (i64.wrap (1*2 ^ min (u64.wrap bits).toNat i64.bits)) != 0 then true else bif decide (offset>i64.wrap (1*2 ^ min (u64.wrap src.2.2.1).toNat i64.bits))then true else bif decide (i64.wrap (count*i64.wrap (1*2 ^ min (u64.wrap bits).toNat i64.bits))>i64.wrap (i64.wrap (1*2 ^ min (u64.wrap src.2.2.1).toNat i64.bits)-offset))then true else bif object == 1 then bif decide (bits≥src.2.2.1)then true else decide (count≤1099511627776)&&cF (count-(↑0:Int)).toNat (object,bits,level,width,offset,count,src,object == 3,i64.wrap (1*2 ^ min (u64.wrap bits).toNat i64.bits),[],0)else decide (count≤1099511627776)&&cF (count-(↑0:Int)).toNat (object,bits,level,width,offset,count,src,object == 3,i64.wrap (1*2 ^ min (u64.wrap bits).toNat i64.bits),[],0)))else decide (0≤u64.wrap bits)&&(decide (0≤u64.wrap src.2.2.1)&&(i64.wrap (1*2 ^ min (u64.wrap bits).toNat i64.bits) != 0&&bif offset.tmod (i64.wrap (1*2 ^ min (u64.wrap bits).toNat i64.bits)) != 0 then true else bif decide (offset>i64.wrap (1*2 ^ min (u64.wrap src.2.2.1).toNat i64.bits))then true else bif decide (i64.wrap (count*i64.wrap (1*2 ^ min (u64.wrap bits).toNat i64.bits))>i64.wrap (i64.wrap (1*2 ^ min (u64.wrap src.2.2.1).toNat i64.bits)-offset))then true else bif object == 1 then bif decide (bits≥src.2.2.1)then true else decide (count≤1099511627776)&&cF (count-(↑0:Int)).toNat (object,bits,level,width,offset,count,src,object == 3,i64.wrap (1*2 ^ min (u64.wrap bits).toNat i64.bits),[],0)else decide (count≤1099511627776)&&cF (count-(↑0:Int)).toNat (object,bits,level,width,offset,count,src,object == 3,i64.wrap (1*2 ^ min (u64.wrap bits).toNat i64.bits),[],0)))
theorem S3:∀a:bP×Int×Int×Int×Int×Int×Int,de (fun f=>abw f a) (GQ a) (Hb a)
 | (src,object,bits,level,width,offset,count)=>ai (fun f=>US f _ _ _ _ _ _ _) (ao ae (ao ae (ao ae (ao ae (ao (ao ae (ao ae (ao ae (ao ae (ao (ao (ao ae (aI (aI (aI (ao ae (ao ae (ao ae (ao (ao ae (bL fun hh=>dN _ _ _ _ _ _ _ _ _ _ _ _ rfl (azZ hh))) (bL fun hh=>dN _ _ _ _ _ _ _ _ _ _ _ _ rfl (azZ hh)))))))))) (aI (aI (aI (ao ae (ao ae (ao ae (ao (ao ae (bL fun hh=>dN _ _ _ _ _ _ _ _ _ _ _ _ rfl (azZ hh))) (bL fun hh=>dN _ _ _ _ _ _ _ _ _ _ _ _ rfl (azZ hh)))))))))) (aI (aI (aI (ao ae (ao ae (ao ae (ao (ao ae (bL fun hh=>dN _ _ _ _ _ _ _ _ _ _ _ _ rfl (azZ hh))) (bL fun hh=>dN _ _ _ _ _ _ _ _ _ _ _ _ rfl (azZ hh)))))))))))))) (ao ae (ao ae (ao ae (ao (ao (ao ae (aI (aI (aI (ao ae (ao ae (ao ae (ao (ao ae (bL fun hh=>dN _ _ _ _ _ _ _ _ _ _ _ _ rfl (azZ hh))) (bL fun hh=>dN _ _ _ _ _ _ _ _ _ _ _ _ rfl (azZ hh)))))))))) (aI (aI (aI (ao ae (ao ae (ao ae (ao (ao ae (bL fun hh=>dN _ _ _ _ _ _ _ _ _ _ _ _ rfl (azZ hh))) (bL fun hh=>dN _ _ _ _ _ _ _ _ _ _ _ _ rfl (azZ hh)))))))))) (aI (aI (aI (ao ae (ao ae (ao ae (ao (ao ae (bL fun hh=>dN _ _ _ _ _ _ _ _ _ _ _ _ rfl (azZ hh))) (bL fun hh=>dN _ _ _ _ _ _ _ _ _ _ _ _ rfl (azZ hh))))))))))))))))))
theorem Xl(src:bP)(ob bits kE wid off jc:Int)(tb:Bool)(h0:0≤src.2.1)(h1:0≤off):∀(m k:Nat) (out:List bP),src.2.1+off+((k+m:Nat):Int)*p2 bits≤4611686018427387904→out.length+m≤1000→
  cn m (ob,bits,kE,wid,off,jc,src,tb,p2 bits,out,k)=(out++eN src ob bits (bif tb then wid else 0) (bif tb then kE else 0) off m k,0)∧cF m (ob,bits,kE,wid,off,jc,src,tb,p2 bits,out,k)=true
 | 0,k,out,hs,hl=>⟨by simp[cn,eN],rfl⟩
 | m+1,k,out,hs,hl=>by
  have hp:=eZ bits;have e1:((k+(m+1):Nat):Int)*p2 bits=((k:Nat):Int)*p2 bits+(((m:Nat):Int)+1)*p2 bits:=by grind
  have e2:0≤((k:Nat):Int)*p2 bits:=aBR (by omega) (by omega);have e3:0≤(((m:Nat):Int)+1)*p2 bits:=aBR (by omega) (by omega);have w1:i64.wrap (((k:Nat):Int)*p2 bits)=((k:Nat):Int)*p2 bits:=az (by omega) (by omega);have w2:i64.wrap (src.2.1+off)=src.2.1+off:=az (by omega) (by omega);have w3:i64.wrap (src.2.1+off+((k:Nat):Int)*p2 bits)=src.2.1+off+((k:Nat):Int)*p2 bits:=az (by omega) (by omega);have ih:=fun x=>Xl src ob bits kE wid off jc tb h0 h1 m (k+1) (out++[x]) (by grind) (by simp;omega)
  have hd:∀x:bP,decide ((out.length+[x].length)*56≤140737488355328)=true:=fun x=>azC (by simp;omega)
  simp only[cn,cF,w1,w2,w3,(ih _).1,(ih _).2,hd];cases tb
  ·exact⟨by simp only[eN,azI,aAB,aCf],by simp<;>omega⟩
  ·exact⟨by simp only[eN,azH,aAB,aCf],by simp<;>omega⟩
theorem DU(src:bP)(ob bits kE wid off jc:Int):Hb (src,ob,bits,kE,wid,off,jc)=j9 (src,ob,bits,kE,wid,off,jc)∧GQ (src,ob,bits,kE,wid,off,jc)=true:=by
 simp only[Hb,GQ,j9,anf,xm,ahe];cases hv:cQ src
 ·grind
 by_cases h1:src.1=1
 case neg=>grind
 simp only[azC h1,aBr,azI,Bool.or_self];cases decide (i64.wrap (((BitVec.ofInt i64.bits src.2.2.2.1&&&BitVec.ofInt i64.bits 2).toNat:Nat):Int)=0)
 case true=>grind
 cases hs:sK (ob,bits)
 ·grind
 obtain⟨b1,b2⟩:=DO hs;obtain⟨c1,c2,c3⟩:=sC hv;obtain⟨_,_,d1,_,d2⟩:=gI c3
 dsimp only at d1 d2
 have u1:u64.wrap bits=bits:=sD (by omega) (by omega);have u2:u64.wrap src.2.2.1=src.2.2.1:=sD (by omega) (by omega);have s1:=sh1 (k:=bits) (by omega) (by omega);have s2:=sh1 (k:=src.2.2.1) (by omega) (by omega);have q1:=eZ bits;have q2:=mj b2;have q3:=eZ src.2.2.1;have q4:=mj c2;simp only[u1,u2,s1,s2,aBr,azI,aBL,azC (show(0:Int)≤bits by omega),azC (show(0:Int)≤src.2.2.1 by omega),azK (show ¬ p2 bits=0 by omega),aBh,azP];cases hl:(decide (ob=3)&&!sW (wid,kE))
 case true=>
  grind
 have key:∀(α:Type) (x y:α),(bif decide (ob=3)then bif !sW (wid,kE)then x else y else y)=y:=by
  grind
 simp only[key,aBL];by_cases h2:jc<1
 ·grind
 by_cases h3:jc>8
 ·grind
 by_cases h4:off<0
 ·grind
 simp only[azK h2,azK h3,azK h4,azI,Bool.or_self];have m1:jc*p2 bits≤8*p2 bits:=aB5 (by omega) (by omega);have m2:0≤jc*p2 bits:=aBR (by omega) (by omega);have w1:i64.wrap (jc*p2 bits)=jc*p2 bits:=az (by omega) (by omega);have body:(bif !decide (Int.tmod off (p2 bits)=0)then(([],6):List bP×Int)
   else bif decide (off>p2 src.2.2.1)then([],6)
   else bif decide (i64.wrap (jc*p2 bits)>i64.wrap (p2 src.2.2.1-off))then([],6)
   else bif decide (ob=1)then bif decide (bits≥src.2.2.1)then([],6)else cn (jc-((0:Nat):Int)).toNat (ob,bits,kE,wid,off,jc,src,decide (ob=3),p2 bits,[],0)
   else cn (jc-((0:Nat):Int)).toNat (ob,bits,kE,wid,off,jc,src,decide (ob=3),p2 bits,[],0)) =
   (bif !decide (Int.tmod off (p2 bits)=0) || (decide (off>p2 src.2.2.1) || (decide (jc*p2 bits>p2 src.2.2.1-off) || decide (ob=1)&&decide (bits≥src.2.2.1)))then([],6)
   else(eN src ob bits (bif decide (ob=3)then wid else 0) (bif decide (ob=3)then kE else 0) off jc.toNat 0,0))∧
   (bif !decide (Int.tmod off (p2 bits)=0)then true
   else bif decide (off>p2 src.2.2.1)then true
   else bif decide (i64.wrap (jc*p2 bits)>i64.wrap (p2 src.2.2.1-off))then true
   else bif decide (ob=1)then bif decide (bits≥src.2.2.1)then true else decide (jc≤1099511627776)&&cF (jc-((0:Nat):Int)).toNat (ob,bits,kE,wid,off,jc,src,decide (ob=3),p2 bits,[],0)
   else decide (jc≤1099511627776)&&cF (jc-((0:Nat):Int)).toNat (ob,bits,kE,wid,off,jc,src,decide (ob=3),p2 bits,[],0))=true:=by
  cases decide (Int.tmod off (p2 bits)=0)
  ·exact⟨rfl,rfl⟩
  by_cases h5:off>p2 src.2.2.1
  ·simp only[azC h5];exact⟨rfl,rfl⟩
  have w2:i64.wrap (p2 src.2.2.1-off)=p2 src.2.2.1-off:=az (by omega) (by omega);rw[w1,w2,azK h5];by_cases h6:jc*p2 bits>p2 src.2.2.1-off
  ·simp only[azC h6];exact⟨rfl,rfl⟩
  rw[azK h6,show(jc-((0:Nat):Int)).toNat=jc.toNat by simp];obtain⟨r1,r2⟩:=Xl src ob bits kE wid off jc (decide (ob=3)) d1 (by omega) jc.toNat 0 [] (by grind) (by simp;omega);rw[r1,r2,azC (show jc≤1099511627776 by omega)];cases decide (ob=1)<;>cases decide (bits≥src.2.2.1)<;>exact⟨rfl,rfl⟩
 grind
theorem akC:∀a,(fun _=>true) a=true→GQ a=true:=fun⟨src,ob,bits,kE,wid,off,jc⟩ _=>(DU src ob bits kE wid off jc).2
theorem akD:∀a,(fun _=>true) a=true→Hb a=j9 a:=fun⟨src,ob,bits,kE,wid,off,jc⟩ _=>(DU src ob bits kE wid off jc).1
noncomputable def adf:dn:=⟨104,[.g aev,.c zI,.c zI,.c zI,.c zI,.c zI,.c zI],[.o 52 7 aev,.v zI],fun _=>true,j9⟩
theorem Vx:zO adf:=fl OU Aa [.tmp 14,.tmp 15] mixed (ah tE (ah EY (ah E0 (aC)))) Tryz.func104 (bp S3 akC akD)
def jm(n:cu):aj:=(n.1,n.2.1,n.2.2.1)
def aZ(n:cu):List aj:=n.2.2.2.1
def MZ(n:cu):bP:=n.2.2.2.2
def TD(i:aj)(p:List aj)(c:bP):cu:=(i.1,i.2.1,i.2.2,p,c)
theorem jx{α:Type}{l r:List α}{u:α}{k:Nat}(h:l.drop k=u::r):l.take (k+1)=l.take k++[u]:=by
 grind
def AO{α:Type}[DecidableEq α]:List α→List α→Bool
 | _,[]=>true
 | pre,u::r=>!cJ u pre&&AO (pre++[u]) r
theorem wC{α:Type}[DecidableEq α]:∀(r pre:List α),pre.Nodup→(AO pre r=true↔(pre++r).Nodup)
 | [],pre,h=>by simp[AO,h]
 | u::r,pre,h=>by
  simp only[AO,azF,aAi,Br];constructor
  ·rintro⟨h1,h2⟩
   have h3:(pre++[u]).Nodup:=by
    grind
   have:=(wC r (pre++[u]) h3).1 h2;grind
  ·intro h1
   have h2:((pre++[u])++r).Nodup:=by grind
   have h3:=(aCg.1 h2).1;refine⟨fun h4=>?_,(wC r (pre++[u]) h3).2 h2⟩;grind
def gG(n:cu):Bool:=fX (jm n)&&(cQ (MZ n)&&(decide ((aZ n).length≤8)&&((aZ n).all fX&&(AO [] (aZ n)&&!cJ (jm n) (aZ n)))))
theorem len8(n:Nat):decide ((n:Int)>8) = !decide (n≤8):=by grind
noncomputable def Hu:cX:=zC [OG,AB,wg] (dE [(6,([(0,[]),(1,[]),(2,[]),(3,[]),(4,[]),(5,[]),(6,[]),(7,[]),(8,[]),(9,[]),(10,[]),(11,[]),(12,[]),(13,[]),(14,[]),(15,[]),(16,[]),(17,[]),(18,[])],[(34,52)]))]) 53
def vD:Nat→LD:=eO [(0,⟨[.box 1 1 54 11 gA,.c 3 (zI)],[],0⟩)]
noncomputable def QY(f:Nat)(a:cu):Option Bool:=aG Hu vD (zK [.tmp 2] [.v .bool]) f [.code (aB Tryz.f47)] (aQ [.g gA] a)
noncomputable def rF(f:Nat)(x:cu×Int):Option Bool:=aG Hu vD (zK [.tmp 2] [.v .bool]) f (aV Tryz.f47 0) ((vD 0).mk' x)
theorem Oa(f:Nat)(n:cu):QY (f+1) n =
  bif !fX (n.1,n.2.1,n.2.2.1)then some false else bif !cQ n.2.2.2.2 then some false else bif decide ((↑(List.length n.2.2.2.1):Int)>8)then some false else bif af n.2.2.2.1 then bif cJ (n.1,n.2.1,n.2.2.1) n.2.2.2.1 then some false else rF f (n,0)else none:=by kernel_rfl
theorem vM(f:Nat)(n:cu)(i:Int):rF (f+1) (n,i) =
  bif decide (i<(↑(List.length n.2.2.2.1):Int))then bif decide (0≤i)&&decide (i<(↑(List.length n.2.2.2.1):Int))then bif !fX (List.getD n.2.2.2.1 i.toNat (0,0,0))then some false else bif decide (0≤i)&&decide (i≤(↑(List.length n.2.2.2.1):Int))then bif decide (0≤i)&&decide (i<(↑(List.length n.2.2.2.1):Int))then bif af (List.take i.toNat n.2.2.2.1)then bif cJ (List.getD n.2.2.2.1 i.toNat (0,0,0)) (List.take i.toNat n.2.2.2.1)then some false else rF f (n,i64.wrap (i+1))else none else none else none else none else some true:=by kernel_rfl
noncomputable def jq:List aj→(cu×Nat)→Bool
 | [],(n,i)=>true
 | uu::rest,(n,i)=>bif !fX uu then false else bif cJ uu (List.take (↑i:Int).toNat n.2.2.2.1)then false else jq rest (n,i+1)
noncomputable def jo:List aj→(cu×Nat)→Bool
 | [],(n,i)=>true
 | uu::rest,(n,i)=>bif !fX uu then true else decide ((↑i:Int)≤(↑(List.length n.2.2.2.1):Int))&&(af (List.take (↑i:Int).toNat n.2.2.2.1)&&bif cJ uu (List.take (↑i:Int).toNat n.2.2.2.1)then true else jo rest (n,i+1))
theorem Fa:∀(rest:List aj) (n:cu) (i:Nat) (hd:n.snd.snd.snd.fst.drop i=rest) (hl:n.snd.snd.snd.fst.length≤1099511627776),de (fun f=>rF f (n,((i:Nat):Int))) (jo rest (n,i)) (jq rest (n,i))
 | [],n,i,hd,hl=>ai (fun f=>(vM f _ _).trans (by simp only[fA (bT hd),fW,azP,azI]<;>rfl)) ae
 | uu::rest,n,i,hd,hl=>ai (fun f=>(vM f _ _).trans (by simp only[cK (ak hd),bC hd,bk (ak hd) hl,fW,azQ,azP,azH]<;>rfl)) (ao ae (aI (aI (ao ae (Fa rest _ _ (aH hd) hl)))))
noncomputable def RM:cu→Bool
 | n=>bif !fX (n.1,n.2.1,n.2.2.1)then false else bif !cQ n.2.2.2.2 then false else bif decide ((↑(List.length n.2.2.2.1):Int)>8)then false else bif cJ (n.1,n.2.1,n.2.2.1) n.2.2.2.1 then false else jq n.2.2.2.1 (n,0)
noncomputable def QN:cu→Bool
 | n=>bif !fX (n.1,n.2.1,n.2.2.1)then true else bif !cQ n.2.2.2.2 then true else bif decide ((↑(List.length n.2.2.2.1):Int)>8)then true else af n.2.2.2.1&&bif cJ (n.1,n.2.1,n.2.2.1) n.2.2.2.1 then true else decide (n.2.2.2.1.length≤1099511627776)&&jo n.2.2.2.1 (n,0)
theorem Mu:∀a:cu,de (fun f=>QY f a) (QN a) (RM a)
 | n=>ai (fun f=>Oa f _) (ao ae (ao ae (ao ae (aI (ao ae (bL fun hh=>Fa _ _ _ rfl (azZ hh)))))))
theorem FB(n:cu)(hl:(aZ n).length≤8):∀(rest:List aj) (k:Nat),(aZ n).drop k=rest→k≤(aZ n).length→jq rest (n,k)=(rest.all fX&&AO ((aZ n).take k) rest)∧jo rest (n,k)=true
 | [],k,h,hk=>⟨rfl,rfl⟩
 | u::r,k,h,hk=>by
  obtain⟨i1,i2⟩:=FB n hl r (k+1) (aH h) (ak h);constructor
  ·show(bif !fX u then false else bif cJ u ((aZ n).take k)then false else jq r (n,k+1))=_
   rw[i1,jx h,aBJ,AO];grind
  ·show(bif !fX u then true else decide ((k:Int)≤(((aZ n).length:Nat):Int))&&(af ((aZ n).take k)&&bif cJ u ((aZ n).take k)then true else jo r (n,k+1)))=true
   rw[i2,show decide ((k:Int)≤(((aZ n).length:Nat):Int))=true from azC (by omega),show af ((aZ n).take k)=true from azC (by grind)];grind
theorem afl:∀a,(fun _=>true) a=true→RM a=gG a:=by
 intro n _;show(bif !fX (jm n)then false else bif !cQ (MZ n)then false else bif decide ((((aZ n).length:Nat):Int)>8)then false else bif cJ (jm n) (aZ n)then false else jq (aZ n) (n,0))=_;rw[len8,gG];cases fX (jm n)<;>cases cQ (MZ n)<;>(try rfl)
 by_cases h:(aZ n).length≤8
 ·rw[azC h,(FB n h (aZ n) 0 rfl (by omega)).1]
  grind
 grind
theorem afk:∀a,(fun _=>true) a=true→QN a=true:=by
 intro n _;show(bif !fX (jm n)then true else bif !cQ (MZ n)then true else bif decide ((((aZ n).length:Nat):Int)>8)then true else af (aZ n)&&bif cJ (jm n) (aZ n)then true else decide ((aZ n).length≤1099511627776)&&jo (aZ n) (n,0))=true;rw[len8];cases fX (jm n)<;>cases cQ (MZ n)<;>(try rfl)
 by_cases h:(aZ n).length≤8
 ·rw[azC h,(FB n h (aZ n) 0 rfl (by omega)).2,show af (aZ n)=true from azC (by omega),show decide ((aZ n).length≤1099511627776)=true from azC (by omega)]
  grind
 grind
noncomputable def RZ:dn:=⟨47,[.g gA],[.v .bool],fun _=>true,gG⟩
theorem OF:zO RZ:=fl Hu vD [.tmp 2] mixed (ah EX (ah tE (ah tF (aC)))) Tryz.func47 (bp Mu afk afl)
noncomputable def Sv:cX:=zC [OR] (dE []) 8
noncomputable def Q8(f:Nat)(a:cu):Option cu:=aG Sv (eO []) (zK [.cell 2 54] [.g gA]) f [.code (aB Tryz.f85)] (aQ [.g gA] a)
theorem Oj(f:Nat)(n:cu):Q8 (f+1) n =
  bif af n.2.2.2.1 then some n else none:=by kernel_rfl
noncomputable def RQ:cu→cu
 | n=>n
noncomputable def QS:cu→Bool
 | n=>af n.2.2.2.1
theorem NR:∀a:cu,de (fun f=>Q8 f a) (QS a) (RQ a)
 | n=>ai (fun f=>Oj f _) (cS ae)
theorem ag9:∀a:cu,af a.2.2.2.1=true→QS a=true:=fun a h=>h
theorem aha:∀a:cu,af a.2.2.2.1=true→RQ a=a:=fun a h=>rfl
noncomputable def ni:dn:=⟨85,[.g gA],[.g gA],fun a:cu=>af a.2.2.2.1,fun a:cu=>a⟩
theorem gR:zO ni:=fl Sv (eO []) [.cell 2 54] mixed (ah E7 (aC)) Tryz.func85 (bp NR ag9 aha)
theorem PO(a b:cu):(bif a.1 == b.1&&(a.2.1 == b.2.1&&(a.2.2.1 == b.2.2.1&&true))then bif a.2.2.2.2.1 == b.2.2.2.2.1&&(a.2.2.2.2.2.1 == b.2.2.2.2.2.1&&(a.2.2.2.2.2.2.1 == b.2.2.2.2.2.2.1&&(a.2.2.2.2.2.2.2.1 == b.2.2.2.2.2.2.2.1&&(a.2.2.2.2.2.2.2.2.1 == b.2.2.2.2.2.2.2.2.1&&(a.2.2.2.2.2.2.2.2.2.1 == b.2.2.2.2.2.2.2.2.2.1&&(a.2.2.2.2.2.2.2.2.2.2 == b.2.2.2.2.2.2.2.2.2.2&&true))))))then decide (a.2.2.2.1=b.2.2.2.1)else false else false)=decide (a=b):=by
 grind
noncomputable def Sg:cX:=zC [adb] (dE []) 24
noncomputable def QV(f:Nat)(a:cu×cu):Option Bool:=aG Sg (eO []) (zK [.tmp 4] [.v .bool]) f [.code (aB Tryz.f21)] (aQ [.g gA,.g gA] a)
theorem N7(f:Nat)(a b:cu):QV (f+1) (a,b) =
  bif a.1 == b.1&&(a.2.1 == b.2.1&&(a.2.2.1 == b.2.2.1&&true))then bif a.2.2.2.2.1 == b.2.2.2.2.1&&(a.2.2.2.2.2.1 == b.2.2.2.2.2.1&&(a.2.2.2.2.2.2.1 == b.2.2.2.2.2.2.1&&(a.2.2.2.2.2.2.2.1 == b.2.2.2.2.2.2.2.1&&(a.2.2.2.2.2.2.2.2.1 == b.2.2.2.2.2.2.2.2.1&&(a.2.2.2.2.2.2.2.2.2.1 == b.2.2.2.2.2.2.2.2.2.1&&(a.2.2.2.2.2.2.2.2.2.2 == b.2.2.2.2.2.2.2.2.2.2&&true))))))then bif af a.2.2.2.1 then some (decide (a.2.2.2.1=b.2.2.2.1))else none else some false else some false:=by kernel_rfl
noncomputable def RL:(cu×cu)→Bool
 | (a,b)=>bif a.1 == b.1&&(a.2.1 == b.2.1&&(a.2.2.1 == b.2.2.1&&true))then bif a.2.2.2.2.1 == b.2.2.2.2.1&&(a.2.2.2.2.2.1 == b.2.2.2.2.2.1&&(a.2.2.2.2.2.2.1 == b.2.2.2.2.2.2.1&&(a.2.2.2.2.2.2.2.1 == b.2.2.2.2.2.2.2.1&&(a.2.2.2.2.2.2.2.2.1 == b.2.2.2.2.2.2.2.2.1&&(a.2.2.2.2.2.2.2.2.2.1 == b.2.2.2.2.2.2.2.2.2.1&&(a.2.2.2.2.2.2.2.2.2.2 == b.2.2.2.2.2.2.2.2.2.2&&true))))))then decide (a.2.2.2.1=b.2.2.2.1)else false else false
noncomputable def GO:(cu×cu)→Bool
 | (a,b)=>bif a.1 == b.1&&(a.2.1 == b.2.1&&(a.2.2.1 == b.2.2.1&&true))then bif a.2.2.2.2.1 == b.2.2.2.2.1&&(a.2.2.2.2.2.1 == b.2.2.2.2.2.1&&(a.2.2.2.2.2.2.1 == b.2.2.2.2.2.2.1&&(a.2.2.2.2.2.2.2.1 == b.2.2.2.2.2.2.2.1&&(a.2.2.2.2.2.2.2.2.1 == b.2.2.2.2.2.2.2.2.1&&(a.2.2.2.2.2.2.2.2.2.1 == b.2.2.2.2.2.2.2.2.2.1&&(a.2.2.2.2.2.2.2.2.2.2 == b.2.2.2.2.2.2.2.2.2.2&&true))))))then af a.2.2.2.1 else true else true
theorem Mr:∀a:cu×cu,de (fun f=>QV f a) (GO a) (RL a)
 | (a,b)=>ai (fun f=>N7 f _ _) (ao (ao (cS ae) ae) ae)
theorem afe:∀a:cu×cu,af a.1.2.2.2.1=true→GO a=true:=fun a h=>by
 simp only[GO];grind
theorem aff:∀a:cu×cu,af a.1.2.2.2.1=true→RL a=decide (a.1=a.2):=fun a h=>PO a.1 a.2
noncomputable def Hm:dn:=⟨21,[.g gA,.g gA],[.v .bool],fun a:cu×cu=>af a.1.2.2.2.1,fun a:cu×cu=>decide (a.1=a.2)⟩
theorem OC:zO Hm:=fl Sg (eO []) [.tmp 4] mixed (ah Vv (aC)) Tryz.func21 (bp Mr afe aff)
noncomputable def aec:cX:=zC [ajH] (dE []) 8
noncomputable def abN(f:Nat)(a:cu):Option cu:=aG aec (eO []) (zK [.cell 2 54] [.g gA]) f [.code (aB Tryz.f94)] (aQ [.g gA] a)
theorem U5(f:Nat)(n:cu):abN (f+1) n =
  bif af n.2.2.2.1 then some n else none:=by kernel_rfl
noncomputable def acL:cu→cu
 | n=>n
noncomputable def aa0:cu→Bool
 | n=>af n.2.2.2.1
theorem Tz:∀a:cu,de (fun f=>abN f a) (aa0 a) (acL a)
 | n=>ai (fun f=>U5 f _) (cS ae)
theorem ald:∀a:cu,af a.2.2.2.1=true→aa0 a=true:=fun a h=>h
theorem ale:∀a:cu,af a.2.2.2.1=true→acL a=a:=fun a h=>rfl
noncomputable def CY:dn:=⟨94,[.g gA],[.g gA],fun a:cu=>af a.2.2.2.1,fun a:cu=>a⟩
theorem xA:zO CY:=fl aec (eO []) [.cell 2 54] mixed (ah LN (aC)) Tryz.func94 (bp Tz ald ale)
def zNd:cu:=zq0
def rY(a:cu×aj×bP):cu×Int:=
 bif !gG a.1 || (!fX a.2.1 || (!cQ a.2.2 || (decide (a.2.1=jm a.1) || cJ a.2.1 (aZ a.1))))then(zNd,1)
 else bif decide ((aZ a.1).length=8)then(zNd,9)else(TD a.2.1 (aZ a.1++[jm a.1]) a.2.2,0)
noncomputable def ad8:cX:=zC [RZ,OG,AB,wg,OR] (dE [(5,([(0,[]),(1,[]),(2,[]),(4,[]),(5,[]),(6,[]),(8,[]),(3,[]),(7,[]),(9,[]),(10,[]),(11,[])],[(7,7),(39,48)]))]) 49
noncomputable def abI(f:Nat)(a:cu×aj×bP):Option (cu×Int):=aG ad8 (eO []) (zK [.cell 6 54,.tmp 7] [.g gA,.v zI]) f [.code (aB Tryz.f105)] (aQ [.g gA,.g aE,.g aev] a)
theorem U3(f:Nat)(src:cu)(id:aj)(c:bP):abI (f+1) (src,id,c) =
  bif !gG src then some (zq0,1)else bif !fX id then some (zq0,1)else bif !cQ c then some (zq0,1)else bif id.1 == src.1&&(id.2.1 == src.2.1&&(id.2.2 == src.2.2.1&&true))then some (zq0,1)else bif af src.2.2.2.1 then bif cJ id src.2.2.2.1 then some (zq0,1)else bif(↑(List.length src.2.2.2.1):Int) == 8 then some (zq0,9)else bif af src.2.2.2.1 then bif decide ((List.length src.2.2.2.1+1)*24≤140737488355328)then some ((id.1,id.2.1,id.2.2,src.2.2.2.1++[(src.1,src.2.1,src.2.2.1)],c),0)else none else none else none:=by kernel_rfl
noncomputable def Hd:(cu×aj×bP)→cu×Int
 | (src,id,c)=>bif !gG src then(zq0,1)else bif !fX id then(zq0,1)else bif !cQ c then(zq0,1)else bif id.1 == src.1&&(id.2.1 == src.2.1&&(id.2.2 == src.2.2.1&&true))then(zq0,1)else bif cJ id src.2.2.2.1 then(zq0,1)else bif(↑(List.length src.2.2.2.1):Int) == 8 then(zq0,9)else((id.1,id.2.1,id.2.2,src.2.2.2.1++[(src.1,src.2.1,src.2.2.1)],c),0)
noncomputable def GS:(cu×aj×bP)→Bool
 | (src,id,c)=>bif !gG src then true else bif !fX id then true else bif !cQ c then true else bif id.1 == src.1&&(id.2.1 == src.2.1&&(id.2.2 == src.2.2.1&&true))then true else af src.2.2.2.1&&bif cJ id src.2.2.2.1 then true else bif(↑(List.length src.2.2.2.1):Int) == 8 then true else af src.2.2.2.1&&decide ((List.length src.2.2.2.1+1)*24≤140737488355328)
theorem Tl:∀a:cu×aj×bP,de (fun f=>abI f a) (GS a) (Hd a)
 | (src,id,c)=>ai (fun f=>U3 f _ _ _) (ao ae (ao ae (ao ae (ao ae (aI (ao ae (ao ae (aI (cS ae)))))))))
theorem aps(n:Nat):(((n:Nat):Int) == 8)=decide (n=8):=by
 grind
theorem wB{n:cu}(h:gG n=true):(aZ n).length≤8:=by
 simp only[gG,azF,azM]at h;grind
theorem D4(a:cu×aj×bP):Hd a=rY a∧GS a=true:=by
 obtain⟨src,id,c⟩:=a;have e:(id.1 == src.1&&(id.2.1 == src.2.1&&(id.2.2 == src.2.2.1&&true)))=decide (id=jm src):=id_eq id (jm src);simp only[Hd,GS,rY,e,aps];cases hv:gG src
 ·exact⟨rfl,rfl⟩
 have hl:=wB hv;have h1:af src.2.2.2.1=true:=azC (by grind[aZ]);have h2:decide ((List.length src.2.2.2.1+[(src.1,src.2.1,src.2.2.1)].length)*24≤140737488355328)=true:=azC (by grind[aZ]);have h3:decide ((List.length src.2.2.2.1+1)*24≤140737488355328)=true:=h2
 first | rw[h1,h2] | rw[h1,h3]
 cases fX id<;>cases cQ c<;>cases decide (id=jm src)<;>(try exact⟨rfl,rfl⟩)
 show(bif cJ id (aZ src)then _ else _)=_∧_;cases hm:cJ id (aZ src)
 ·have:cJ id src.2.2.2.1=false:=hm
  rw[this];show(bif decide ((aZ src).length=8)then(zNd,9)else _)=_∧_;cases hd:decide ((aZ src).length=8)
  ·have:decide (List.length src.2.2.2.1=8)=false:=hd
   rw[this];exact⟨rfl,rfl⟩
  grind
 ·have:cJ id src.2.2.2.1=true:=hm
  rw[this];exact⟨rfl,rfl⟩
noncomputable def ado:dn:=⟨105,[.g gA,.g aE,.g aev],[.g gA,.v zI],fun _=>true,rY⟩
theorem VE:zO ado:=fl ad8 (eO []) [.cell 6 54,.tmp 7] mixed (ah OF (ah EX (ah tE (ah tF (ah E7 (aC)))))) Tryz.func105 (bp Tl (fun a _=>(D4 a).2) (fun a _=>(D4 a).1))
