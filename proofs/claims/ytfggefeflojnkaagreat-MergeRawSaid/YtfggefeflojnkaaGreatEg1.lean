/- By an AI agent. -/
import Derived.Test.YtfggefeflojnkaaGreatEg0
set_option linter.unusedSimpArgs false
set_option linter.unusedVariables false
namespace Go.AL
open Go.Proofs
abbrev aH:List Ty:=[.int .i64,.int .i64,.int .i64]
abbrev al:=Int×Int×Int
abbrev To:List Ty:=[.int .i64,.int .i64,.int .i64,.int .i64,.int .i64,.int .i64,.bool]
abbrev oF:=Int×Int×Int×Int×Int×Int×Bool
abbrev kH:List Ty:=[.int .i64,.int .i64,.int .i64,.sl [.int .i64,.int .i64,.int .i64],.int .i64,.int .i64,.int .i64,.int .i64,.int .i64,.int .i64,.bool]
abbrev dX:=Int×Int×Int×(List (Int×Int×Int))×Int×Int×Int×Int×Int×Int×Bool
theorem id_eq(a b:al):(a.1 == b.1&&(a.2.1 == b.2.1&&(a.2.2 == b.2.2&&true)))=decide (a=b):=by
 obtain⟨a1,a2,a3⟩:=a;obtain⟨b1,b2,b3⟩:=b;by_cases h:((a1,a2,a3):al)=(b1,b2,b3)
 ·cases h;simp
 ·rw[aCz h]
  cases e:(a1 == b1&&(a2 == b2&&(a3 == b3&&true)))with
  | false=>rfl
  | true=>
   simp only[aCT,aCs,aDI]at e;obtain⟨rfl,rfl,rfl⟩:=e;exact absurd rfl h
def dY(id:al):Bool:=decide (0≤id.1)&&(decide (id.1<32)&&(decide (1≤id.2.1)&&(decide (id.2.1≤1073741824)&&(decide (0≤id.2.2)&&decide (id.2.2<8)))))
theorem zr{a b:Bool}:(bif a then b else false)=(a&&b):=by cases a<;>rfl
instance atM:DecidableEq oF:=@instDecidableEqProd Int _ _ (@instDecidableEqProd Int _ _ (@instDecidableEqProd Int _ _ inferInstance))
def cT{α:Type}[DecidableEq α](v:α)(l:List α):Bool:=decide (v∈l)
theorem wZ{α:Type}[DecidableEq α](v u:α)(l:List α):cT v (u::l)=(decide (u=v) || cT v l):=by
 by_cases h:u=v
 ·subst h;simp[cT]
 ·have h2:¬ v=u:=fun e=>h e.symm
  simp[cT,h,h2]
instance ayB:DecidableEq dX:=@instDecidableEqProd Int _ _ (@instDecidableEqProd Int _ _ (@instDecidableEqProd Int _ _ (@instDecidableEqProd (List al) oF _ atM)))
noncomputable def afK:cR:=⟨Tryz.prog,[],dn [],31,[],[],[],[]⟩
theorem aiZ:bp Tryz.prog [] [] []:=aD
def Sd:Nat→LD:=ej []
noncomputable def adu(f:Nat)(a:al):Option (Bool):=(aG (afK) Sd (aQ Tryz.prog [.tmp 2] [.v (.bool)]) f [.code (aC Tryz.f78)] (aV [.g aH] a):Option (aA [.v (.bool)]))
theorem VP(f:Nat)(id:al):adu (f+1) id =
  bif decide (id.1≥0)then bif decide (id.1<32)then bif decide (id.2.1≥1)then bif decide (id.2.1≤1073741824)then bif decide (id.2.2≥0)then some (decide (id.2.2<8))else some false else some false else some false else some false else some false:=by kernel_rfl
noncomputable def OT:al→Bool
 | id=>bif decide (id.1≥0)then bif decide (id.1<32)then bif decide (id.2.1≥1)then bif decide (id.2.1≤1073741824)then bif decide (id.2.2≥0)then decide (id.2.2<8)else false else false else false else false else false
noncomputable def acA:al→Bool
 | id=>true
theorem TP:∀a:al,cj (fun f=>adu f a) (acA a) (OT a)
 | id=>ah (fun f=>VP f _) (aT (aT (aT (aT (aT ae ae) ae) ae) ae) ae)
theorem am3:∀a,(fun _=>true) a=true→acA a=true:=fun _ _=>rfl
theorem am4:∀a,(fun _=>true) a=true→OT a=dY a:=fun a _=>by simp only[OT,dY,zr,ge_iff_le]
abbrev YK:=bm TP am3 am4
noncomputable def nO:db:=⟨78,[.g aH],[.v (.bool)],fun a=>(fun _=>true:al→Bool) a,fun a=>(dY:al→Bool) a⟩
theorem sC:nO.Ok Tryz.prog:=eB (C:=afK) (Lt:=Sd) (rs:=[.tmp 2]) mixed aiZ Tryz.func78 rfl rfl rfl (by kernel_rfl) (by kernel_rfl) YK
noncomputable def amf:cR:=⟨Tryz.prog,[],dn [],6,[],[],[],[]⟩
theorem apv:bp Tryz.prog [] [] []:=aD
def aer:Nat→LD:=ej []
noncomputable def alQ(f:Nat)(a:Int):Option (Bool):=(aG (amf) aer (aQ Tryz.prog [.tmp 2] [.v (.bool)]) f [.code (aC Tryz.f123)] (aV [.c (.int .i64)] a):Option (aA [.v (.bool)]))
theorem adY(f:Nat)(x:Int):alQ (f+1) x =
  some (x != x):=by kernel_rfl
noncomputable def aeQ:Int→Bool
 | x=>x != x
noncomputable def aly:Int→Bool
 | x=>true
theorem Z6:∀a:Int,cj (fun f=>alQ f a) (aly a) (aeQ a)
 | x=>ah (fun f=>adY f _) ae
theorem asi:∀a,(fun _=>true) a=true→aly a=true:=fun _ _=>rfl
theorem asj:∀a,(fun _=>true) a=true→aeQ a=(fun _=>false) a:=fun a _=>by simp[aeQ]
abbrev ahP:=bm Z6 asi asj
noncomputable def afq:db:=⟨123,[.c (.int .i64)],[.v (.bool)],fun a=>(fun _=>true:Int→Bool) a,fun a=>(fun _=>false:Int→Bool) a⟩
theorem afp:afq.Ok Tryz.prog:=eB (C:=amf) (Lt:=aer) (rs:=[.tmp 2]) mixed apv Tryz.func123 rfl rfl rfl (by kernel_rfl) (by kernel_rfl) ahP
noncomputable def age:cR:=⟨Tryz.prog,[afq],dn [],20,[],[],[],[]⟩
theorem ajz:bp Tryz.prog [afq] [] []:=ak afp (aD)
def SB:Nat→LD:=ej []
noncomputable def aej(f:Nat)(a:Int×Int):Option (Int):=(aG (age) SB (aQ Tryz.prog [.tmp 4] [.v (.int .i64)]) f [.code (aC Tryz.f84)] (aV [.c (.int .i64),.c (.int .i64)] a):Option (aA [.v (.int .i64)]))
theorem Wp(f:Nat)(x:Int)(y:Int):aej (f+1) (x,y) =
  bif decide (x<y)then some (-1)else bif decide (x>y)then some 1 else some 0:=by kernel_rfl
noncomputable def aeZ:(Int×Int)→Int
 | (x,y)=>bif decide (x<y)then -1 else bif decide (x>y)then 1 else 0
noncomputable def ac1:(Int×Int)→Bool
 | (x,y)=>true
theorem Ve:∀a:Int×Int,cj (fun f=>aej f a) (ac1 a) (aeZ a)
 | (x,y)=>ah (fun f=>Wp f _ _) (aT ae (aT ae ae))
def tz(a:Int×Int):Int:=bif decide (a.1<a.2)then -1 else bif decide (a.1>a.2)then 1 else 0
theorem apY:∀a,(fun _=>true) a=true→ac1 a=true:=fun _ _=>rfl
theorem apZ:∀a,(fun _=>true) a=true→aeZ a=tz a:=fun _ _=>rfl
abbrev ab4:=bm Ve apY apZ
noncomputable def PH:db:=⟨84,[.c (.int .i64),.c (.int .i64)],[.v (.int .i64)],fun a=>(fun _=>true:Int×Int→Bool) a,fun a=>(tz:Int×Int→Int) a⟩
theorem W8:PH.Ok Tryz.prog:=eB (C:=age) (Lt:=SB) (rs:=[.tmp 4]) mixed ajz Tryz.func84 rfl rfl rfl (by kernel_rfl) (by kernel_rfl) ab4
noncomputable def af9:cR:=⟨Tryz.prog,[],dn [],18,[],[],[],[]⟩
theorem apD:bp Tryz.prog [] [] []:=aD
def GY:Nat→LD:=ej [(0,⟨[.c 3 (.int .i64),.rd 6 [.int .i64],.c 7 (.int .i64),.c 8 (.int .i64)],[],0⟩)]
noncomputable def alY(f:Nat)(a:(List (Int))):Option (Int):=(aG (af9) GY (aQ Tryz.prog [.tmp 2] [.v (.int .i64)]) f [.code (aC Tryz.f83)] (aV [.rd [.int .i64]] a):Option (aA [.v (.int .i64)]))
noncomputable def wh(f:Nat)(x:Int×(List (Int))×Int×Int):Option (Int):=(aG (af9) GY (aQ Tryz.prog [.tmp 2] [.v (.int .i64)]) f (aK Tryz.f83 0) ((GY 0).mk' x):Option (aA [.v (.int .i64)]))
theorem aec(f:Nat)(l:List (Int)):alY (f+1) l =
  wh f (0,l,(↑l.length:Int),0):=by kernel_rfl
theorem Ca(f:Nat)(zero:Int)(x6:List (Int))(x7:Int)(x8:Int):wh (f+1) (zero,x6,x7,x8) =
  bif decide (x8<x7)then bif decide (0≤x8)&&decide (x8<(↑x6.length:Int))then bif x6.getD x8.toNat 0 != zero then some (x6.getD x8.toNat 0)else wh f (zero,x6,x7,IntKind.i64.wrap (x8+1))else none else some zero:=by kernel_rfl
noncomputable def wz:List (Int)→(Int×(List (Int))×Int×Nat)→Int
 | [],(zero,x6,x7,x8)=>zero
 | uu::rest,(zero,x6,x7,x8)=>bif uu != zero then uu else wz rest (zero,x6,x7,x8+1)
noncomputable def vJ:List (Int)→(Int×(List (Int))×Int×Nat)→Bool
 | [],(zero,x6,x7,x8)=>true
 | uu::rest,(zero,x6,x7,x8)=>bif uu != zero then true else vJ rest (zero,x6,x7,x8+1)
theorem Th:∀(rest:List (Int)) (zero:Int) (x6:List (Int)) (x7:Int) (x8:Nat) (hd:x6.drop x8=rest) (hn:x7=((x6.length:Nat):Int)) (hl:x6.length≤1099511627776),cj (fun f=>wh f (zero,x6,x7,((x8:Nat):Int))) (vJ rest (zero,x6,x7,x8)) (wz rest (zero,x6,x7,x8))
 | [],zero,x6,x7,x8,hd,hn,hl=>ah (fun f=>(Ca f _ _ _ _).trans (by simp only[iR hn (aY hd),cB,aCw,aCu,aCn,aCq,aCx]<;>rfl)) ae
 | uu::rest,zero,x6,x7,x8,hd,hn,hl=>ah (fun f=>(Ca f _ _ _ _).trans (by simp only[iO hn (ag hd),bl (ag hd),aI hd,aM (ag hd) hl,aR (ag hd),cB,aCw,aCu,aCn,aCq,aCx]<;>rfl)) (aw ae (Th rest _ _ _ _ (by first | exact aq hd | exact drop_set hd | exact au (drop_set hd)) (by first | exact hn | simpa using hn) (by first | exact hl | simpa using hl)))
noncomputable def aeV:(List (Int))→Int
 | l=>wz l (0,l,(↑l.length:Int),0)
noncomputable def acX:(List (Int))→Bool
 | l=>decide (l.length≤1099511627776)&&vJ l (0,l,(↑l.length:Int),0)
theorem abS:∀a:(List (Int)),cj (fun f=>alY f a) (acX a) (aeV a)
 | l=>ah (fun f=>aec f _) (bC fun hh=>Th _ _ _ _ _ rfl (by first | rfl | simp) (aCE hh))
def orI:List Int→Int
 | []=>0
 | u::r=>bif u != 0 then u else orI r
theorem abT:∀(rest l:List Int) (n:Int) (k:Nat),vJ rest (0,l,n,k)=true
 | [],l,n,k=>rfl
 | u::r,l,n,k=>by simp only[vJ];rw[abT r];cases (u != 0)<;>rfl
theorem abU:∀(rest l:List Int) (n:Int) (k:Nat),wz rest (0,l,n,k)=orI rest
 | [],l,n,k=>rfl
 | u::r,l,n,k=>by simp only[wz,orI];rw[abU r]
theorem atQ:∀a,af a=true→acX a=true:=fun a h=>by simp only[acX,abT,aCT];exact h
theorem atT:∀a,af a=true→aeV a=orI a:=fun a h=>by simp only[aeV,abU]
abbrev ajO:=bm abS atQ atT
noncomputable def afA:db:=⟨83,[.rd [.int .i64]],[.v (.int .i64)],fun a=>(af:(List (Int))→Bool) a,fun a=>(orI:(List (Int))→Int) a⟩
theorem afz:afA.Ok Tryz.prog:=eB (C:=af9) (Lt:=GY) (rs:=[.tmp 2]) mixed apD Tryz.func83 rfl rfl rfl (by kernel_rfl) (by kernel_rfl) ajO
noncomputable def af2:cR:=⟨Tryz.prog,[PH,afA],dn [(1,([(0,[]),(1,[]),(2,[]),(3,[]),(5,[]),(6,[]),(7,[]),(8,[]),(10,[]),(11,[]),(12,[]),(13,[]),(4,[]),(9,[]),(14,[]),(15,[]),(16,[]),(17,[])],[(4,21)]))],22,[],[],[],[]⟩
theorem ajl:bp Tryz.prog [PH,afA] [] []:=ak W8 (ak afz (aD))
def Ss:Nat→LD:=ej []
noncomputable def adX(f:Nat)(a:al×al):Option (Int):=(aG (af2) Ss (aQ Tryz.prog [.tmp 4] [.v (.int .i64)]) f [.code (aC Tryz.f49)] (aV [.g aH,.g aH] a):Option (aA [.v (.int .i64)]))
theorem Wb(f:Nat)(a:al)(b:al):adX (f+1) (a,b) =
  some (orI [tz (a.1,b.1),tz (a.2.1,b.2.1),tz (a.2.2,b.2.2)]):=by kernel_rfl
noncomputable def aeP:(al×al)→Int
 | (a,b)=>orI [tz (a.1,b.1),tz (a.2.1,b.2.1),tz (a.2.2,b.2.2)]
noncomputable def acR:(al×al)→Bool
 | (a,b)=>true
theorem Uq:∀a:al×al,cj (fun f=>adX f a) (acR a) (aeP a)
 | (a,b)=>ah (fun f=>Wb f _ _) ae
def xX(a:al×al):Int:=bif tz (a.1.1,a.2.1) != 0 then tz (a.1.1,a.2.1)else bif tz (a.1.2.1,a.2.2.1) != 0 then tz (a.1.2.1,a.2.2.1)else bif tz (a.1.2.2,a.2.2.2) != 0 then tz (a.1.2.2,a.2.2.2)else 0
theorem an1:∀a,(fun _=>true) a=true→acR a=true:=fun _ _=>rfl
theorem an2:∀a,(fun _=>true) a=true→aeP a=xX a:=fun _ _=>rfl
abbrev Z5:=bm Uq an1 an2
noncomputable def Cn:db:=⟨49,[.g aH,.g aH],[.v (.int .i64)],fun a=>(fun _=>true:al×al→Bool) a,fun a=>(xX:al×al→Int) a⟩
theorem ED:Cn.Ok Tryz.prog:=eB (C:=af2) (Lt:=Ss) (rs:=[.tmp 4]) mixed ajl Tryz.func49 rfl rfl rfl (by kernel_rfl) (by kernel_rfl) Z5
noncomputable def af3:cR:=⟨Tryz.prog,[],dn [],30,[],[],[],[]⟩
theorem ajm:bp Tryz.prog [] [] []:=aD
def Su:Nat→LD:=ej []
noncomputable def adZ(f:Nat)(a:al×al):Option (Bool):=(aG (af3) Su (aQ Tryz.prog [.tmp 4] [.v (.bool)]) f [.code (aC Tryz.f24)] (aV [.g aH,.g aH] a):Option (aA [.v (.bool)]))
theorem Wc(f:Nat)(a:al)(b:al):adZ (f+1) (a,b) =
  bif a.1 != b.1 then some (decide (a.1<b.1))else bif a.2.1 != b.2.1 then some (decide (a.2.1<b.2.1))else some (decide (a.2.2<b.2.2)):=by kernel_rfl
noncomputable def aeR:(al×al)→Bool
 | (a,b)=>bif a.1 != b.1 then decide (a.1<b.1)else bif a.2.1 != b.2.1 then decide (a.2.1<b.2.1)else decide (a.2.2<b.2.2)
noncomputable def acS:(al×al)→Bool
 | (a,b)=>true
theorem Uu:∀a:al×al,cj (fun f=>adZ f a) (acS a) (aeR a)
 | (a,b)=>ah (fun f=>Wc f _ _) (aT ae (aT ae ae))
def cf(a:al×al):Bool:=bif a.1.1 != a.2.1 then decide (a.1.1<a.2.1)else bif a.1.2.1 != a.2.2.1 then decide (a.1.2.1<a.2.2.1)else decide (a.1.2.2<a.2.2.2)
theorem an8:∀a,(fun _=>true) a=true→acS a=true:=fun _ _=>rfl
theorem an9:∀a,(fun _=>true) a=true→aeR a=cf a:=fun _ _=>rfl
abbrev aaj:=bm Uu an8 an9
noncomputable def nP:db:=⟨24,[.g aH,.g aH],[.v (.bool)],fun a=>(fun _=>true:al×al→Bool) a,fun a=>(cf:al×al→Bool) a⟩
theorem sD:nP.Ok Tryz.prog:=eB (C:=af3) (Lt:=Su) (rs:=[.tmp 4]) mixed ajm Tryz.func24 rfl rfl rfl (by kernel_rfl) (by kernel_rfl) aaj
theorem ajX(u v:Int):(v == u)=decide (u=v):=by
 by_cases h:u=v
 ·subst h;simp
 ·rw[aCz h];exact beq_eq_false_iff_ne.2 (fun e=>h e.symm)
def mT{α:Type}[DecidableEq α]:List α→α→Int→Int
 | [],_,_=>-1
 | u::r,v,k=>bif decide (u=v)then k else mT r v (k+1)
theorem Fy{α:Type}[DecidableEq α](v:α):∀(l:List α) (k:Int),0≤k→decide (mT l v k≥0)=cT v l
 | [],k,h=>by simp[mT,cT]
 | u::r,k,h=>by
  rw[wZ];by_cases e:u=v
  ·subst e;simp[mT,h]
  ·have h1:mT (u::r) v k=mT r v (k+1):=by simp[mT,e]
   rw[h1,Fy v r (k+1) (by omega),aCz e];rfl
noncomputable def PN:cR:=⟨Tryz.prog,[],dn [(4,([(0,[]),(1,[]),(2,[]),(3,[]),(4,[]),(5,[])],[(11,16)]))],19,[],[],[],[]⟩
theorem aiU:bp Tryz.prog [] [] []:=aD
def zy:Nat→LD:=ej [(0,⟨[.rd 0 aH,.box 3 3 48 3 aH,.c 7 (.int .i64),.c 8 (.int .i64)],[],0⟩)]
noncomputable def adp(f:Nat)(a:(List (al))×al):Option (Int):=(aG (PN) zy (aQ Tryz.prog [.tmp 4] [.v (.int .i64)]) f [.code (aC Tryz.f144)] (aV [.rd aH,.g aH] a):Option (aA [.v (.int .i64)]))
noncomputable def qR(f:Nat)(x:(List (al))×al×Int×Int):Option (Int):=(aG (PN) zy (aQ Tryz.prog [.tmp 4] [.v (.int .i64)]) f (aK Tryz.f144 0) ((zy 0).mk' x):Option (aA [.v (.int .i64)]))
theorem VK(f:Nat)(s:List (al))(v:al):adp (f+1) (s,v) =
  qR f (s,v,(↑s.length:Int),0):=by kernel_rfl
theorem yn(f:Nat)(s:List (al))(v:al)(x7:Int)(x8:Int):qR (f+1) (s,v,x7,x8) =
  bif decide (x8<x7)then bif decide (0≤x8)&&decide (x8<(↑s.length:Int))then bif v.1 == (s.getD x8.toNat (0,0,0)).1&&(v.2.1 == (s.getD x8.toNat (0,0,0)).2.1&&(v.2.2 == (s.getD x8.toNat (0,0,0)).2.2&&true))then some x8 else qR f (s,v,x7,IntKind.i64.wrap (x8+1))else none else some (-1):=by kernel_rfl
noncomputable def rB:List (al)→((List (al))×al×Int×Nat)→Int
 | [],(s,v,x7,x8)=>-1
 | uu::rest,(s,v,x7,x8)=>bif v.1 == uu.1&&(v.2.1 == uu.2.1&&(v.2.2 == uu.2.2&&true))then(↑x8:Int)else rB rest (s,v,x7,x8+1)
noncomputable def qx:List (al)→((List (al))×al×Int×Nat)→Bool
 | [],(s,v,x7,x8)=>true
 | uu::rest,(s,v,x7,x8)=>bif v.1 == uu.1&&(v.2.1 == uu.2.1&&(v.2.2 == uu.2.2&&true))then true else qx rest (s,v,x7,x8+1)
theorem Me:∀(rest:List (al)) (s:List (al)) (v:al) (x7:Int) (x8:Nat) (hd:s.drop x8=rest) (hn:x7=((s.length:Nat):Int)) (hl:s.length≤1099511627776),cj (fun f=>qR f (s,v,x7,((x8:Nat):Int))) (qx rest (s,v,x7,x8)) (rB rest (s,v,x7,x8))
 | [],s,v,x7,x8,hd,hn,hl=>ah (fun f=>(yn f _ _ _ _).trans (by simp only[iR hn (aY hd),cB,aCw,aCu,aCn,aCq,aCx]<;>rfl)) ae
 | uu::rest,s,v,x7,x8,hd,hn,hl=>ah (fun f=>(yn f _ _ _ _).trans (by simp only[iO hn (ag hd),bl (ag hd),aI hd,aM (ag hd) hl,aR (ag hd),cB,aCw,aCu,aCn,aCq,aCx]<;>rfl)) (aw ae (Me rest _ _ _ _ (by first | exact aq hd | exact drop_set hd | exact au (drop_set hd)) (by first | exact hn | simpa using hn) (by first | exact hl | simpa using hl)))
noncomputable def OQ:((List (al))×al)→Int
 | (s,v)=>rB s (s,v,(↑s.length:Int),0)
noncomputable def Oj:((List (al))×al)→Bool
 | (s,v)=>decide (s.length≤1099511627776)&&qx s (s,v,(↑s.length:Int),0)
theorem TG:∀a:(List (al))×al,cj (fun f=>adp f a) (Oj a) (OQ a)
 | (s,v)=>ah (fun f=>VK f _ _) (bC fun hh=>Me _ _ _ _ _ rfl (by first | rfl | simp) (aCE hh))
theorem Qr(v:al):∀(rest l:List al) (n:Int) (k:Nat),qx rest (l,v,n,k)=true
 | [],l,n,k=>rfl
 | u::r,l,n,k=>by simp only[qx];rw[Qr v r];simp
theorem Qs(v:al):∀(rest l:List al) (n:Int) (k:Nat),rB rest (l,v,n,k)=mT rest v k
 | [],l,n,k=>rfl
 | u::r,l,n,k=>by
  simp only[rB,mT,id_eq];rw[Qs v r];rw[show decide (v=u)=decide (u=v)from aEc.2 eq_comm];rfl
theorem amQ:∀a:List al×al,af a.1=true→Oj a=true:=fun a h=>by simp only[Oj,Qr,aCT];exact h
theorem amR:∀a:List al×al,af a.1=true→OQ a=mT a.1 a.2 0:=fun a h=>by simp only[OQ,Qs];rfl
abbrev Yw:=bm TG amQ amR
noncomputable def Pe:db:=⟨144,[.rd aH,.g aH],[.v (.int .i64)],fun a=>(fun a=>af a.1:(List (al))×al→Bool) a,fun a=>(fun a=>mT a.1 a.2 0:(List (al))×al→Int) a⟩
theorem WC:Pe.Ok Tryz.prog:=eB (C:=PN) (Lt:=zy) (rs:=[.tmp 4]) mixed aiU Tryz.func144 rfl rfl rfl (by kernel_rfl) (by kernel_rfl) Yw
noncomputable def PX:cR:=⟨Tryz.prog,[],dn [],19,[],[],[],[]⟩
theorem ajn:bp Tryz.prog [] [] []:=aD
def zK:Nat→LD:=ej [(0,⟨[.rd 0 [.int .i64],.c 1 (.int .i64),.c 7 (.int .i64),.c 8 (.int .i64)],[],0⟩)]
noncomputable def ad0(f:Nat)(a:(List (Int))×Int):Option (Int):=(aG (PX) zK (aQ Tryz.prog [.tmp 4] [.v (.int .i64)]) f [.code (aC Tryz.f145)] (aV [.rd [.int .i64],.c (.int .i64)] a):Option (aA [.v (.int .i64)]))
noncomputable def rj(f:Nat)(x:(List (Int))×Int×Int×Int):Option (Int):=(aG (PX) zK (aQ Tryz.prog [.tmp 4] [.v (.int .i64)]) f (aK Tryz.f145 0) ((zK 0).mk' x):Option (aA [.v (.int .i64)]))
theorem Wd(f:Nat)(s:List (Int))(v:Int):ad0 (f+1) (s,v) =
  rj f (s,v,(↑s.length:Int),0):=by kernel_rfl
theorem yF(f:Nat)(s:List (Int))(v:Int)(x7:Int)(x8:Int):rj (f+1) (s,v,x7,x8) =
  bif decide (x8<x7)then bif decide (0≤x8)&&decide (x8<(↑s.length:Int))then bif v == s.getD x8.toNat 0 then some x8 else rj f (s,v,x7,IntKind.i64.wrap (x8+1))else none else some (-1):=by kernel_rfl
noncomputable def rD:List (Int)→((List (Int))×Int×Int×Nat)→Int
 | [],(s,v,x7,x8)=>-1
 | uu::rest,(s,v,x7,x8)=>bif v == uu then(↑x8:Int)else rD rest (s,v,x7,x8+1)
noncomputable def qA:List (Int)→((List (Int))×Int×Int×Nat)→Bool
 | [],(s,v,x7,x8)=>true
 | uu::rest,(s,v,x7,x8)=>bif v == uu then true else qA rest (s,v,x7,x8+1)
theorem Mm:∀(rest:List (Int)) (s:List (Int)) (v:Int) (x7:Int) (x8:Nat) (hd:s.drop x8=rest) (hn:x7=((s.length:Nat):Int)) (hl:s.length≤1099511627776),cj (fun f=>rj f (s,v,x7,((x8:Nat):Int))) (qA rest (s,v,x7,x8)) (rD rest (s,v,x7,x8))
 | [],s,v,x7,x8,hd,hn,hl=>ah (fun f=>(yF f _ _ _ _).trans (by simp only[iR hn (aY hd),cB,aCw,aCu,aCn,aCq,aCx]<;>rfl)) ae
 | uu::rest,s,v,x7,x8,hd,hn,hl=>ah (fun f=>(yF f _ _ _ _).trans (by simp only[iO hn (ag hd),bl (ag hd),aI hd,aM (ag hd) hl,aR (ag hd),cB,aCw,aCu,aCn,aCq,aCx]<;>rfl)) (aw ae (Mm rest _ _ _ _ (by first | exact aq hd | exact drop_set hd | exact au (drop_set hd)) (by first | exact hn | simpa using hn) (by first | exact hl | simpa using hl)))
noncomputable def O0:((List (Int))×Int)→Int
 | (s,v)=>rD s (s,v,(↑s.length:Int),0)
noncomputable def Ou:((List (Int))×Int)→Bool
 | (s,v)=>decide (s.length≤1099511627776)&&qA s (s,v,(↑s.length:Int),0)
theorem Uz:∀a:(List (Int))×Int,cj (fun f=>ad0 f a) (Ou a) (O0 a)
 | (s,v)=>ah (fun f=>Wd f _ _) (bC fun hh=>Mm _ _ _ _ _ rfl (by first | rfl | simp) (aCE hh))
theorem Q5(v:Int):∀(rest l:List Int) (n:Int) (k:Nat),qA rest (l,v,n,k)=true
 | [],l,n,k=>rfl
 | u::r,l,n,k=>by simp only[qA];rw[Q5 v r];cases (v == u)<;>rfl
theorem Q6(v:Int):∀(rest l:List Int) (n:Int) (k:Nat),rD rest (l,v,n,k)=mT rest v k
 | [],l,n,k=>rfl
 | u::r,l,n,k=>by
  simp only[rD,mT];rw[Q6 v r];rw[ajX];rfl
theorem aoh:∀a:List Int×Int,af a.1=true→Ou a=true:=fun a h=>by simp only[Ou,Q5,aCT];exact h
theorem aoi:∀a:List Int×Int,af a.1=true→O0 a=mT a.1 a.2 0:=fun a h=>by simp only[O0,Q6];rfl
abbrev aau:=bm Uz aoh aoi
noncomputable def PA:db:=⟨145,[.rd [.int .i64],.c (.int .i64)],[.v (.int .i64)],fun a=>(fun a=>af a.1:(List (Int))×Int→Bool) a,fun a=>(fun a=>mT a.1 a.2 0:(List (Int))×Int→Int) a⟩
theorem WW:PA.Ok Tryz.prog:=eB (C:=PX) (Lt:=zK) (rs:=[.tmp 4]) mixed ajn Tryz.func145 rfl rfl rfl (by kernel_rfl) (by kernel_rfl) aau
noncomputable def afJ:cR:=⟨Tryz.prog,[Pe],dn [],9,[],[],[],[]⟩
theorem aiX:bp Tryz.prog [Pe] [] []:=ak WC (aD)
def Sc:Nat→LD:=ej []
noncomputable def ads(f:Nat)(a:(List (al))×al):Option (Bool):=(aG (afJ) Sc (aQ Tryz.prog [.tmp 4] [.v (.bool)]) f [.code (aC Tryz.f126)] (aV [.rd aH,.g aH] a):Option (aA [.v (.bool)]))
theorem VN(f:Nat)(s:List (al))(v:al):ads (f+1) (s,v) =
  bif af s then some (decide (mT s v 0≥0))else none:=by kernel_rfl
noncomputable def aeC:((List (al))×al)→Bool
 | (s,v)=>decide (mT s v 0≥0)
noncomputable def acz:((List (al))×al)→Bool
 | (s,v)=>af s
theorem TK:∀a:(List (al))×al,cj (fun f=>ads f a) (acz a) (aeC a)
 | (s,v)=>ah (fun f=>VN f _ _) (dA ae)
theorem amZ:∀a:List al×al,af a.1=true→acz a=true:=fun a h=>h
theorem am0:∀a:List al×al,af a.1=true→aeC a=cT a.2 a.1:=fun a h=>Fy a.2 a.1 0 (by omega)
abbrev YC:=bm TK amZ am0
noncomputable def aql:db:=⟨126,[.rd aH,.g aH],[.v (.bool)],fun a=>(fun a=>af a.1:(List (al))×al→Bool) a,fun a=>(fun a=>cT a.2 a.1:(List (al))×al→Bool) a⟩
theorem WE:aql.Ok Tryz.prog:=eB (C:=afJ) (Lt:=Sc) (rs:=[.tmp 4]) mixed aiX Tryz.func126 rfl rfl rfl (by kernel_rfl) (by kernel_rfl) YC
noncomputable def af4:cR:=⟨Tryz.prog,[PA],dn [],9,[],[],[],[]⟩
theorem ajp:bp Tryz.prog [PA] [] []:=ak WW (aD)
def Sv:Nat→LD:=ej []
noncomputable def ad2(f:Nat)(a:(List (Int))×Int):Option (Bool):=(aG (af4) Sv (aQ Tryz.prog [.tmp 4] [.v (.bool)]) f [.code (aC Tryz.f127)] (aV [.rd [.int .i64],.c (.int .i64)] a):Option (aA [.v (.bool)]))
theorem Wf(f:Nat)(s:List (Int))(v:Int):ad2 (f+1) (s,v) =
  bif af s then some (decide (mT s v 0≥0))else none:=by kernel_rfl
noncomputable def aeS:((List (Int))×Int)→Bool
 | (s,v)=>decide (mT s v 0≥0)
noncomputable def acT:((List (Int))×Int)→Bool
 | (s,v)=>af s
theorem UC:∀a:(List (Int))×Int,cj (fun f=>ad2 f a) (acT a) (aeS a)
 | (s,v)=>ah (fun f=>Wf f _ _) (dA ae)
theorem aol:∀a:List Int×Int,af a.1=true→acT a=true:=fun a h=>h
theorem aom:∀a:List Int×Int,af a.1=true→aeS a=cT a.2 a.1:=fun a h=>Fy a.2 a.1 0 (by omega)
abbrev aax:=bm UC aol aom
noncomputable def PC:db:=⟨127,[.rd [.int .i64],.c (.int .i64)],[.v (.bool)],fun a=>(fun a=>af a.1:(List (Int))×Int→Bool) a,fun a=>(fun a=>cT a.2 a.1:(List (Int))×Int→Bool) a⟩
theorem WY:PC.Ok Tryz.prog:=eB (C:=af4) (Lt:=Sv) (rs:=[.tmp 4]) mixed ajp Tryz.func127 rfl rfl rfl (by kernel_rfl) (by kernel_rfl) aax
noncomputable def S6:cR:=⟨Tryz.prog,[],dn [],8,[],[],[],[]⟩
theorem NX:bp Tryz.prog []:=aD
theorem aub(l:List (al)):(aG S6 (fun _=>⟨[],[],0⟩) (aQ Tryz.prog [.tmp 2] [.o 48 3 aH]) 1 [.code (aC Tryz.f55)] (aV [.rd aH] l):Option (aA [.o 48 3 aH]))=bif Decidable.decide (0<l.length)&&Bool.true then bif Decidable.decide ((([]:List Nat).length+l.length)*(bytesOf Tryz.prog 48)≤140737488355328)then some l else none else none:=by kernel_rfl
noncomputable def afu:db:=⟨55,[.rd aH],[.o 48 3 aH],fun a=>af (a:List (al)),fun a=>(a:List (al))⟩
theorem L0:afu.Ok Tryz.prog:=fun a hp vs hv=>Bx (τ:=aH) (t:=48) (es:=3)
  (fun a h0 h1 vs hv=>iB (C:=S6) (Lt:=fun _=>⟨[],[],0⟩) (fn:=Tryz.f55) (rs:=[.tmp 2]) [.rd aH] [.o 48 3 aH] mixed NX Tryz.func55 rfl rfl rfl (by kernel_rfl) (by kernel_rfl) 1 ((aub a).trans (U8 h0 h1 (by decide +kernel))) vs hv)
  (iB (C:=S6) (Lt:=fun _=>⟨[],[],0⟩) (fn:=Tryz.f55) (rs:=[.tmp 2]) (a:=()) [.raw (.slice none 0 0)] [.o 48 3 aH] mixed NX Tryz.func55 rfl rfl rfl (by kernel_rfl) (by kernel_rfl) 1 (by kernel_rfl) _ (by simp only[cE,et,j4];exact⟨_,rfl,rfl⟩))
  (fun b c=>iB (C:=S6) (Lt:=fun _=>⟨[],[],0⟩) (fn:=Tryz.f55) (rs:=[.tmp 2]) (a:=()) [.raw (.slice (some b) 0 c)] [.o 48 3 aH] mixed NX Tryz.func55 rfl rfl rfl (by kernel_rfl) (by kernel_rfl) 1 (by kernel_rfl) _ (by simp only[cE,et,j4];exact⟨_,rfl,rfl⟩))
  a (aCE hp) vs hv
noncomputable def Hx:cR:=⟨Tryz.prog,[],dn [(4,([(0,[]),(1,[]),(2,[]),(3,[]),(4,[]),(5,[])],[(12,17)]))],18,[],[],[],[]⟩
theorem abu:bp Tryz.prog [] [] []:=aD
def vP:Nat→LD:=ej [(0,⟨[.rd 0 aH,.box 3 3 48 3 aH,.c 5 (.int .i64)],[],0⟩)]
noncomputable def R7(f:Nat)(a:(List (al))×al):Option (Bool):=(aG (Hx) vP (aQ Tryz.prog [.tmp 4] [.v (.bool)]) f [.code (aC Tryz.f20)] (aV [.rd aH,.g aH] a):Option (aA [.v (.bool)]))
noncomputable def ml(f:Nat)(x:(List (al))×al×Int):Option (Bool):=(aG (Hx) vP (aQ Tryz.prog [.tmp 4] [.v (.bool)]) f (aK Tryz.f20 0) ((vP 0).mk' x):Option (aA [.v (.bool)]))
theorem OI(f:Nat)(l:List (al))(id:al):R7 (f+1) (l,id) =
  ml f (l,id,0):=by kernel_rfl
theorem we(f:Nat)(l:List (al))(id:al)(i:Int):ml (f+1) (l,id,i) =
  bif decide (i<(↑l.length:Int))then bif decide (0≤i)&&decide (i<(↑l.length:Int))then bif(l.getD i.toNat (0,0,0)).1 == id.1&&((l.getD i.toNat (0,0,0)).2.1 == id.2.1&&((l.getD i.toNat (0,0,0)).2.2 == id.2.2&&true))then some true else ml f (l,id,IntKind.i64.wrap (i+1))else none else some false:=by kernel_rfl
noncomputable def mD:List (al)→((List (al))×al×Nat)→Bool
 | [],(l,id,i)=>false
 | uu::rest,(l,id,i)=>bif uu.1 == id.1&&(uu.2.1 == id.2.1&&(uu.2.2 == id.2.2&&true))then true else mD rest (l,id,i+1)
noncomputable def l7:List (al)→((List (al))×al×Nat)→Bool
 | [],(l,id,i)=>true
 | uu::rest,(l,id,i)=>bif uu.1 == id.1&&(uu.2.1 == id.2.1&&(uu.2.2 == id.2.2&&true))then true else l7 rest (l,id,i+1)
theorem EK:∀(rest:List (al)) (l:List (al)) (id:al) (i:Nat) (hd:l.drop i=rest) (hl:l.length≤1099511627776),cj (fun f=>ml f (l,id,((i:Nat):Int))) (l7 rest (l,id,i)) (mD rest (l,id,i))
 | [],l,id,i,hd,hl=>ah (fun f=>(we f _ _ _).trans (by simp only[bW (aY hd),cB,aCw,aCu,aCn,aCq,aCx]<;>rfl)) ae
 | uu::rest,l,id,i,hd,hl=>ah (fun f=>(we f _ _ _).trans (by simp only[bl (ag hd),aI hd,aM (ag hd) hl,aR (ag hd),cB,aCw,aCu,aCn,aCq,aCx]<;>rfl)) (aw ae (EK rest _ _ _ (by first | exact aq hd | exact drop_set hd | exact au (drop_set hd)) (by first | exact hl | simpa using hl)))
noncomputable def Ha:((List (al))×al)→Bool
 | (l,id)=>mD l (l,id,0)
noncomputable def GK:((List (al))×al)→Bool
 | (l,id)=>decide (l.length≤1099511627776)&&l7 l (l,id,0)
theorem NO:∀a:(List (al))×al,cj (fun f=>R7 f a) (GK a) (Ha a)
 | (l,id)=>ah (fun f=>OI f _ _) (bC fun hh=>EK _ _ _ _ rfl (aCE hh))
theorem KG(v:al):∀(rest l:List al) (k:Nat),l7 rest (l,v,k)=true
 | [],l,k=>rfl
 | u::r,l,k=>by simp only[l7];rw[KG v r];simp
theorem KH(v:al):∀(rest l:List al) (k:Nat),mD rest (l,v,k)=cT v rest
 | [],l,k=>rfl
 | u::r,l,k=>by
  simp only[mD,id_eq];rw[KH v r,wZ];cases decide (u=v)<;>rfl
theorem aiu:∀a:List al×al,af a.1=true→GK a=true:=fun a h=>by simp only[GK,KG,aCT];exact h
theorem aiv:∀a:List al×al,af a.1=true→Ha a=cT a.2 a.1:=fun a h=>by simp only[Ha,KH]
abbrev UO:=bm NO aiu aiv
noncomputable def nQ:db:=⟨20,[.rd aH,.g aH],[.v (.bool)],fun a=>(fun a=>af a.1:(List (al))×al→Bool) a,fun a=>(fun a=>cT a.2 a.1:(List (al))×al→Bool) a⟩
theorem tV:nQ.Ok Tryz.prog:=eB (C:=Hx) (Lt:=vP) (rs:=[.tmp 4]) mixed abu Tryz.func20 rfl rfl rfl (by kernel_rfl) (by kernel_rfl) UO
noncomputable def agc:cR:=⟨Tryz.prog,[],dn [],5,[],[],[],[]⟩
theorem ajw:bp Tryz.prog [] [] []:=aD
def Sz:Nat→LD:=ej []
noncomputable def aeg(f:Nat)(a:(List (al))):Option ((List (al))):=(aG (agc) Sz (aQ Tryz.prog [.tmp 2] [.o 48 3 aH]) f [.code (aC Tryz.f71)] (aV [.rd aH] a):Option (aA [.o 48 3 aH]))
theorem Wm(f:Nat)(l:List (al)):aeg (f+1) l =
  bif decide (l.length*24≤140737488355328)then some l else none:=by kernel_rfl
noncomputable def aeX:(List (al))→(List (al))
 | l=>l
noncomputable def acZ:(List (al))→Bool
 | l=>decide (l.length*24≤140737488355328)
theorem U9:∀a:(List (al)),cj (fun f=>aeg f a) (acZ a) (aeX a)
 | l=>ah (fun f=>Wm f _) (dA ae)
theorem apR:∀a:List al,af a=true→acZ a=true:=fun a h=>by
 have h:a.length≤1099511627776:=aCE h;exact aCm (by omega)
theorem apS:∀a:List al,af a=true→aeX a=a:=fun a h=>rfl
abbrev ab1:=bm U9 apR apS
noncomputable def Cr:db:=⟨71,[.rd aH],[.o 48 3 aH],fun a=>(fun a=>af a:(List (al))→Bool) a,fun a=>(fun a=>a:(List (al))→(List (al))) a⟩
theorem EF:Cr.Ok Tryz.prog:=eB (C:=agc) (Lt:=Sz) (rs:=[.tmp 2]) mixed ajw Tryz.func71 rfl rfl rfl (by kernel_rfl) (by kernel_rfl) ab1
theorem rM{α:Type}[DecidableEq α](F P:List α→List α×List α×Nat→Bool)
  (h0:∀a b k,F [] (a,b,k)=true∧P [] (a,b,k)=true)
  (h1:∀u r a b k v t,b.drop k=v::t→F (u::r) (a,b,k)=(bif !decide (u=v)then false else F r (a,b,k+1))∧(P r (a,b,k+1)=true→P (u::r) (a,b,k)=true)) :
  ∀(r a b t:List α) (k:Nat),b.drop k=t→r.length=t.length→F r (a,b,k)=decide (r=t)∧P r (a,b,k)=true
 | [],a,b,[],k,h,e=>by simp[h0]
 | [],a,b,v::t,k,h,e=>by simp at e
 | u::r,a,b,[],k,h,e=>by simp at e
 | u::r,a,b,v::t,k,h,e=>by
  obtain⟨i1,i2⟩:=rM F P h0 h1 r a b t (k+1) (aq h) (by simpa using e);obtain⟨j1,j2⟩:=h1 u r a b k v t h;refine⟨?_,j2 i2⟩;rw[j1,i1];by_cases h:u=v
  ·simp[h]
  ·simp[h]
noncomputable def PO:cR:=⟨Tryz.prog,[],dn [(6,([(0,[]),(1,[]),(2,[]),(3,[]),(4,[]),(5,[]),(6,[]),(7,[]),(8,[])],[(17,25)]))],26,[],[],[],[]⟩
theorem aiV:bp Tryz.prog [] [] []:=aD
def zB:Nat→LD:=ej [(0,⟨[.rd 0 aH,.rd 1 aH,.c 5 (.int .i64)],[],0⟩)]
noncomputable def adq(f:Nat)(a:(List (al))×(List (al))):Option (Bool):=(aG (PO) zB (aQ Tryz.prog [.tmp 4] [.v (.bool)]) f [.code (aC Tryz.f37)] (aV [.rd aH,.rd aH] a):Option (aA [.v (.bool)]))
noncomputable def qS(f:Nat)(x:(List (al))×(List (al))×Int):Option (Bool):=(aG (PO) zB (aQ Tryz.prog [.tmp 4] [.v (.bool)]) f (aK Tryz.f37 0) ((zB 0).mk' x):Option (aA [.v (.bool)]))
theorem VL(f:Nat)(a:List (al))(b:List (al)):adq (f+1) (a,b) =
  bif(↑a.length:Int) != (↑b.length:Int)then some false else qS f (a,b,0):=by kernel_rfl
theorem yo(f:Nat)(a:List (al))(b:List (al))(i:Int):qS (f+1) (a,b,i) =
  bif decide (i<(↑a.length:Int))then bif decide (0≤i)&&decide (i<(↑a.length:Int))then bif decide (0≤i)&&decide (i<(↑b.length:Int))then bif !((a.getD i.toNat (0,0,0)).1 == (b.getD i.toNat (0,0,0)).1&&((a.getD i.toNat (0,0,0)).2.1 == (b.getD i.toNat (0,0,0)).2.1&&((a.getD i.toNat (0,0,0)).2.2 == (b.getD i.toNat (0,0,0)).2.2&&true)))then some false else qS f (a,b,IntKind.i64.wrap (i+1))else none else none else some true:=by kernel_rfl
noncomputable def mu:List (al)→((List (al))×(List (al))×Nat)→Bool
 | [],(a,b,i)=>true
 | uu::rest,(a,b,i)=>bif !(uu.1 == (b.getD (↑i:Int).toNat (0,0,0)).1&&(uu.2.1 == (b.getD (↑i:Int).toNat (0,0,0)).2.1&&(uu.2.2 == (b.getD (↑i:Int).toNat (0,0,0)).2.2&&true)))then false else mu rest (a,b,i+1)
noncomputable def lX:List (al)→((List (al))×(List (al))×Nat)→Bool
 | [],(a,b,i)=>true
 | uu::rest,(a,b,i)=>decide ((↑i:Int)<(↑b.length:Int))&&bif !(uu.1 == (b.getD (↑i:Int).toNat (0,0,0)).1&&(uu.2.1 == (b.getD (↑i:Int).toNat (0,0,0)).2.1&&(uu.2.2 == (b.getD (↑i:Int).toNat (0,0,0)).2.2&&true)))then true else lX rest (a,b,i+1)
theorem Mf:∀(rest:List (al)) (a:List (al)) (b:List (al)) (i:Nat) (hd:a.drop i=rest) (hl:a.length≤1099511627776),cj (fun f=>qS f (a,b,((i:Nat):Int))) (lX rest (a,b,i)) (mu rest (a,b,i))
 | [],a,b,i,hd,hl=>ah (fun f=>(yo f _ _ _).trans (by simp only[bW (aY hd),cB,aCw,aCu,aCn,aCq,aCx]<;>rfl)) ae
 | uu::rest,a,b,i,hd,hl=>ah (fun f=>(yo f _ _ _).trans (by simp only[bl (ag hd),aI hd,aM (ag hd) hl,aR (ag hd),cB,aCw,aCu,aCn,aCq,aCx]<;>rfl)) (aE (aw ae (Mf rest _ _ _ (by first | exact aq hd | exact drop_set hd | exact au (drop_set hd)) (by first | exact hl | simpa using hl))))
noncomputable def OR:((List (al))×(List (al)))→Bool
 | (a,b)=>bif(↑a.length:Int) != (↑b.length:Int)then false else mu a (a,b,0)
noncomputable def Ol:((List (al))×(List (al)))→Bool
 | (a,b)=>bif(↑a.length:Int) != (↑b.length:Int)then true else decide (a.length≤1099511627776)&&lX a (a,b,0)
theorem TI:∀a:(List (al))×(List (al)),cj (fun f=>adq f a) (Ol a) (OR a)
 | (a,b)=>ah (fun f=>VL f _ _) (aw ae (bC fun hh=>Mf _ _ _ _ rfl (aCE hh)))
theorem Yy:∀(r a b t:List al) (k:Nat),b.drop k=t→r.length=t.length→mu r (a,b,k)=decide (r=t)∧lX r (a,b,k)=true:=by
 refine rM mu lX (fun _ _ _=>⟨rfl,rfl⟩) fun u r a b k v t h=>?_
 simp only[mu,lX,aI h,bl (ag h),id_eq,aCu];exact⟨by trivial,fun h=>by rw[h];simp⟩
theorem fI{α β:Type}(a:List α)(b:List β):(((a.length:Nat):Int) != ((b.length:Nat):Int)) = !decide (a.length=b.length):=by
 by_cases h:a.length=b.length
 ·simp[h]
 ·rw[aCz h];simp;omega
theorem amS:∀a:List al×List al,af a.1=true→Ol a=true:=fun a h=>by
 simp only[Ol,fI];by_cases e:a.1.length=a.2.length
 ·rw[(Yy a.1 a.1 a.2 a.2 0 rfl e).2];simp[e];rw[← e];exact aCE h
 ·simp[e]
theorem amT:∀a:List al×List al,af a.1=true→OR a=decide (a.1=a.2):=fun a h=>by
 simp only[OR,fI];by_cases e:a.1.length=a.2.length
 ·rw[(Yy a.1 a.1 a.2 a.2 0 rfl e).1];simp[e]
 ·have:¬ a.1=a.2:=fun h=>e (by rw[h])
  simp[e,this]
abbrev Yx:=bm TI amS amT
noncomputable def tS:db:=⟨37,[.rd aH,.rd aH],[.v (.bool)],fun a=>(fun a=>af a.1:(List (al))×(List (al))→Bool) a,fun a=>(fun a=>decide (a.1=a.2):(List (al))×(List (al))→Bool) a⟩
theorem xD:tS.Ok Tryz.prog:=eB (C:=PO) (Lt:=zB) (rs:=[.tmp 4]) mixed aiV Tryz.func37 rfl rfl rfl (by kernel_rfl) (by kernel_rfl) Yx
noncomputable def af6:cR:=⟨Tryz.prog,[],dn [],8,[],[],[],[]⟩
theorem ajt:bp Tryz.prog [] [] []:=aD
def Sw:Nat→LD:=ej []
noncomputable def ad9(f:Nat)(a:oF):Option (Rg):=(aG (af6) Sw (aQ Tryz.prog [.cell 2 72] [.g s8]) f [.code (aC Tryz.f60)] (aV [.g To] a):Option (aA [.g s8]))
theorem Wj(f:Nat)(c:oF):ad9 (f+1) c =
  some (c.2.1,c.2.2.1):=by kernel_rfl
noncomputable def aeU:oF→Rg
 | c=>(c.2.1,c.2.2.1)
noncomputable def acV:oF→Bool
 | c=>true
theorem U4:∀a:oF,cj (fun f=>ad9 f a) (acV a) (aeU a)
 | c=>ah (fun f=>Wj f _) ae
theorem apL:∀a,(fun _=>true) a=true→acV a=true:=fun _ _=>rfl
theorem apM:∀a,(fun _=>true) a=true→aeU a=(fun c:oF=>((c.2.1,c.2.2.1):Rg)) a:=fun _ _=>rfl
abbrev abP:=bm U4 apL apM
noncomputable def aqn:db:=⟨60,[.g To],[.g s8],fun a=>(fun _=>true:oF→Bool) a,fun a=>(fun c=>(c.2.1,c.2.2.1):oF→Rg) a⟩
theorem W3:aqn.Ok Tryz.prog:=eB (C:=af6) (Lt:=Sw) (rs:=[.cell 2 72]) mixed ajt Tryz.func60 rfl rfl rfl (by kernel_rfl) (by kernel_rfl) abP
noncomputable def afN:cR:=⟨Tryz.prog,[],dn [],8,[],[],[],[]⟩
theorem ai4:bp Tryz.prog [] [] []:=aD
def Sg:Nat→LD:=ej []
noncomputable def adz(f:Nat)(a:oF):Option (Rg):=(aG (afN) Sg (aQ Tryz.prog [.cell 2 72] [.g s8]) f [.code (aC Tryz.f23)] (aV [.g To] a):Option (aA [.g s8]))
theorem VU(f:Nat)(c:oF):adz (f+1) c =
  some (c.2.1,c.2.2.1):=by kernel_rfl
noncomputable def aeF:oF→Rg
 | c=>(c.2.1,c.2.2.1)
noncomputable def acD:oF→Bool
 | c=>true
theorem TV:∀a:oF,cj (fun f=>adz f a) (acD a) (aeF a)
 | c=>ah (fun f=>VU f _) ae
theorem anf:∀a,(fun _=>true) a=true→acD a=true:=fun _ _=>rfl
theorem ang:∀a,(fun _=>true) a=true→aeF a=(fun c:oF=>((c.2.1,c.2.2.1):Rg)) a:=fun _ _=>rfl
abbrev YR:=bm TV anf ang
noncomputable def Cf:db:=⟨23,[.g To],[.g s8],fun a=>(fun _=>true:oF→Bool) a,fun a=>(fun c=>(c.2.1,c.2.2.1):oF→Rg) a⟩
theorem Ex:Cf.Ok Tryz.prog:=eB (C:=afN) (Lt:=Sg) (rs:=[.cell 2 72]) mixed ai4 Tryz.func23 rfl rfl rfl (by kernel_rfl) (by kernel_rfl) YR
noncomputable def afT:cR:=⟨Tryz.prog,[],dn [],12,[],[],[],[]⟩
theorem ajb:bp Tryz.prog [] [] []:=aD
def Sj:Nat→LD:=ej []
noncomputable def adJ(f:Nat)(a:Int):Option (Int):=(aG (afT) Sj (aQ Tryz.prog [.tmp 2] [.v (.int .i64)]) f [.code (aC Tryz.f138)] (aV [.c (.int .i64)] a):Option (aA [.v (.int .i64)]))
theorem V1(f:Nat)(kind:Int):adJ (f+1) kind =
  bif kind == 3 then some 12 else bif kind == 4 then some 6 else bif kind == 5 then some 10 else bif kind == 6 then some 16 else some 0:=by kernel_rfl
noncomputable def tP:Int→Int
 | kind=>bif kind == 3 then 12 else bif kind == 4 then 6 else bif kind == 5 then 10 else bif kind == 6 then 16 else 0
noncomputable def acI:Int→Bool
 | kind=>true
theorem T4:∀a:Int,cj (fun f=>adJ f a) (acI a) (tP a)
 | kind=>ah (fun f=>V1 f _) (aT ae (aT ae (aT ae (aT ae ae))))
theorem anv:∀a,(fun _=>true) a=true→acI a=true:=fun _ _=>rfl
theorem anw:∀a,(fun _=>true) a=true→tP a=tP a:=fun _ _=>rfl
abbrev Zi:=bm T4 anv anw
noncomputable def Pu:db:=⟨138,[.c (.int .i64)],[.v (.int .i64)],fun a=>(fun _=>true:Int→Bool) a,fun a=>(tP:Int→Int) a⟩
theorem WR:Pu.Ok Tryz.prog:=eB (C:=afT) (Lt:=Sj) (rs:=[.tmp 2]) mixed ajb Tryz.func138 rfl rfl rfl (by kernel_rfl) (by kernel_rfl) Zi
noncomputable def afL:cR:=⟨Tryz.prog,[Pu],dn [],35,[],[],[],[]⟩
theorem ai2:bp Tryz.prog [Pu] [] []:=ak WR (aD)
def Se:Nat→LD:=ej []
noncomputable def adx(f:Nat)(a:Int×Int):Option (Bool):=(aG (afL) Se (aQ Tryz.prog [.tmp 4] [.v (.bool)]) f [.code (aC Tryz.f111)] (aV [.c (.int .i64),.c (.int .i64)] a):Option (aA [.v (.bool)]))
theorem VS(f:Nat)(kind:Int)(bits:Int):adx (f+1) (kind,bits) =
  bif kind == 1 then bif decide (bits≥6)then some (decide (bits≤40))else some false else bif kind == 2 then bif decide (bits≥12)then some (decide (bits≤40))else some false else bif decide (kind≥3)then bif decide (kind≤6)then some (bits == tP kind)else some false else some false:=by kernel_rfl
noncomputable def OU:(Int×Int)→Bool
 | (kind,bits)=>bif kind == 1 then bif decide (bits≥6)then decide (bits≤40)else false else bif kind == 2 then bif decide (bits≥12)then decide (bits≤40)else false else bif decide (kind≥3)then bif decide (kind≤6)then bits == tP kind else false else false
noncomputable def acB:(Int×Int)→Bool
 | (kind,bits)=>true
theorem TT:∀a:Int×Int,cj (fun f=>adx f a) (acB a) (OU a)
 | (kind,bits)=>ah (fun f=>VS f _ _) (aT (aT ae ae) (aT (aT ae ae) (aT (aT ae ae) ae)))
theorem am9:∀a,(fun _=>true) a=true→acB a=true:=fun _ _=>rfl
def JS(a:Int×Int):Bool:=(decide (a.1=1)&&(decide (6≤a.2)&&decide (a.2≤40))) || ((decide (a.1=2)&&(decide (12≤a.2)&&decide (a.2≤40))) || ((decide (a.1=3)&&decide (a.2=12)) || ((decide (a.1=4)&&decide (a.2=6)) || ((decide (a.1=5)&&decide (a.2=10)) || (decide (a.1=6)&&decide (a.2=16))))))
theorem Yv(k b:Int):JS (k,b)=true↔(k=1∧6≤b∧b≤40)∨(k=2∧12≤b∧b≤40)∨(k=3∧b=12)∨(k=4∧b=6)∨(k=5∧b=10)∨(k=6∧b=16):=by simp[JS]
theorem ana:∀a,(fun _=>true) a=true→OU a=JS a:=by
 rintro⟨k,b⟩ _;rw[aDN,Yv];simp only[OU,tP,zr];by_cases h1:k=1
 ·subst h1;simp
 by_cases h2:k=2
 ·subst h2;simp
 by_cases h3:k=3
 ·subst h3;simp
 by_cases h4:k=4
 ·subst h4;simp
 by_cases h5:k=5
 ·subst h5;simp
 by_cases h6:k=6
 ·subst h6;simp
 simp[h1,h2,h3,h4,h5,h6];omega
abbrev YP:=bm TT am9 ana
noncomputable def Pn:db:=⟨111,[.c (.int .i64),.c (.int .i64)],[.v (.bool)],fun a=>(fun _=>true:Int×Int→Bool) a,fun a=>(JS:Int×Int→Bool) a⟩
theorem WJ:Pn.Ok Tryz.prog:=eB (C:=afL) (Lt:=Se) (rs:=[.tmp 4]) mixed ai2 Tryz.func111 rfl rfl rfl (by kernel_rfl) (by kernel_rfl) YP
def Kj(a:Int×Int):Bool:=decide (0≤a.2)&&((decide (a.1=32)&&decide (a.2≤1)) || (decide (a.1=39)&&decide (a.2≤2)))
theorem aai(w l:Int):Kj (w,l)=true↔0≤l∧((w=32∧l≤1)∨(w=39∧l≤2)):=by simp[Kj]
noncomputable def afQ:cR:=⟨Tryz.prog,[],dn [],23,[],[],[],[]⟩
theorem ai8:bp Tryz.prog [] [] []:=aD
def Sh:Nat→LD:=ej []
noncomputable def adF(f:Nat)(a:Int×Int):Option (Bool):=(aG (afQ) Sh (aQ Tryz.prog [.tmp 4] [.v (.bool)]) f [.code (aC Tryz.f112)] (aV [.c (.int .i64),.c (.int .i64)] a):Option (aA [.v (.bool)]))
theorem VY(f:Nat)(width:Int)(level:Int):adF (f+1) (width,level) =
  bif decide (level≥0)then bif width == 32 then bif decide (level≤1)then some true else bif width == 39 then some (decide (level≤2))else some false else bif width == 39 then some (decide (level≤2))else some false else some false:=by kernel_rfl
noncomputable def OV:(Int×Int)→Bool
 | (width,level)=>bif decide (level≥0)then bif width == 32 then bif decide (level≤1)then true else bif width == 39 then decide (level≤2)else false else bif width == 39 then decide (level≤2)else false else false
noncomputable def acF:(Int×Int)→Bool
 | (width,level)=>true
theorem T1:∀a:Int×Int,cj (fun f=>adF f a) (acF a) (OV a)
 | (width,level)=>ah (fun f=>VY f _ _) (aT (aT (aT ae (aT ae ae)) (aT ae ae)) ae)
theorem anp:∀a,(fun _=>true) a=true→acF a=true:=fun _ _=>rfl
theorem anq:∀a,(fun _=>true) a=true→OV a=Kj a:=by
 rintro⟨w,l⟩ _;rw[aDN,aai];simp only[OV,zr];by_cases h1:w=32
 ·subst h1;simp
 by_cases h2:w=39
 ·subst h2;simp
 simp[h1,h2]
abbrev Y9:=bm T1 anp anq
noncomputable def Ps:db:=⟨112,[.c (.int .i64),.c (.int .i64)],[.v (.bool)],fun a=>(fun _=>true:Int×Int→Bool) a,fun a=>(Kj:Int×Int→Bool) a⟩
theorem WO:Ps.Ok Tryz.prog:=eB (C:=afQ) (Lt:=Sh) (rs:=[.tmp 4]) mixed ai8 Tryz.func112 rfl rfl rfl (by kernel_rfl) (by kernel_rfl) Y9
def arQ(a:oF×oF):Bool:=decide (a.1.1=a.2.1)&&(decide (a.1.2.1=a.2.2.1)&&(decide (a.1.2.2.1=a.2.2.2.1)&&(decide (a.1.2.2.2.2.1=a.2.2.2.2.2.1)&&(decide (a.1.2.2.2.2.2.1=a.2.2.2.2.2.2.1)&&(a.1.2.2.2.2.2.2 == a.2.2.2.2.2.2.2)))))
theorem BH(a b:Int):(a == b)=decide (a=b):=by rw[aDN];simp
def atW(a:oF×oF):Bool:=!overlaps ((a.1.2.1,a.1.2.2.1),(a.2.2.1,a.2.2.2.1)) || (arQ a || ((decide (a.1.1=1)&&contains ((a.1.2.1,a.1.2.2.1),(a.2.2.1,a.2.2.2.1))) || (decide (a.2.1=1)&&contains ((a.2.2.1,a.2.2.2.1),(a.1.2.1,a.1.2.2.1)))))
def nT(c:oF):Bool:=JS (c.1,c.2.2.1)&&(valid (c.2.1,c.2.2.1)&&(decide (0≤c.2.2.2.1)&&(decide (c.2.2.2.1≤7)&&((bif decide (c.1=3)then Kj (c.2.2.2.2.1,c.2.2.2.2.2.1)else decide (c.2.2.2.2.1=0)&&decide (c.2.2.2.2.2.1=0))&&(!c.2.2.2.2.2.2 || (decide (c.1=1) || decide (c.1=2)))))))
theorem Gm(a b:Int):(a != b) = !decide (a=b):=by rw[bne,BH]
noncomputable def S1:cR:=⟨Tryz.prog,[Pn,Cf,jX,Ps],dn [],64,[],[],[],[]⟩
theorem abq:bp Tryz.prog [Pn,Cf,jX,Ps] [] []:=ak WJ (ak Ex (ak rH (ak WO (aD))))
def LO:Nat→LD:=ej []
noncomputable def R4(f:Nat)(a:oF):Option (Bool):=(aG (S1) LO (aQ Tryz.prog [.tmp 2] [.v (.bool)]) f [.code (aC Tryz.f80)] (aV [.g To] a):Option (aA [.v (.bool)]))
theorem OF(f:Nat)(c:oF):R4 (f+1) c =
  bif !JS (c.1,c.2.2.1)then some false else bif !valid (c.2.1,c.2.2.1)then some false else bif decide (c.2.2.2.1<0)then some false else bif decide (c.2.2.2.1>7)then some false else bif c.1 == 3 then bif !Kj (c.2.2.2.2.1,c.2.2.2.2.2.1)then some false else bif c.1 != 3 then bif c.2.2.2.2.1 != 0 then some false else bif c.2.2.2.2.2.1 != 0 then some false else bif !c.2.2.2.2.2.2 then some true else bif c.1 == 1 then some true else some (c.1 == 2)else bif !c.2.2.2.2.2.2 then some true else bif c.1 == 1 then some true else some (c.1 == 2)else bif c.1 != 3 then bif c.2.2.2.2.1 != 0 then some false else bif c.2.2.2.2.2.1 != 0 then some false else bif !c.2.2.2.2.2.2 then some true else bif c.1 == 1 then some true else some (c.1 == 2)else bif !c.2.2.2.2.2.2 then some true else bif c.1 == 1 then some true else some (c.1 == 2):=by kernel_rfl
noncomputable def G6:oF→Bool
 | c=>bif !JS (c.1,c.2.2.1)then false else bif !valid (c.2.1,c.2.2.1)then false else bif decide (c.2.2.2.1<0)then false else bif decide (c.2.2.2.1>7)then false else bif c.1 == 3 then bif !Kj (c.2.2.2.2.1,c.2.2.2.2.2.1)then false else bif c.1 != 3 then bif c.2.2.2.2.1 != 0 then false else bif c.2.2.2.2.2.1 != 0 then false else bif !c.2.2.2.2.2.2 then true else bif c.1 == 1 then true else c.1 == 2 else bif !c.2.2.2.2.2.2 then true else bif c.1 == 1 then true else c.1 == 2 else bif c.1 != 3 then bif c.2.2.2.2.1 != 0 then false else bif c.2.2.2.2.2.1 != 0 then false else bif !c.2.2.2.2.2.2 then true else bif c.1 == 1 then true else c.1 == 2 else bif !c.2.2.2.2.2.2 then true else bif c.1 == 1 then true else c.1 == 2
noncomputable def RQ:oF→Bool
 | c=>true
theorem MX:∀a:oF,cj (fun f=>R4 f a) (RQ a) (G6 a)
 | c=>ah (fun f=>OF f _) (aT ae (aT ae (aT ae (aT ae (aT (aT ae (aT (aT ae (aT ae (aT ae (aT ae ae)))) (aT ae (aT ae ae)))) (aT (aT ae (aT ae (aT ae (aT ae ae)))) (aT ae (aT ae ae))))))))
theorem ahp:∀a,(fun _=>true) a=true→RQ a=true:=fun _ _=>rfl
theorem ahq:∀a,(fun _=>true) a=true→G6 a=nT a:=by
 rintro⟨k,b,z,r,w,l,d⟩ _;simp only[G6,nT,BH,Gm];rw[show decide (0≤r) = !decide (r<0)by rw[← decide_not];exact aEc.2 (by omega),show decide (r≤7) = !decide (r>7)by rw[← decide_not];exact aEc.2 (by omega)];cases JS (k,z)<;>cases valid (b,z)<;>cases decide (r<0)<;>cases decide (r>7)<;>(try rfl)
 by_cases h3:k=3
 ·subst h3;cases Kj (w,l)<;>cases d<;>rfl
 ·rw[aCz h3]
  cases decide (w=0)<;>cases decide (l=0)<;>cases d<;>cases decide (k=1)<;>rfl
abbrev TQ:=bm MX ahp ahq
noncomputable def Hi:db:=⟨80,[.g To],[.v (.bool)],fun a=>(fun _=>true:oF→Bool) a,fun a=>(nT:oF→Bool) a⟩
theorem Pk:Hi.Ok Tryz.prog:=eB (C:=S1) (Lt:=LO) (rs:=[.tmp 2]) mixed abq Tryz.func80 rfl rfl rfl (by kernel_rfl) (by kernel_rfl) TQ
def C0(n:dX):al:=(n.1,n.2.1,n.2.2.1)
def dk(n:dX):List al:=n.2.2.2.1
def Ur(n:dX):oF:=n.2.2.2.2
theorem eX{α:Type}{l r:List α}{u:α}{k:Nat}(h:l.drop k=u::r):l.take (k+1)=l.take k++[u]:=by
 rw[aDn,rV h];rfl
def Qk{α:Type}[DecidableEq α]:List α→List α→Bool
 | _,[]=>true
 | pre,u::r=>!cT u pre&&Qk (pre++[u]) r
def ee(n:dX):Bool:=dY (C0 n)&&(nT (Ur n)&&(decide ((dk n).length≤8)&&((dk n).all dY&&(Qk [] (dk n)&&!cT (C0 n) (dk n)))))
theorem len8(n:Nat):decide ((n:Int)>8) = !decide (n≤8):=by rw[← decide_not];exact aEc.2 (by omega)
noncomputable def Hq:cR:=⟨Tryz.prog,[nO,Hi,nQ],dn [(6,([(0,[]),(1,[]),(2,[]),(3,[]),(4,[]),(5,[]),(6,[]),(7,[]),(8,[]),(9,[]),(10,[]),(11,[]),(12,[]),(13,[]),(14,[]),(15,[]),(16,[]),(17,[]),(18,[])],[(34,52)]))],53,[],[],[],[]⟩
theorem abp:bp Tryz.prog [nO,Hi,nQ] [] []:=ak sC (ak Pk (ak tV (aD)))
def vN:Nat→LD:=ej [(0,⟨[.box 1 1 54 11 kH,.c 3 (.int .i64)],[],0⟩)]
noncomputable def R0(f:Nat)(a:dX):Option (Bool):=(aG (Hq) vN (aQ Tryz.prog [.tmp 2] [.v (.bool)]) f [.code (aC Tryz.f47)] (aV [.g kH] a):Option (aA [.v (.bool)]))
noncomputable def mg(f:Nat)(x:dX×Int):Option (Bool):=(aG (Hq) vN (aQ Tryz.prog [.tmp 2] [.v (.bool)]) f (aK Tryz.f47 0) ((vN 0).mk' x):Option (aA [.v (.bool)]))
theorem OE(f:Nat)(n:dX):R0 (f+1) n =
  bif !dY (n.1,n.2.1,n.2.2.1)then some false else bif !nT n.2.2.2.2 then some false else bif decide ((↑(List.length n.2.2.2.1):Int)>8)then some false else bif af n.2.2.2.1 then bif cT (n.1,n.2.1,n.2.2.1) n.2.2.2.1 then some false else mg f (n,0)else none:=by kernel_rfl
theorem vW(f:Nat)(n:dX)(i:Int):mg (f+1) (n,i) =
  bif decide (i<(↑(List.length n.2.2.2.1):Int))then bif decide (0≤i)&&decide (i<(↑(List.length n.2.2.2.1):Int))then bif !dY (List.getD n.2.2.2.1 i.toNat (0,0,0))then some false else bif decide (0≤i)&&decide (i≤(↑(List.length n.2.2.2.1):Int))then bif decide (0≤i)&&decide (i<(↑(List.length n.2.2.2.1):Int))then bif af (List.take i.toNat n.2.2.2.1)then bif cT (List.getD n.2.2.2.1 i.toNat (0,0,0)) (List.take i.toNat n.2.2.2.1)then some false else mg f (n,IntKind.i64.wrap (i+1))else none else none else none else none else some true:=by kernel_rfl
noncomputable def jd:List (Int×Int×Int)→(dX×Nat)→Bool
 | [],(n,i)=>true
 | uu::rest,(n,i)=>bif !dY uu then false else bif cT uu (List.take (↑i:Int).toNat n.2.2.2.1)then false else jd rest (n,i+1)
noncomputable def jc:List (Int×Int×Int)→(dX×Nat)→Bool
 | [],(n,i)=>true
 | uu::rest,(n,i)=>bif !dY uu then true else decide ((↑i:Int)≤(↑(List.length n.2.2.2.1):Int))&&(af (List.take (↑i:Int).toNat n.2.2.2.1)&&bif cT uu (List.take (↑i:Int).toNat n.2.2.2.1)then true else jc rest (n,i+1))
theorem EI:∀(rest:List (Int×Int×Int)) (n:dX) (i:Nat) (hd:n.snd.snd.snd.fst.drop i=rest) (hl:n.snd.snd.snd.fst.length≤1099511627776),cj (fun f=>mg f (n,((i:Nat):Int))) (jc rest (n,i)) (jd rest (n,i))
 | [],n,i,hd,hl=>ah (fun f=>(vW f _ _).trans (by simp only[bW (aY hd),cB,aCw,aCu,aCn,aCq,aCx]<;>rfl)) ae
 | uu::rest,n,i,hd,hl=>ah (fun f=>(vW f _ _).trans (by simp only[bl (ag hd),aI hd,aM (ag hd) hl,aR (ag hd),cB,aCw,aCu,aCn,aCq,aCx]<;>rfl)) (aw ae (aE (aE (aw ae (EI rest _ _ (by first | exact aq hd | exact drop_set hd | exact au (drop_set hd)) (by first | exact hl | simpa using hl))))))
noncomputable def SK:dX→Bool
 | n=>bif !dY (n.1,n.2.1,n.2.2.1)then false else bif !nT n.2.2.2.2 then false else bif decide ((↑(List.length n.2.2.2.1):Int)>8)then false else bif cT (n.1,n.2.1,n.2.2.1) n.2.2.2.1 then false else jd n.2.2.2.1 (n,0)
noncomputable def RP:dX→Bool
 | n=>bif !dY (n.1,n.2.1,n.2.2.1)then true else bif !nT n.2.2.2.2 then true else bif decide ((↑(List.length n.2.2.2.1):Int)>8)then true else af n.2.2.2.1&&bif cT (n.1,n.2.1,n.2.2.1) n.2.2.2.1 then true else decide (n.2.2.2.1.length≤1099511627776)&&jc n.2.2.2.1 (n,0)
theorem MW:∀a:dX,cj (fun f=>R0 f a) (RP a) (SK a)
 | n=>ah (fun f=>OE f _) (aw ae (aw ae (aw ae (aE (aw ae (bC fun hh=>EI _ _ _ rfl (aCE hh)))))))
theorem E3(n:dX)(hl:(dk n).length≤8):∀(rest:List al) (k:Nat),(dk n).drop k=rest→k≤(dk n).length→jd rest (n,k)=(rest.all dY&&Qk ((dk n).take k) rest)∧jc rest (n,k)=true
 | [],k,h,hk=>⟨rfl,rfl⟩
 | u::r,k,h,hk=>by
  obtain⟨i1,i2⟩:=E3 n hl r (k+1) (aq h) (ag h);constructor
  ·show(bif !dY u then false else bif cT u ((dk n).take k)then false else jd r (n,k+1))=_
   rw[i1,eX h,aEy,Qk];cases dY u<;>cases cT u (List.take k (dk n))<;>simp
  ·show(bif !dY u then true else decide ((k:Int)≤(((dk n).length:Nat):Int))&&(af ((dk n).take k)&&bif cT u ((dk n).take k)then true else jc r (n,k+1)))=true
   rw[i2,show decide ((k:Int)≤(((dk n).length:Nat):Int))=true from aCm (by omega),show af ((dk n).take k)=true from aCm (by rw[aCV];omega)];cases dY u<;>cases cT u (List.take k (dk n))<;>rfl
theorem aho:∀a,(fun _=>true) a=true→SK a=ee a:=by
 intro n _;show(bif !dY (C0 n)then false else bif !nT (Ur n)then false else bif decide ((((dk n).length:Nat):Int)>8)then false else bif cT (C0 n) (dk n)then false else jd (dk n) (n,0))=_;rw[len8,ee];cases dY (C0 n)<;>cases nT (Ur n)<;>(try rfl)
 by_cases h:(dk n).length≤8
 ·rw[aCm h,(E3 n h (dk n) 0 rfl (by omega)).1]
  cases cT (C0 n) (dk n)<;>simp
 ·rw[aCz h];rfl
theorem ahn:∀a,(fun _=>true) a=true→RP a=true:=by
 intro n _;show(bif !dY (C0 n)then true else bif !nT (Ur n)then true else bif decide ((((dk n).length:Nat):Int)>8)then true else af (dk n)&&bif cT (C0 n) (dk n)then true else decide ((dk n).length≤1099511627776)&&jc (dk n) (n,0))=true;rw[len8];cases dY (C0 n)<;>cases nT (Ur n)<;>(try rfl)
 by_cases h:(dk n).length≤8
 ·rw[aCm h,(E3 n h (dk n) 0 rfl (by omega)).2,show af (dk n)=true from aCm (by omega),show decide ((dk n).length≤1099511627776)=true from aCm (by omega)]
  cases cT (C0 n) (dk n)<;>rfl
 ·rw[aCz h];rfl
abbrev TO:=bm MW ahn aho
noncomputable def nN:db:=⟨47,[.g kH],[.v (.bool)],fun a=>(fun _=>true:dX→Bool) a,fun a=>(ee:dX→Bool) a⟩
theorem tT:nN.Ok Tryz.prog:=eB (C:=Hq) (Lt:=vN) (rs:=[.tmp 2]) mixed abp Tryz.func47 rfl rfl rfl (by kernel_rfl) (by kernel_rfl) TO
noncomputable def S8:cR:=⟨Tryz.prog,[Cr],dn [],8,[],[],[],[]⟩
theorem abw:bp Tryz.prog [Cr] [] []:=ak EF (aD)
def LR:Nat→LD:=ej []
noncomputable def R9(f:Nat)(a:dX):Option (dX):=(aG (S8) LR (aQ Tryz.prog [.cell 2 54] [.g kH]) f [.code (aC Tryz.f85)] (aV [.g kH] a):Option (aA [.g kH]))
theorem OK(f:Nat)(n:dX):R9 (f+1) n =
  bif af n.2.2.2.1 then some n else none:=by kernel_rfl
noncomputable def SL:dX→dX
 | n=>n
noncomputable def RU:dX→Bool
 | n=>af n.2.2.2.1
theorem N7:∀a:dX,cj (fun f=>R9 f a) (RU a) (SL a)
 | n=>ah (fun f=>OK f _) (dA ae)
theorem ajQ:∀a:dX,af a.2.2.2.1=true→RU a=true:=fun a h=>h
theorem ajR:∀a:dX,af a.2.2.2.1=true→SL a=a:=fun a h=>rfl
abbrev U6:=bm N7 ajQ ajR
noncomputable def iX:db:=⟨85,[.g kH],[.g kH],fun a=>(fun a=>af a.2.2.2.1:dX→Bool) a,fun a=>(fun a=>a:dX→dX) a⟩
theorem nR:iX.Ok Tryz.prog:=eB (C:=S8) (Lt:=LR) (rs:=[.cell 2 54]) mixed abw Tryz.func85 rfl rfl rfl (by kernel_rfl) (by kernel_rfl) U6
theorem QW(a b:dX):(bif a.1 == b.1&&(a.2.1 == b.2.1&&(a.2.2.1 == b.2.2.1&&true))then bif a.2.2.2.2.1 == b.2.2.2.2.1&&(a.2.2.2.2.2.1 == b.2.2.2.2.2.1&&(a.2.2.2.2.2.2.1 == b.2.2.2.2.2.2.1&&(a.2.2.2.2.2.2.2.1 == b.2.2.2.2.2.2.2.1&&(a.2.2.2.2.2.2.2.2.1 == b.2.2.2.2.2.2.2.2.1&&(a.2.2.2.2.2.2.2.2.2.1 == b.2.2.2.2.2.2.2.2.2.1&&(a.2.2.2.2.2.2.2.2.2.2 == b.2.2.2.2.2.2.2.2.2.2&&true))))))then decide (a.2.2.2.1=b.2.2.2.1)else false else false)=decide (a=b):=by
 obtain⟨a1,a2,a3,a4,a5,a6,a7,a8,a9,a10,a11⟩:=a;obtain⟨b1,b2,b3,b4,b5,b6,b7,b8,b9,b10,b11⟩:=b;simp only[zr];rw[aDN];simp only[aCs,aDI,aCT,aCy,aCH];exact⟨fun⟨⟨h1,h2,h3⟩,⟨h5,h6,h7,h8,h9,h10,h11⟩,h4⟩=>⟨h1,h2,h3,h4,h5,h6,h7,h8,h9,h10,h11⟩,fun⟨h1,h2,h3,h4,h5,h6,h7,h8,h9,h10,h11⟩=>⟨⟨h1,h2,h3⟩,⟨h5,h6,h7,h8,h9,h10,h11⟩,h4⟩⟩
theorem Gp{a b:Bool}(h:b=true):(bif a then b else true)=true:=by cases a<;>simp[h]
noncomputable def SZ:cR:=⟨Tryz.prog,[tS],dn [],24,[],[],[],[]⟩
theorem abm:bp Tryz.prog [tS] [] []:=ak xD (aD)
def LN:Nat→LD:=ej []
noncomputable def RX(f:Nat)(a:dX×dX):Option (Bool):=(aG (SZ) LN (aQ Tryz.prog [.tmp 4] [.v (.bool)]) f [.code (aC Tryz.f21)] (aV [.g kH,.g kH] a):Option (aA [.v (.bool)]))
theorem OB(f:Nat)(a:dX)(b:dX):RX (f+1) (a,b) =
  bif a.1 == b.1&&(a.2.1 == b.2.1&&(a.2.2.1 == b.2.2.1&&true))then bif a.2.2.2.2.1 == b.2.2.2.2.1&&(a.2.2.2.2.2.1 == b.2.2.2.2.2.1&&(a.2.2.2.2.2.2.1 == b.2.2.2.2.2.2.1&&(a.2.2.2.2.2.2.2.1 == b.2.2.2.2.2.2.2.1&&(a.2.2.2.2.2.2.2.2.1 == b.2.2.2.2.2.2.2.2.1&&(a.2.2.2.2.2.2.2.2.2.1 == b.2.2.2.2.2.2.2.2.2.1&&(a.2.2.2.2.2.2.2.2.2.2 == b.2.2.2.2.2.2.2.2.2.2&&true))))))then bif af a.2.2.2.1 then some (decide (a.2.2.2.1=b.2.2.2.1))else none else some false else some false:=by kernel_rfl
noncomputable def SJ:(dX×dX)→Bool
 | (a,b)=>bif a.1 == b.1&&(a.2.1 == b.2.1&&(a.2.2.1 == b.2.2.1&&true))then bif a.2.2.2.2.1 == b.2.2.2.2.1&&(a.2.2.2.2.2.1 == b.2.2.2.2.2.1&&(a.2.2.2.2.2.2.1 == b.2.2.2.2.2.2.1&&(a.2.2.2.2.2.2.2.1 == b.2.2.2.2.2.2.2.1&&(a.2.2.2.2.2.2.2.2.1 == b.2.2.2.2.2.2.2.2.1&&(a.2.2.2.2.2.2.2.2.2.1 == b.2.2.2.2.2.2.2.2.2.1&&(a.2.2.2.2.2.2.2.2.2.2 == b.2.2.2.2.2.2.2.2.2.2&&true))))))then decide (a.2.2.2.1=b.2.2.2.1)else false else false
noncomputable def GD:(dX×dX)→Bool
 | (a,b)=>bif a.1 == b.1&&(a.2.1 == b.2.1&&(a.2.2.1 == b.2.2.1&&true))then bif a.2.2.2.2.1 == b.2.2.2.2.1&&(a.2.2.2.2.2.1 == b.2.2.2.2.2.1&&(a.2.2.2.2.2.2.1 == b.2.2.2.2.2.2.1&&(a.2.2.2.2.2.2.2.1 == b.2.2.2.2.2.2.2.1&&(a.2.2.2.2.2.2.2.2.1 == b.2.2.2.2.2.2.2.2.1&&(a.2.2.2.2.2.2.2.2.2.1 == b.2.2.2.2.2.2.2.2.2.1&&(a.2.2.2.2.2.2.2.2.2.2 == b.2.2.2.2.2.2.2.2.2.2&&true))))))then af a.2.2.2.1 else true else true
theorem MT:∀a:dX×dX,cj (fun f=>RX f a) (GD a) (SJ a)
 | (a,b)=>ah (fun f=>OB f _ _) (aw (aw (dA ae) ae) ae)
theorem ahd:∀a:dX×dX,af a.1.2.2.2.1=true→GD a=true:=fun a h=>by
 simp only[GD];exact Gp (Gp h)
theorem ahe:∀a:dX×dX,af a.1.2.2.2.1=true→SJ a=decide (a.1=a.2):=fun a h=>QW a.1 a.2
abbrev TB:=bm MT ahd ahe
noncomputable def nL:db:=⟨21,[.g kH,.g kH],[.v (.bool)],fun a=>(fun a=>af a.1.2.2.2.1:dX×dX→Bool) a,fun a=>(fun a=>decide (a.1=a.2):dX×dX→Bool) a⟩
theorem tR:nL.Ok Tryz.prog:=eB (C:=SZ) (Lt:=LN) (rs:=[.tmp 4]) mixed abm Tryz.func21 rfl rfl rfl (by kernel_rfl) (by kernel_rfl) TB
noncomputable def af1:cR:=⟨Tryz.prog,[afu],dn [],8,[],[],[],[]⟩
theorem ajk:bp Tryz.prog [afu] [] []:=ak L0 (aD)
def Sr:Nat→LD:=ej []
noncomputable def adW(f:Nat)(a:dX):Option (dX):=(aG (af1) Sr (aQ Tryz.prog [.cell 2 54] [.g kH]) f [.code (aC Tryz.f94)] (aV [.g kH] a):Option (aA [.g kH]))
theorem Wa(f:Nat)(n:dX):adW (f+1) n =
  bif af n.2.2.2.1 then some n else none:=by kernel_rfl
noncomputable def aeO:dX→dX
 | n=>n
noncomputable def acQ:dX→Bool
 | n=>af n.2.2.2.1
theorem Up:∀a:dX,cj (fun f=>adW f a) (acQ a) (aeO a)
 | n=>ah (fun f=>Wa f _) (dA ae)
theorem anZ:∀a:dX,af a.2.2.2.1=true→acQ a=true:=fun a h=>h
theorem an0:∀a:dX,af a.2.2.2.1=true→aeO a=a:=fun a h=>rfl
abbrev Z4:=bm Up anZ an0
noncomputable def tU:db:=⟨94,[.g kH],[.g kH],fun a=>(fun a=>af a.2.2.2.1:dX→Bool) a,fun a=>(fun a=>a:dX→dX) a⟩
theorem xE:tU.Ok Tryz.prog:=eB (C:=af1) (Lt:=Sr) (rs:=[.cell 2 54]) mixed ajk Tryz.func94 rfl rfl rfl (by kernel_rfl) (by kernel_rfl) Z4
