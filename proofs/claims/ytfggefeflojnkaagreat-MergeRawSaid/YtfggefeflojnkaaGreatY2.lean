/- By an AI agent. -/
import Derived.Test.YtfggefeflojnkaaGreatY1
set_option linter.unusedSimpArgs false
set_option linter.unusedVariables false
namespace Go.AL
open Go.Proofs
theorem mk_eq(u v:kO):(u.1 == v.1&&(u.2.1 == v.2.1&&(u.2.2.1 == v.2.2.1&&(u.2.2.2 == v.2.2.2&&true))))=decide (u=v):=by
 obtain⟨a1,a2,a3,a4⟩:=u;obtain⟨b1,b2,b3,b4⟩:=v;rw[aDN,aCy];simp
theorem at7(u v:bR):(u.1 == v.1&&(u.2 == v.2&&true))=decide (u=v):=by
 obtain⟨a1,a2⟩:=u;obtain⟨b1,b2⟩:=v;rw[aDN,aCy];simp
noncomputable def PL:cR:=⟨Tryz.prog,[],dn [(6,([(0,[]),(1,[]),(2,[]),(3,[]),(4,[]),(5,[]),(6,[]),(7,[]),(8,[])],[(17,25)]))],26,[],[],[],[]⟩
theorem aiT:bp Tryz.prog [] [] []:=aD
def zx:Nat→LD:=ej [(0,⟨[.rd 0 yP,.rd 1 yP,.c 5 (.int .i64)],[],0⟩)]
noncomputable def ado(f:Nat)(a:(List (kO))×(List (kO))):Option (Bool):=(aG (PL) zx (aQ Tryz.prog [.tmp 4] [.v (.bool)]) f [.code (aC Tryz.f76)] (aV [.rd yP,.rd yP] a):Option (aA [.v (.bool)]))
noncomputable def qQ(f:Nat)(x:(List (kO))×(List (kO))×Int):Option (Bool):=(aG (PL) zx (aQ Tryz.prog [.tmp 4] [.v (.bool)]) f (aK Tryz.f76 0) ((zx 0).mk' x):Option (aA [.v (.bool)]))
theorem VJ(f:Nat)(a:List (kO))(b:List (kO)):ado (f+1) (a,b) =
  bif(↑a.length:Int) != (↑b.length:Int)then some false else qQ f (a,b,0):=by kernel_rfl
theorem ym(f:Nat)(a:List (kO))(b:List (kO))(i:Int):qQ (f+1) (a,b,i) =
  bif decide (i<(↑a.length:Int))then bif decide (0≤i)&&decide (i<(↑a.length:Int))then bif decide (0≤i)&&decide (i<(↑b.length:Int))then bif !((a.getD i.toNat (0,0,0,0)).1 == (b.getD i.toNat (0,0,0,0)).1&&((a.getD i.toNat (0,0,0,0)).2.1 == (b.getD i.toNat (0,0,0,0)).2.1&&((a.getD i.toNat (0,0,0,0)).2.2.1 == (b.getD i.toNat (0,0,0,0)).2.2.1&&((a.getD i.toNat (0,0,0,0)).2.2.2 == (b.getD i.toNat (0,0,0,0)).2.2.2&&true))))then some false else qQ f (a,b,IntKind.i64.wrap (i+1))else none else none else some true:=by kernel_rfl
noncomputable def mq:List (kO)→((List (kO))×(List (kO))×Nat)→Bool
 | [],(a,b,i)=>true
 | uu::rest,(a,b,i)=>bif !(uu.1 == (b.getD (↑i:Int).toNat (0,0,0,0)).1&&(uu.2.1 == (b.getD (↑i:Int).toNat (0,0,0,0)).2.1&&(uu.2.2.1 == (b.getD (↑i:Int).toNat (0,0,0,0)).2.2.1&&(uu.2.2.2 == (b.getD (↑i:Int).toNat (0,0,0,0)).2.2.2&&true))))then false else mq rest (a,b,i+1)
noncomputable def lW:List (kO)→((List (kO))×(List (kO))×Nat)→Bool
 | [],(a,b,i)=>true
 | uu::rest,(a,b,i)=>decide ((↑i:Int)<(↑b.length:Int))&&bif !(uu.1 == (b.getD (↑i:Int).toNat (0,0,0,0)).1&&(uu.2.1 == (b.getD (↑i:Int).toNat (0,0,0,0)).2.1&&(uu.2.2.1 == (b.getD (↑i:Int).toNat (0,0,0,0)).2.2.1&&(uu.2.2.2 == (b.getD (↑i:Int).toNat (0,0,0,0)).2.2.2&&true))))then true else lW rest (a,b,i+1)
theorem Md:∀(rest:List (kO)) (a:List (kO)) (b:List (kO)) (i:Nat) (hd:a.drop i=rest) (hl:a.length≤1099511627776),cj (fun f=>qQ f (a,b,((i:Nat):Int))) (lW rest (a,b,i)) (mq rest (a,b,i))
 | [],a,b,i,hd,hl=>ah (fun f=>(ym f _ _ _).trans (by simp only[bW (aY hd),cB,aCw,aCu,aCn,aCq,aCx]<;>rfl)) ae
 | uu::rest,a,b,i,hd,hl=>ah (fun f=>(ym f _ _ _).trans (by simp only[bl (ag hd),aI hd,aM (ag hd) hl,aR (ag hd),cB,aCw,aCu,aCn,aCq,aCx]<;>rfl)) (aE (aw ae (Md rest _ _ _ (by first | exact aq hd | exact drop_set hd | exact au (drop_set hd)) (by first | exact hl | simpa using hl))))
noncomputable def OP:((List (kO))×(List (kO)))→Bool
 | (a,b)=>bif(↑a.length:Int) != (↑b.length:Int)then false else mq a (a,b,0)
noncomputable def Oi:((List (kO))×(List (kO)))→Bool
 | (a,b)=>bif(↑a.length:Int) != (↑b.length:Int)then true else decide (a.length≤1099511627776)&&lW a (a,b,0)
theorem TC:∀a:(List (kO))×(List (kO)),cj (fun f=>ado f a) (Oi a) (OP a)
 | (a,b)=>ah (fun f=>VJ f _ _) (aw ae (bC fun hh=>Md _ _ _ _ rfl (aCE hh)))
theorem Yq:∀(r a b t:List kO) (k:Nat),b.drop k=t→r.length=t.length→mq r (a,b,k)=decide (r=t)∧lW r (a,b,k)=true:=by
 refine rM mq lW (fun _ _ _=>⟨rfl,rfl⟩) fun u r a b k v t h=>?_
 simp only[mq,lW,aI h,bl (ag h),mk_eq,aCu];exact⟨by trivial,fun h=>by rw[h];simp⟩
theorem amO:∀a:List kO×List kO,af a.1=true→Oi a=true:=fun a h=>by
 simp only[Oi,fI];by_cases e:a.1.length=a.2.length
 ·rw[(Yq a.1 a.1 a.2 a.2 0 rfl e).2];simp[e];rw[← e];exact aCE h
 ·simp[e]
theorem amP:∀a:List kO×List kO,af a.1=true→OP a=decide (a.1=a.2):=fun a h=>by
 simp only[OP,fI];by_cases e:a.1.length=a.2.length
 ·rw[(Yq a.1 a.1 a.2 a.2 0 rfl e).1];simp[e]
 ·have:¬ a.1=a.2:=fun h=>e (by rw[h])
  simp[e,this]
abbrev Yp:=bm TC amO amP
noncomputable def Pc:db:=⟨76,[.rd yP,.rd yP],[.v (.bool)],fun a=>(fun a=>af a.1:(List (kO))×(List (kO))→Bool) a,fun a=>(fun a=>decide (a.1=a.2):(List (kO))×(List (kO))→Bool) a⟩
theorem WB:Pc.Ok Tryz.prog:=eB (C:=PL) (Lt:=zx) (rs:=[.tmp 4]) mixed aiT Tryz.func76 rfl rfl rfl (by kernel_rfl) (by kernel_rfl) Yp
noncomputable def PR:cR:=⟨Tryz.prog,[],dn [(6,([(0,[]),(1,[]),(2,[]),(3,[]),(4,[]),(5,[]),(6,[]),(7,[]),(8,[])],[(17,25)]))],26,[],[],[],[]⟩
theorem aiY:bp Tryz.prog [] [] []:=aD
def zD:Nat→LD:=ej [(0,⟨[.rd 0 cF,.rd 1 cF,.c 5 (.int .i64)],[],0⟩)]
noncomputable def adt(f:Nat)(a:(List (bR))×(List (bR))):Option (Bool):=(aG (PR) zD (aQ Tryz.prog [.tmp 4] [.v (.bool)]) f [.code (aC Tryz.f77)] (aV [.rd cF,.rd cF] a):Option (aA [.v (.bool)]))
noncomputable def qU(f:Nat)(x:(List (bR))×(List (bR))×Int):Option (Bool):=(aG (PR) zD (aQ Tryz.prog [.tmp 4] [.v (.bool)]) f (aK Tryz.f77 0) ((zD 0).mk' x):Option (aA [.v (.bool)]))
theorem VO(f:Nat)(a:List (bR))(b:List (bR)):adt (f+1) (a,b) =
  bif(↑a.length:Int) != (↑b.length:Int)then some false else qU f (a,b,0):=by kernel_rfl
theorem yq(f:Nat)(a:List (bR))(b:List (bR))(i:Int):qU (f+1) (a,b,i) =
  bif decide (i<(↑a.length:Int))then bif decide (0≤i)&&decide (i<(↑a.length:Int))then bif decide (0≤i)&&decide (i<(↑b.length:Int))then bif !((a.getD i.toNat (0,0)).1 == (b.getD i.toNat (0,0)).1&&((a.getD i.toNat (0,0)).2 == (b.getD i.toNat (0,0)).2&&true))then some false else qU f (a,b,IntKind.i64.wrap (i+1))else none else none else some true:=by kernel_rfl
noncomputable def mw:List (bR)→((List (bR))×(List (bR))×Nat)→Bool
 | [],(a,b,i)=>true
 | uu::rest,(a,b,i)=>bif !(uu.1 == (b.getD (↑i:Int).toNat (0,0)).1&&(uu.2 == (b.getD (↑i:Int).toNat (0,0)).2&&true))then false else mw rest (a,b,i+1)
noncomputable def lY:List (bR)→((List (bR))×(List (bR))×Nat)→Bool
 | [],(a,b,i)=>true
 | uu::rest,(a,b,i)=>decide ((↑i:Int)<(↑b.length:Int))&&bif !(uu.1 == (b.getD (↑i:Int).toNat (0,0)).1&&(uu.2 == (b.getD (↑i:Int).toNat (0,0)).2&&true))then true else lY rest (a,b,i+1)
theorem Mh:∀(rest:List (bR)) (a:List (bR)) (b:List (bR)) (i:Nat) (hd:a.drop i=rest) (hl:a.length≤1099511627776),cj (fun f=>qU f (a,b,((i:Nat):Int))) (lY rest (a,b,i)) (mw rest (a,b,i))
 | [],a,b,i,hd,hl=>ah (fun f=>(yq f _ _ _).trans (by simp only[bW (aY hd),cB,aCw,aCu,aCn,aCq,aCx]<;>rfl)) ae
 | uu::rest,a,b,i,hd,hl=>ah (fun f=>(yq f _ _ _).trans (by simp only[bl (ag hd),aI hd,aM (ag hd) hl,aR (ag hd),cB,aCw,aCu,aCn,aCq,aCx]<;>rfl)) (aE (aw ae (Mh rest _ _ _ (by first | exact aq hd | exact drop_set hd | exact au (drop_set hd)) (by first | exact hl | simpa using hl))))
noncomputable def OS:((List (bR))×(List (bR)))→Bool
 | (a,b)=>bif(↑a.length:Int) != (↑b.length:Int)then false else mw a (a,b,0)
noncomputable def Om:((List (bR))×(List (bR)))→Bool
 | (a,b)=>bif(↑a.length:Int) != (↑b.length:Int)then true else decide (a.length≤1099511627776)&&lY a (a,b,0)
theorem TM:∀a:(List (bR))×(List (bR)),cj (fun f=>adt f a) (Om a) (OS a)
 | (a,b)=>ah (fun f=>VO f _ _) (aw ae (bC fun hh=>Mh _ _ _ _ rfl (aCE hh)))
theorem YF:∀(r a b t:List bR) (k:Nat),b.drop k=t→r.length=t.length→mw r (a,b,k)=decide (r=t)∧lY r (a,b,k)=true:=by
 refine rM mw lY (fun _ _ _=>⟨rfl,rfl⟩) fun u r a b k v t h=>?_
 simp only[mw,lY,aI h,bl (ag h),at7,aCu];exact⟨by trivial,fun h=>by rw[h];simp⟩
theorem am1:∀a:List bR×List bR,af a.1=true→Om a=true:=fun a h=>by
 simp only[Om,fI];by_cases e:a.1.length=a.2.length
 ·rw[(YF a.1 a.1 a.2 a.2 0 rfl e).2];simp[e];rw[← e];exact aCE h
 ·simp[e]
theorem am2:∀a:List bR×List bR,af a.1=true→OS a=decide (a.1=a.2):=fun a h=>by
 simp only[OS,fI];by_cases e:a.1.length=a.2.length
 ·rw[(YF a.1 a.1 a.2 a.2 0 rfl e).1];simp[e]
 ·have:¬ a.1=a.2:=fun h=>e (by rw[h])
  simp[e,this]
abbrev YE:=bm TM am1 am2
noncomputable def Ph:db:=⟨77,[.rd cF,.rd cF],[.v (.bool)],fun a=>(fun a=>af a.1:(List (bR))×(List (bR))→Bool) a,fun a=>(fun a=>decide (a.1=a.2):(List (bR))×(List (bR))→Bool) a⟩
theorem WG:Ph.Ok Tryz.prog:=eB (C:=PR) (Lt:=zD) (rs:=[.tmp 4]) mixed aiY Tryz.func77 rfl rfl rfl (by kernel_rfl) (by kernel_rfl) YE
noncomputable def PK:cR:=⟨Tryz.prog,[Pa],dn [(6,([(0,[]),(1,[]),(2,[]),(3,[]),(4,[]),(5,[]),(6,[]),(7,[]),(8,[]),(9,[])],[(17,26)]))],27,[],[],[],[]⟩
theorem aiQ:bp Tryz.prog [Pa] [] []:=ak Wz (aD)
def zw:Nat→LD:=ej [(0,⟨[.rd 0 cc,.rd 1 cc,.c 5 (.int .i64)],[],0⟩)]
noncomputable def adl(f:Nat)(a:(List (bn))×(List (bn))):Option (Bool):=(aG (PK) zw (aQ Tryz.prog [.tmp 4] [.v (.bool)]) f [.code (aC Tryz.f29)] (aV [.rd cc,.rd cc] a):Option (aA [.v (.bool)]))
noncomputable def qO(f:Nat)(x:(List (bn))×(List (bn))×Int):Option (Bool):=(aG (PK) zw (aQ Tryz.prog [.tmp 4] [.v (.bool)]) f (aK Tryz.f29 0) ((zw 0).mk' x):Option (aA [.v (.bool)]))
theorem VG(f:Nat)(a:List (bn))(b:List (bn)):adl (f+1) (a,b) =
  bif(↑a.length:Int) != (↑b.length:Int)then some false else qO f (a,b,0):=by kernel_rfl
theorem yj(f:Nat)(a:List (bn))(b:List (bn))(i:Int):qO (f+1) (a,b,i) =
  bif decide (i<(↑a.length:Int))then bif decide (0≤i)&&decide (i<(↑a.length:Int))then bif decide (0≤i)&&decide (i<(↑b.length:Int))then bif af (Ax (a.getD i.toNat zq3))then bif !decide (a.getD i.toNat zq3=b.getD i.toNat zq3)then some false else qO f (a,b,IntKind.i64.wrap (i+1))else none else none else none else some true:=by kernel_rfl
noncomputable def mo:List (bn)→((List (bn))×(List (bn))×Nat)→Bool
 | [],(a,b,i)=>true
 | uu::rest,(a,b,i)=>bif !decide (uu=b.getD (↑i:Int).toNat zq3)then false else mo rest (a,b,i+1)
noncomputable def lV:List (bn)→((List (bn))×(List (bn))×Nat)→Bool
 | [],(a,b,i)=>true
 | uu::rest,(a,b,i)=>decide ((↑i:Int)<(↑b.length:Int))&&(af (Ax uu)&&bif !decide (uu=b.getD (↑i:Int).toNat zq3)then true else lV rest (a,b,i+1))
theorem Mc:∀(rest:List (bn)) (a:List (bn)) (b:List (bn)) (i:Nat) (hd:a.drop i=rest) (hl:a.length≤1099511627776),cj (fun f=>qO f (a,b,((i:Nat):Int))) (lV rest (a,b,i)) (mo rest (a,b,i))
 | [],a,b,i,hd,hl=>ah (fun f=>(yj f _ _ _).trans (by simp only[bW (aY hd),cB,aCw,aCu,aCn,aCq,aCx]<;>rfl)) ae
 | uu::rest,a,b,i,hd,hl=>ah (fun f=>(yj f _ _ _).trans (by simp only[bl (ag hd),aI hd,aM (ag hd) hl,aR (ag hd),cB,aCw,aCu,aCn,aCq,aCx]<;>rfl)) (aE (aE (aw ae (Mc rest _ _ _ (by first | exact aq hd | exact drop_set hd | exact au (drop_set hd)) (by first | exact hl | simpa using hl)))))
noncomputable def OO:((List (bn))×(List (bn)))→Bool
 | (a,b)=>bif(↑a.length:Int) != (↑b.length:Int)then false else mo a (a,b,0)
noncomputable def Oh:((List (bn))×(List (bn)))→Bool
 | (a,b)=>bif(↑a.length:Int) != (↑b.length:Int)then true else decide (a.length≤1099511627776)&&lV a (a,b,0)
theorem Tx:∀a:(List (bn))×(List (bn)),cj (fun f=>adl f a) (Oh a) (OO a)
 | (a,b)=>ah (fun f=>VG f _ _) (aw ae (bC fun hh=>Mc _ _ _ _ rfl (aCE hh)))
theorem Yj:∀(r a b t:List bn) (k:Nat),(∀u∈r,af (Ax u)=true)→b.drop k=t→r.length=t.length→mo r (a,b,k)=decide (r=t)∧lV r (a,b,k)=true:=by
 refine td mo lV (fun u=>af (Ax u)=true) (fun _ _ _=>⟨rfl,rfl⟩) fun u r a b k v t hu h=>?_
 simp only[mo,lV,aI h,bl (ag h),hu,aCu];exact⟨by trivial,fun h=>by rw[h];simp⟩
theorem amF:∀a:List bn×List bn,fN a.1=true→Oh a=true:=fun a h=>by
 simp only[Oh,fI];by_cases e:a.1.length=a.2.length
 ·rw[(Yj a.1 a.1 a.2 a.2 0 (fun u hu=>lC h hu) rfl e).2];simp[e];rw[← e];have:=uD h;omega
 ·simp[e]
theorem amG:∀a:List bn×List bn,fN a.1=true→OO a=decide (a.1=a.2):=fun a h=>by
 simp only[OO,fI];by_cases e:a.1.length=a.2.length
 ·rw[(Yj a.1 a.1 a.2 a.2 0 (fun u hu=>lC h hu) rfl e).1];simp[e]
 ·have:¬ a.1=a.2:=fun h=>e (by rw[h])
  simp[e,this]
abbrev Yi:=bm Tx amF amG
noncomputable def O9:db:=⟨29,[.rd cc,.rd cc],[.v (.bool)],fun a=>(fun a=>fN a.1:(List (bn))×(List (bn))→Bool) a,fun a=>(fun a=>decide (a.1=a.2):(List (bn))×(List (bn))→Bool) a⟩
theorem Wy:O9.Ok Tryz.prog:=eB (C:=PK) (Lt:=zw) (rs:=[.tmp 4]) mixed aiQ Tryz.func29 rfl rfl rfl (by kernel_rfl) (by kernel_rfl) Yi
def CZ(id:al):Bool:=dY id&&decide (id.2.2=0)
noncomputable def af0:cR:=⟨Tryz.prog,[nO],dn [],10,[],[],[],[]⟩
theorem ajj:bp Tryz.prog [nO] [] []:=ak sC (aD)
def Sq:Nat→LD:=ej []
noncomputable def adV(f:Nat)(a:al):Option (Bool):=(aG (af0) Sq (aQ Tryz.prog [.tmp 2] [.v (.bool)]) f [.code (aC Tryz.f44)] (aV [.g aH] a):Option (aA [.v (.bool)]))
theorem V9(f:Nat)(id:al):adV (f+1) id =
  bif dY id then some (id.2.2 == 0)else some false:=by kernel_rfl
noncomputable def OZ:al→Bool
 | id=>bif dY id then id.2.2 == 0 else false
noncomputable def acP:al→Bool
 | id=>true
theorem Ui:∀a:al,cj (fun f=>adV f a) (acP a) (OZ a)
 | id=>ah (fun f=>V9 f _) (aT ae ae)
theorem anP:∀a:al,(fun _=>true) a=true→acP a=true:=fun a _=>rfl
theorem anQ:∀a:al,(fun _=>true) a=true→OZ a=CZ a:=fun a _=>by simp only[OZ,CZ,BH];cases dY a<;>rfl
abbrev ZR:=bm Ui anP anQ
noncomputable def Cm:db:=⟨44,[.g aH],[.v (.bool)],fun a=>(fun _=>true:al→Bool) a,fun a=>(CZ:al→Bool) a⟩
theorem EC:Cm.Ok Tryz.prog:=eB (C:=af0) (Lt:=Sq) (rs:=[.tmp 2]) mixed ajj Tryz.func44 rfl rfl rfl (by kernel_rfl) (by kernel_rfl) ZR
noncomputable def afX:cR:=⟨Tryz.prog,[],dn [],9,[],[],[],[]⟩
theorem aje:bp Tryz.prog [] [] []:=aD
def Sn:Nat→LD:=ej []
noncomputable def adN(f:Nat)(a:Int):Option (Bool):=(aG (afX) Sn (aQ Tryz.prog [.tmp 2] [.v (.bool)]) f [.code (aC Tryz.f43)] (aV [.c (.int .i64)] a):Option (aA [.v (.bool)]))
theorem V4(f:Nat)(n:Int):adN (f+1) n =
  bif decide (n≥0)then some (decide (n<16))else some false:=by kernel_rfl
noncomputable def OX:Int→Bool
 | n=>bif decide (n≥0)then decide (n<16)else false
noncomputable def acL:Int→Bool
 | n=>true
theorem Ua:∀a:Int,cj (fun f=>adN f a) (acL a) (OX a)
 | n=>ah (fun f=>V4 f _) (aT ae ae)
theorem anB:∀a:Int,(fun _=>true) a=true→acL a=true:=fun a _=>rfl
theorem anC:∀a:Int,(fun _=>true) a=true→OX a=(decide (0≤a)&&decide (a<16)):=fun a _=>by simp only[OX,ge_iff_le];cases decide (0≤a)<;>rfl
abbrev Zz:=bm Ua anB anC
noncomputable def Ch:db:=⟨43,[.c (.int .i64)],[.v (.bool)],fun a=>(fun _=>true:Int→Bool) a,fun a=>(fun a=>decide (0≤a)&&decide (a<16):Int→Bool) a⟩
theorem Ez:Ch.Ok Tryz.prog:=eB (C:=afX) (Lt:=Sn) (rs:=[.tmp 2]) mixed aje Tryz.func43 rfl rfl rfl (by kernel_rfl) (by kernel_rfl) Zz
noncomputable def af8:cR:=⟨Tryz.prog,[],dn [],9,[],[],[],[]⟩
theorem aju:bp Tryz.prog [] [] []:=aD
def Sx:Nat→LD:=ej []
noncomputable def aeb(f:Nat)(a:Int):Option (Bool):=(aG (af8) Sx (aQ Tryz.prog [.tmp 2] [.v (.bool)]) f [.code (aC Tryz.f46)] (aV [.c (.int .i64)] a):Option (aA [.v (.bool)]))
theorem Wk(f:Nat)(n:Int):aeb (f+1) n =
  bif decide (n≥0)then some (decide (n<32))else some false:=by kernel_rfl
noncomputable def O3:Int→Bool
 | n=>bif decide (n≥0)then decide (n<32)else false
noncomputable def acW:Int→Bool
 | n=>true
theorem U5:∀a:Int,cj (fun f=>aeb f a) (acW a) (O3 a)
 | n=>ah (fun f=>Wk f _) (aT ae ae)
theorem apO:∀a:Int,(fun _=>true) a=true→acW a=true:=fun a _=>rfl
theorem apP:∀a:Int,(fun _=>true) a=true→O3 a=(decide (0≤a)&&decide (a<32)):=fun a _=>by simp only[O3,ge_iff_le];cases decide (0≤a)<;>rfl
abbrev abR:=bm U5 apO apP
noncomputable def PF:db:=⟨46,[.c (.int .i64)],[.v (.bool)],fun a=>(fun _=>true:Int→Bool) a,fun a=>(fun a=>decide (0≤a)&&decide (a<32):Int→Bool) a⟩
theorem W4:PF.Ok Tryz.prog:=eB (C:=af8) (Lt:=Sx) (rs:=[.tmp 2]) mixed aju Tryz.func46 rfl rfl rfl (by kernel_rfl) (by kernel_rfl) abR
noncomputable def S7:cR:=⟨Tryz.prog,[],dn [],9,[],[],[],[]⟩
theorem abv:bp Tryz.prog [] [] []:=aD
def LQ:Nat→LD:=ej []
noncomputable def R8(f:Nat)(a:Int):Option (Bool):=(aG (S7) LQ (aQ Tryz.prog [.tmp 2] [.v (.bool)]) f [.code (aC Tryz.f45)] (aV [.c (.int .i64)] a):Option (aA [.v (.bool)]))
theorem OJ(f:Nat)(e:Int):R8 (f+1) e =
  bif decide (e≥0)then some (decide (e≤99))else some false:=by kernel_rfl
noncomputable def Hb:Int→Bool
 | e=>bif decide (e≥0)then decide (e≤99)else false
noncomputable def RT:Int→Bool
 | e=>true
theorem NU:∀a:Int,cj (fun f=>R8 f a) (RT a) (Hb a)
 | e=>ah (fun f=>OJ f _) (aT ae ae)
theorem aiG:∀a:Int,(fun _=>true) a=true→RT a=true:=fun a _=>rfl
theorem aiH:∀a:Int,(fun _=>true) a=true→Hb a=(decide (0≤a)&&decide (a≤99)):=fun a _=>by simp only[Hb,ge_iff_le];cases decide (0≤a)<;>rfl
abbrev UU:=bm NU aiG aiH
noncomputable def Hk:db:=⟨45,[.c (.int .i64)],[.v (.bool)],fun a=>(fun _=>true:Int→Bool) a,fun a=>(fun a=>decide (0≤a)&&decide (a≤99):Int→Bool) a⟩
theorem PD:Hk.Ok Tryz.prog:=eB (C:=S7) (Lt:=LQ) (rs:=[.tmp 2]) mixed abv Tryz.func45 rfl rfl rfl (by kernel_rfl) (by kernel_rfl) UU
def Fz(ops:Bool)(l:List al):Bool:=l.all fun u=>dY u&&(!ops || decide (u.2.2=0))
noncomputable def PY:cR:=⟨Tryz.prog,[nO],dn [],29,[],[],[],[]⟩
theorem ajo:bp Tryz.prog [nO] [] []:=ak sC (aD)
def zL:Nat→LD:=ej [(0,⟨[.rd 0 aH,.c 1 (.bool),.c 5 (.int .i64)],[],0⟩)]
noncomputable def ad1(f:Nat)(a:(List (al))×Bool):Option (Bool):=(aG (PY) zL (aQ Tryz.prog [.tmp 4] [.v (.bool)]) f [.code (aC Tryz.f41)] (aV [.rd aH,.c (.bool)] a):Option (aA [.v (.bool)]))
noncomputable def jP(f:Nat)(x:(List (al))×Bool×Int):Option (Bool):=(aG (PY) zL (aQ Tryz.prog [.tmp 4] [.v (.bool)]) f (aK Tryz.f41 0) ((zL 0).mk' x):Option (aA [.v (.bool)]))
theorem We(f:Nat)(l:List (al))(ops:Bool):ad1 (f+1) (l,ops) =
  jP f (l,ops,0):=by kernel_rfl
theorem yG(f:Nat)(l:List (al))(ops:Bool)(i:Int):jP (f+1) (l,ops,i) =
  bif decide (i<(↑l.length:Int))then bif decide (0≤i)&&decide (i<(↑l.length:Int))then bif !dY (l.getD i.toNat (0,0,0))then some false else bif ops then bif decide (0≤i)&&decide (i<(↑l.length:Int))then bif(l.getD i.toNat (0,0,0)).2.2 != 0 then some false else jP f (l,ops,IntKind.i64.wrap (i+1))else none else jP f (l,ops,IntKind.i64.wrap (i+1))else none else some true:=by kernel_rfl
noncomputable def mC:List (al)→((List (al))×Bool×Nat)→Bool
 | [],(l,ops,i)=>true
 | uu::rest,(l,ops,i)=>bif !dY uu then false else bif ops then bif uu.2.2 != 0 then false else mC rest (l,ops,i+1)else mC rest (l,ops,i+1)
noncomputable def l6:List (al)→((List (al))×Bool×Nat)→Bool
 | [],(l,ops,i)=>true
 | uu::rest,(l,ops,i)=>bif !dY uu then true else bif ops then bif uu.2.2 != 0 then true else l6 rest (l,ops,i+1)else l6 rest (l,ops,i+1)
theorem CA:∀(rest:List (al)) (l:List (al)) (ops:Bool) (i:Nat) (hd:l.drop i=rest) (hl:l.length≤9223372036854775807),cj (fun f=>jP f (l,ops,((i:Nat):Int))) (l6 rest (l,ops,i)) (mC rest (l,ops,i))
 | [],l,ops,i,hd,hl=>ah (fun f=>(yG f _ _ _).trans (by simp only[bW (aY hd),cB,aCw,aCu,aCn,aCq,aCx]<;>rfl)) ae
 | uu::rest,l,ops,i,hd,hl=>ah (fun f=>(yG f _ _ _).trans (by simp only[bl (ag hd),aI hd,jh (ag hd) hl,aR (ag hd),cB,aCw,aCu,aCn,aCq,aCx]<;>rfl)) (aw ae (aw (aw ae (CA rest _ _ _ (by first | exact aq hd | exact drop_set hd | exact au (drop_set hd)) (by first | exact hl | simpa using hl))) (CA rest _ _ _ (by first | exact aq hd | exact drop_set hd | exact au (drop_set hd)) (by first | exact hl | simpa using hl))))
noncomputable def O1:((List (al))×Bool)→Bool
 | (l,ops)=>mC l (l,ops,0)
noncomputable def Ov:((List (al))×Bool)→Bool
 | (l,ops)=>decide (l.length≤9223372036854775807)&&l6 l (l,ops,0)
theorem UB:∀a:(List (al))×Bool,cj (fun f=>ad1 f a) (Ov a) (O1 a)
 | (l,ops)=>ah (fun f=>We f _ _) (bC fun hh=>CA _ _ _ _ rfl (aCE hh))
theorem Nz(ops:Bool):∀(r l:List al) (k:Nat),mC r (l,ops,k)=Fz ops r∧l6 r (l,ops,k)=true
 | [],l,k=>⟨rfl,rfl⟩
 | u::r,l,k=>by
  obtain⟨i1,i2⟩:=Nz ops r l (k+1);simp only[mC,l6,i1,i2,Gm];rw[show Fz ops (u::r)=(dY u&&(!ops || decide (u.2.2=0))&&Fz ops r)from rfl];constructor<;>(cases dY u<;>cases ops<;>cases decide (u.2.2=0)<;>simp)
theorem aoj:∀a:List al×Bool,decide (a.1.length≤9223372036854775807)=true→Ov a=true:=fun a h=>by simp only[Ov,(Nz _ _ _ _).2,aCT];exact h
theorem aok:∀a:List al×Bool,decide (a.1.length≤9223372036854775807)=true→O1 a=Fz a.2 a.1:=fun a h=>by simp only[O1,(Nz _ _ _ _).1]
abbrev aav:=bm UB aoj aok
noncomputable def PB:db:=⟨41,[.rd aH,.c (.bool)],[.v (.bool)],fun a=>(fun a=>decide (a.1.length≤9223372036854775807):(List (al))×Bool→Bool) a,fun a=>(fun a=>Fz a.2 a.1:(List (al))×Bool→Bool) a⟩
theorem WX:PB.Ok Tryz.prog:=eB (C:=PY) (Lt:=zL) (rs:=[.tmp 4]) mixed ajo Tryz.func41 rfl rfl rfl (by kernel_rfl) (by kernel_rfl) aav
noncomputable def afM:cR:=⟨Tryz.prog,[],dn [],8,[],[],[],[]⟩
theorem ai3:bp Tryz.prog [] [] []:=aD
def Sf:Nat→LD:=ej []
noncomputable def ady(f:Nat)(a:bA):Option (Rg):=(aG (afM) Sf (aQ Tryz.prog [.cell 2 72] [.g s8]) f [.code (aC Tryz.f64)] (aV [.g dB] a):Option (aA [.g s8]))
theorem VT(f:Nat)(r:bA):ady (f+1) r =
  some (r.1,r.2.1):=by kernel_rfl
noncomputable def aeE:bA→Rg
 | r=>(r.1,r.2.1)
noncomputable def acC:bA→Bool
 | r=>true
theorem TU:∀a:bA,cj (fun f=>ady f a) (acC a) (aeE a)
 | r=>ah (fun f=>VT f _) ae
theorem anb:∀a:bA,(fun _=>true) a=true→acC a=true:=fun a _=>rfl
theorem ane:∀a:bA,(fun _=>true) a=true→aeE a=(a.1,a.2.1):=fun a _=>rfl
abbrev YQ:=bm TU anb ane
noncomputable def Po:db:=⟨64,[.g dB],[.g s8],fun a=>(fun _=>true:bA→Bool) a,fun a=>(fun a=>(a.1,a.2.1):bA→Rg) a⟩
theorem WK:Po.Ok Tryz.prog:=eB (C:=afM) (Lt:=Sf) (rs:=[.cell 2 72]) mixed ai3 Tryz.func64 rfl rfl rfl (by kernel_rfl) (by kernel_rfl) YQ
def wR(l:List bA)(r:Rg):Int:=aL (fun g=>contains ((g.1,g.2.1),r)) l 0
noncomputable def afR:cR:=⟨Tryz.prog,[Po,Hj],dn [(4,([(0,[]),(1,[]),(2,[]),(3,[]),(5,[]),(4,[]),(6,[])],[(12,18)]))],20,[],[],[],[]⟩
theorem apq:bp Tryz.prog [Po,Hj] [] []:=ak WK (ak Px (aD))
def GS:Nat→LD:=ej [(0,⟨[.rd 0 dB,.box 3 3 72 2 s8,.c 5 (.int .i64)],[],0⟩)]
noncomputable def alN(f:Nat)(a:(List (bA))×Rg):Option (Int):=(aG (afR) GS (aQ Tryz.prog [.tmp 4] [.v (.int .i64)]) f [.code (aC Tryz.f22)] (aV [.rd dB,.g s8] a):Option (aA [.v (.int .i64)]))
noncomputable def v8(f:Nat)(x:(List (bA))×Rg×Int):Option (Int):=(aG (afR) GS (aQ Tryz.prog [.tmp 4] [.v (.int .i64)]) f (aK Tryz.f22 0) ((GS 0).mk' x):Option (aA [.v (.int .i64)]))
theorem adG(f:Nat)(l:List (bA))(r:Rg):alN (f+1) (l,r) =
  v8 f (l,r,0):=by kernel_rfl
theorem B1(f:Nat)(l:List (bA))(r:Rg)(i:Int):v8 (f+1) (l,r,i) =
  bif decide (i<(↑l.length:Int))then bif decide (0≤i)&&decide (i<(↑l.length:Int))then bif contains (((l.getD i.toNat (0,0,false)).1,(l.getD i.toNat (0,0,false)).2.1),r)then some i else v8 f (l,r,IntKind.i64.wrap (i+1))else none else some (-1):=by kernel_rfl
noncomputable def wu:List (bA)→((List (bA))×Rg×Nat)→Int
 | [],(l,r,i)=>-1
 | uu::rest,(l,r,i)=>bif contains ((uu.1,uu.2.1),r)then(↑i:Int)else wu rest (l,r,i+1)
noncomputable def vE:List (bA)→((List (bA))×Rg×Nat)→Bool
 | [],(l,r,i)=>true
 | uu::rest,(l,r,i)=>bif contains ((uu.1,uu.2.1),r)then true else vE rest (l,r,i+1)
theorem Tb:∀(rest:List (bA)) (l:List (bA)) (r:Rg) (i:Nat) (hd:l.drop i=rest) (hl:l.length≤1099511627776),cj (fun f=>v8 f (l,r,((i:Nat):Int))) (vE rest (l,r,i)) (wu rest (l,r,i))
 | [],l,r,i,hd,hl=>ah (fun f=>(B1 f _ _ _).trans (by simp only[bW (aY hd),cB,aCw,aCu,aCn,aCq,aCx]<;>rfl)) ae
 | uu::rest,l,r,i,hd,hl=>ah (fun f=>(B1 f _ _ _).trans (by simp only[bl (ag hd),aI hd,aM (ag hd) hl,aR (ag hd),cB,aCw,aCu,aCn,aCq,aCx]<;>rfl)) (aw ae (Tb rest _ _ _ (by first | exact aq hd | exact drop_set hd | exact au (drop_set hd)) (by first | exact hl | simpa using hl)))
noncomputable def aeI:((List (bA))×Rg)→Int
 | (l,r)=>wu l (l,r,0)
noncomputable def acG:((List (bA))×Rg)→Bool
 | (l,r)=>decide (l.length≤1099511627776)&&vE l (l,r,0)
theorem Zb:∀a:(List (bA))×Rg,cj (fun f=>alN f a) (acG a) (aeI a)
 | (l,r)=>ah (fun f=>adG f _ _) (bC fun hh=>Tb _ _ _ _ rfl (aCE hh))
theorem Ze(l:List bA)(rr:Rg):∀(r:List bA) (k:Nat),wu r (l,rr,k)=aL (fun g=>contains ((g.1,g.2.1),rr)) r k∧vE r (l,rr,k)=true
 | [],k=>⟨rfl,rfl⟩
 | u::r,k=>by
  obtain⟨i1,i2⟩:=Ze l rr r (k+1);simp only[wu,vE,aL,i1,i2];constructor<;>(cases contains ((u.1,u.2.1),rr)<;>rfl)
theorem ar2:∀a:List bA×Rg,af a.1=true→acG a=true:=fun a h=>by simp only[acG,(Ze _ _ _ _).2,aCT];exact h
theorem ar3:∀a:List bA×Rg,af a.1=true→aeI a=wR a.1 a.2:=fun a h=>by simp only[aeI,(Ze _ _ _ _).1];rfl
abbrev ahx:=bm Zb ar2 ar3
noncomputable def afm:db:=⟨22,[.rd dB,.g s8],[.v (.int .i64)],fun a=>(fun a=>af a.1:(List (bA))×Rg→Bool) a,fun a=>(fun a=>wR a.1 a.2:(List (bA))×Rg→Int) a⟩
theorem afl:afm.Ok Tryz.prog:=eB (C:=afR) (Lt:=GS) (rs:=[.tmp 4]) mixed apq Tryz.func22 rfl rfl rfl (by kernel_rfl) (by kernel_rfl) ahx
def rgP(l:List bA)(r:Rg):Int×Bool:=bif decide (wR l r≥0)then(wR l r,true)else(0,false)
noncomputable def afZ:cR:=⟨Tryz.prog,[PG],dn [],24,[],[],[],[]⟩
theorem apt:bp Tryz.prog [PG] [] []:=ak W6 (aD)
def GV:Nat→LD:=ej [(0,⟨[.box 3 3 72 2 s8,.rd 8 dB,.c 9 (.int .i64),.c 10 (.int .i64)],[],0⟩)]
noncomputable def alP(f:Nat)(a:(List (bA))×Rg):Option (Int×Bool):=(aG (afZ) GV (aQ Tryz.prog [.tmp 4,.tmp 5] [.v (.int .i64),.v (.bool)]) f [.code (aC Tryz.f59)] (aV [.rd dB,.g s8] a):Option (aA [.v (.int .i64),.v (.bool)]))
noncomputable def wc(f:Nat)(x:Rg×(List (bA))×Int×Int):Option (Int×Bool):=(aG (afZ) GV (aQ Tryz.prog [.tmp 4,.tmp 5] [.v (.int .i64),.v (.bool)]) f (aK Tryz.f59 0) ((GV 0).mk' x):Option (aA [.v (.int .i64),.v (.bool)]))
theorem adT(f:Nat)(l:List (bA))(r:Rg):alP (f+1) (l,r) =
  wc f (r,l,(↑l.length:Int),0):=by kernel_rfl
theorem B6(f:Nat)(r:Rg)(x8:List (bA))(x9:Int)(dh:Int):wc (f+1) (r,x8,x9,dh) =
  bif decide (dh<x9)then bif decide (0≤dh)&&decide (dh<(↑x8.length:Int))then bif contains (((x8.getD dh.toNat (0,0,false)).1,(x8.getD dh.toNat (0,0,false)).2.1),r)then some (dh,true)else wc f (r,x8,x9,IntKind.i64.wrap (dh+1))else none else some (0,false):=by kernel_rfl
noncomputable def wy:List (bA)→(Rg×(List (bA))×Int×Nat)→Int×Bool
 | [],(r,x8,x9,dh)=>(0,false)
 | uu::rest,(r,x8,x9,dh)=>bif contains ((uu.1,uu.2.1),r)then((↑dh:Int),true)else wy rest (r,x8,x9,dh+1)
noncomputable def vH:List (bA)→(Rg×(List (bA))×Int×Nat)→Bool
 | [],(r,x8,x9,dh)=>true
 | uu::rest,(r,x8,x9,dh)=>bif contains ((uu.1,uu.2.1),r)then true else vH rest (r,x8,x9,dh+1)
theorem Tf:∀(rest:List (bA)) (r:Rg) (x8:List (bA)) (x9:Int) (dh:Nat) (hd:x8.drop dh=rest) (hn:x9=((x8.length:Nat):Int)) (hl:x8.length≤1099511627776),cj (fun f=>wc f (r,x8,x9,((dh:Nat):Int))) (vH rest (r,x8,x9,dh)) (wy rest (r,x8,x9,dh))
 | [],r,x8,x9,dh,hd,hn,hl=>ah (fun f=>(B6 f _ _ _ _).trans (by simp only[iR hn (aY hd),cB,aCw,aCu,aCn,aCq,aCx]<;>rfl)) ae
 | uu::rest,r,x8,x9,dh,hd,hn,hl=>ah (fun f=>(B6 f _ _ _ _).trans (by simp only[iO hn (ag hd),bl (ag hd),aI hd,aM (ag hd) hl,aR (ag hd),cB,aCw,aCu,aCn,aCq,aCx]<;>rfl)) (aw ae (Tf rest _ _ _ _ (by first | exact aq hd | exact drop_set hd | exact au (drop_set hd)) (by first | exact hn | simpa using hn) (by first | exact hl | simpa using hl)))
noncomputable def aeN:((List (bA))×Rg)→Int×Bool
 | (l,r)=>wy l (r,l,(↑l.length:Int),0)
noncomputable def acO:((List (bA))×Rg)→Bool
 | (l,r)=>decide (l.length≤1099511627776)&&vH l (r,l,(↑l.length:Int),0)
theorem ZI:∀a:(List (bA))×Rg,cj (fun f=>alP f a) (acO a) (aeN a)
 | (l,r)=>ah (fun f=>adT f _ _) (bC fun hh=>Tf _ _ _ _ _ rfl (by first | rfl | simp) (aCE hh))
theorem ZJ(l:List bA)(n:Int)(rr:Rg):∀(r:List bA) (k:Nat),wy r (rr,l,n,k)=(bif decide (aL (fun g=>contains ((g.1,g.2.1),rr)) r k≥0)then(aL (fun g=>contains ((g.1,g.2.1),rr)) r k,true)else(0,false))∧vH r (rr,l,n,k)=true
 | [],k=>⟨rfl,rfl⟩
 | u::r,k=>by
  obtain⟨i1,i2⟩:=ZJ l n rr r (k+1);simp only[wy,vH,aL,i1,i2];rcases Bool.eq_false_or_eq_true (contains ((u.1,u.2.1),rr))with hc | hc
  ·simp only[hc,aCn,aCm (show((k:Nat):Int)≥0 by omega),and_self]
  ·simp only[hc,aCq]
   exact⟨rfl,trivial⟩
theorem ar9:∀a:List bA×Rg,af a.1=true→acO a=true:=fun a h=>by simp only[acO,(ZJ _ _ _ _ _).2,aCT];exact h
theorem asa:∀a:List bA×Rg,af a.1=true→aeN a=rgP a.1 a.2:=fun a h=>by simp only[aeN,(ZJ _ _ _ _ _).1];rfl
abbrev ahF:=bm ZI ar9 asa
noncomputable def auo:db:=⟨59,[.rd dB,.g s8],[.v (.int .i64),.v (.bool)],fun a=>(fun a=>af a.1:(List (bA))×Rg→Bool) a,fun a=>(fun a=>rgP a.1 a.2:(List (bA))×Rg→Int×Bool) a⟩
theorem afo:auo.Ok Tryz.prog:=eB (C:=afZ) (Lt:=GV) (rs:=[.tmp 4,.tmp 5]) mixed apt Tryz.func59 rfl rfl rfl (by kernel_rfl) (by kernel_rfl) ahF
