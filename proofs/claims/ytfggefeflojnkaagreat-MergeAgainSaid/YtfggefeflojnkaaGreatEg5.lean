/- AI. -/
import Derived.Test.YtfggefeflojnkaaGreatEg3
set_option linter.unusedSimpArgs false
set_option linter.unusedVariables false
open Go.IntKind (i64 u64)
noncomputable section
namespace Go.AL
open Go.Proofs
abbrev bg:List Ty:=[zI,zI,zI,.sl aE,zI,zI,zI,zI,zI,zI,.bool,zI,zI,zI,zI]
abbrev aL:=Int×Int×Int×(List aj)×Int×Int×Int×Int×Int×Int×Bool×Int×Int×Int×Int
def xH(s:aL):aj:=(s.1,s.2.1,s.2.2.1)
def snd(s:aL):cu:=(s.1,s.2.1,s.2.2.1,s.2.2.2.1,s.2.2.2.2.1,s.2.2.2.2.2.1,s.2.2.2.2.2.2.1,s.2.2.2.2.2.2.2.1,s.2.2.2.2.2.2.2.2.1,s.2.2.2.2.2.2.2.2.2.1,s.2.2.2.2.2.2.2.2.2.2.1)
def Ju(s:aL):Int:=s.2.2.2.2.2.2.2.2.2.2.2.1
def nU(s:aL):aj:=s.2.2.2.2.2.2.2.2.2.2.2.2
def Ys(n:cu)(op:Int)(lk:aj):aL:=(n.1,n.2.1,n.2.2.1,n.2.2.2.1,n.2.2.2.2.1,n.2.2.2.2.2.1,n.2.2.2.2.2.2.1,n.2.2.2.2.2.2.2.1,n.2.2.2.2.2.2.2.2.1,n.2.2.2.2.2.2.2.2.2.1,n.2.2.2.2.2.2.2.2.2.2,op,lk)
instance awh:DecidableEq aL:=@instDecidableEqProd Int _ _ (@instDecidableEqProd Int _ _ (@instDecidableEqProd Int _ _ (@instDecidableEqProd (List aj) _ _ (@instDecidableEqProd Int _ _ (@instDecidableEqProd Int _ _ (@instDecidableEqProd Int _ _ (@instDecidableEqProd Int _ _ (@instDecidableEqProd Int _ _ (@instDecidableEqProd Int _ _ (@instDecidableEqProd Bool _ _ (@instDecidableEqProd Int aj _ inferInstance)))))))))))
def ct(l:List aL):Bool:=decide (l.length≤68719476736)&&l.all fun s=>af s.2.2.2.1
theorem fD{l:List aL}(h:ct l=true):l.length≤68719476736:=by
 simp only[ct,azF,azM]at h;exact h.1
theorem gk{l:List aL}(h:ct l=true){s:aL}(hs:s∈l):af s.2.2.2.1=true:=by
 simp only[ct,azF]at h;exact azU.1 h.2 s hs
theorem uo{l:List aL}(h1:l.length≤68719476736)(h2:∀s∈l,af s.2.2.2.1=true):ct l=true:=by
 simp only[ct,azF,azM];exact⟨h1,azU.2 h2⟩
def cB(s:aL):Bool:=decide (xH s=(0,0,0))
def ad5:cX:=zC [] (dE []) 8
def abD(f:Nat)(a:aL):Option Bool:=aG ad5 (eO []) (zK [.tmp 2] [.v .bool]) f [.code (aB Tryz.f25)] (aQ [.g bg] a)
theorem UZ(f:Nat)(s:aL):abD (f+1) s =
  some (s.1 == 0&&(s.2.1 == 0&&(s.2.2.1 == 0&&true))):=by kernel_rfl
def acH:aL→Bool
 | s=>s.1 == 0&&(s.2.1 == 0&&(s.2.2.1 == 0&&true))
def aaU:aL→Bool
 | s=>true
theorem Te:∀a:aL,de (fun f=>abD f a) (aaU a) (acH a)
 | s=>ai (fun f=>UZ f _) ae
theorem akP:∀a,(fun _=>true) a=true→acH a=cB a:=fun a _=>id_eq (xH a) (0,0,0)
def Hp:dn:=⟨25,[.g bg],[.v .bool],fun _=>true,cB⟩
theorem E3:zO Hp:=fl ad5 (eO []) [.tmp 2] mixed (aC) Tryz.func25 (bp Te (fun _ _=>rfl) akP)
def ajU:cX:=zC [] (dE []) 8
def ajk(f:Nat)(a:aL):Option Bool:=aG ajU (eO []) (zK [.tmp 2] [.v .bool]) f [.code (aB Tryz.f89)] (aQ [.g bg] a)
theorem ab3(f:Nat)(s:aL):ajk (f+1) s =
  some (s.1 == 0&&(s.2.1 == 0&&(s.2.2.1 == 0&&true))):=by kernel_rfl
def ajy:aL→Bool
 | s=>s.1 == 0&&(s.2.1 == 0&&(s.2.2.1 == 0&&true))
def aiV:aL→Bool
 | s=>true
theorem ZS:∀a:aL,de (fun f=>ajk f a) (aiV a) (ajy a)
 | s=>ai (fun f=>ab3 f _) ae
theorem aqO:∀a,(fun _=>true) a=true→ajy a=cB a:=fun a _=>id_eq (xH a) (0,0,0)
def E6:dn:=⟨89,[.g bg],[.v .bool],fun _=>true,cB⟩
theorem wh:zO E6:=fl ajU (eO []) [.tmp 2] mixed (aC) Tryz.func89 (bp ZS (fun _ _=>rfl) aqO)
theorem asM(a b:aL):decide (a=b)=(decide (Ju a=Ju b)&&(decide (nU a=nU b)&&decide (snd a=snd b))):=by
 rw[aBM];simp only[azF,azM];constructor
 ·rintro rfl;exact⟨rfl,rfl,rfl⟩
 ·rintro⟨h1,h2,h3⟩
  obtain⟨a1,a2,a3,a4,a5,a6,a7,a8,a9,a10,a11,a12,a13⟩:=a;obtain⟨b1,b2,b3,b4,b5,b6,b7,b8,b9,b10,b11,b12,b13⟩:=b;simp only[Ju,nU,snd,azY]at h1 h2 h3;simp only[azY];exact⟨h3.1,h3.2.1,h3.2.2.1,h3.2.2.2.1,h3.2.2.2.2.1,h3.2.2.2.2.2.1,h3.2.2.2.2.2.2.1,h3.2.2.2.2.2.2.2.1,h3.2.2.2.2.2.2.2.2.1,h3.2.2.2.2.2.2.2.2.2.1,h3.2.2.2.2.2.2.2.2.2.2,h1,h2⟩
theorem aez{α:Type}[DecidableEq α](F P:List α→List α×List α×Nat→Bool)(C:α→Prop)
  (h0:∀a b k,F [] (a,b,k)=true∧P [] (a,b,k)=true)
  (h1:∀u r a b k v t,C u→b.drop k=v::t→F (u::r) (a,b,k)=(bif !decide (u=v)then false else F r (a,b,k+1))∧(P r (a,b,k+1)=true→P (u::r) (a,b,k)=true)) :
  ∀(r a b t:List α) (k:Nat),(∀u∈r,C u)→b.drop k=t→r.length=t.length→F r (a,b,k)=decide (r=t)∧P r (a,b,k)=true
 | [],a,b,[],k,hC,h,e=>by simp[h0]
 | [],a,b,v::t,k,hC,h,e=>by simp at e
 | u::r,a,b,[],k,hC,h,e=>by simp at e
 | u::r,a,b,v::t,k,hC,h,e=>by
  obtain⟨i1,i2⟩:=aez F P C h0 h1 r a b t (k+1) (fun x hx=>hC x (az6 _ hx)) (aH h) (by simpa using e);obtain⟨j1,j2⟩:=h1 u r a b k v t (hC u (az1 ..)) h;refine⟨?_,j2 i2⟩;rw[j1,i1];by_cases h:u=v
  ·simp[h]
  ·simp[h]
def alI:cX:=zC [Hm] (dE [(6,([(0,[]),(1,[]),(2,[]),(3,[]),(4,[]),(5,[]),(6,[]),(7,[]),(8,[]),(9,[]),(10,[]),(11,[]),(12,[]),(13,[]),(14,[]),(15,[]),(16,[]),(17,[]),(18,[]),(19,[]),(20,[]),(21,[]),(22,[]),(23,[]),(24,[]),(25,[]),(26,[]),(27,[]),(28,[]),(29,[]),(30,[]),(31,[]),(32,[]),(33,[]),(34,[]),(35,[]),(36,[]),(37,[])],[(17,54)]))]) 55
def agv:Nat→LD:=eO [(0,⟨[.rd 0 bg,.rd 1 bg,.c 5 (zI)],[],0⟩)]
def aqh(f:Nat)(a:(List aL)×(List aL)):Option Bool:=aG alI agv (zK [.tmp 4] [.v .bool]) f [.code (aB Tryz.f28)] (aQ [.rd bg,.rd bg] a)
def afM(f:Nat)(x:(List aL)×(List aL)×Int):Option Bool:=aG alI agv (zK [.tmp 4] [.v .bool]) f (aV Tryz.f28 0) ((agv 0).mk' x)
theorem aiK(f:Nat)(a b:List aL):aqh (f+1) (a,b) =
  bif(↑a.length:Int) != (↑b.length:Int)then some false else afM f (a,b,0):=by kernel_rfl
theorem agi(f:Nat)(a b:List aL)(i:Int):afM (f+1) (a,b,i) =
  bif decide (i<(↑a.length:Int))then bif decide (0≤i)&&decide (i<(↑a.length:Int))then bif decide (0≤i)&&decide (i<(↑b.length:Int))then bif(a.getD i.toNat zq2).2.2.2.2.2.2.2.2.2.2.2.1 != (b.getD i.toNat zq2).2.2.2.2.2.2.2.2.2.2.2.1 then some false else bif decide (0≤i)&&decide (i<(↑a.length:Int))then bif decide (0≤i)&&decide (i<(↑b.length:Int))then bif !((a.getD i.toNat zq2).2.2.2.2.2.2.2.2.2.2.2.2.1 == (b.getD i.toNat zq2).2.2.2.2.2.2.2.2.2.2.2.2.1&&((a.getD i.toNat zq2).2.2.2.2.2.2.2.2.2.2.2.2.2.1 == (b.getD i.toNat zq2).2.2.2.2.2.2.2.2.2.2.2.2.2.1&&((a.getD i.toNat zq2).2.2.2.2.2.2.2.2.2.2.2.2.2.2 == (b.getD i.toNat zq2).2.2.2.2.2.2.2.2.2.2.2.2.2.2&&true)))then some false else bif decide (0≤i)&&decide (i<(↑a.length:Int))then bif decide (0≤i)&&decide (i<(↑b.length:Int))then bif af (a.getD i.toNat zq2).2.2.2.1 then bif !decide (((a.getD i.toNat zq2).1,(a.getD i.toNat zq2).2.1,(a.getD i.toNat zq2).2.2.1,(a.getD i.toNat zq2).2.2.2.1,(a.getD i.toNat zq2).2.2.2.2.1,(a.getD i.toNat zq2).2.2.2.2.2.1,(a.getD i.toNat zq2).2.2.2.2.2.2.1,(a.getD i.toNat zq2).2.2.2.2.2.2.2.1,(a.getD i.toNat zq2).2.2.2.2.2.2.2.2.1,(a.getD i.toNat zq2).2.2.2.2.2.2.2.2.2.1,(a.getD i.toNat zq2).2.2.2.2.2.2.2.2.2.2.1)=((b.getD i.toNat zq2).1,(b.getD i.toNat zq2).2.1,(b.getD i.toNat zq2).2.2.1,(b.getD i.toNat zq2).2.2.2.1,(b.getD i.toNat zq2).2.2.2.2.1,(b.getD i.toNat zq2).2.2.2.2.2.1,(b.getD i.toNat zq2).2.2.2.2.2.2.1,(b.getD i.toNat zq2).2.2.2.2.2.2.2.1,(b.getD i.toNat zq2).2.2.2.2.2.2.2.2.1,(b.getD i.toNat zq2).2.2.2.2.2.2.2.2.2.1,(b.getD i.toNat zq2).2.2.2.2.2.2.2.2.2.2.1))then some false else afM f (a,b,i64.wrap (i+1))else none else none else none else none else none else none else none else some true:=by kernel_rfl
def aeu:List aL→((List aL)×(List aL)×Nat)→Bool
 | [],(a,b,i)=>true
 | uu::rest,(a,b,i)=>bif uu.2.2.2.2.2.2.2.2.2.2.2.1 != (b.getD (↑i:Int).toNat zq2).2.2.2.2.2.2.2.2.2.2.2.1 then false else bif !(uu.2.2.2.2.2.2.2.2.2.2.2.2.1 == (b.getD (↑i:Int).toNat zq2).2.2.2.2.2.2.2.2.2.2.2.2.1&&(uu.2.2.2.2.2.2.2.2.2.2.2.2.2.1 == (b.getD (↑i:Int).toNat zq2).2.2.2.2.2.2.2.2.2.2.2.2.2.1&&(uu.2.2.2.2.2.2.2.2.2.2.2.2.2.2 == (b.getD (↑i:Int).toNat zq2).2.2.2.2.2.2.2.2.2.2.2.2.2.2&&true)))then false else bif !decide ((uu.1,uu.2.1,uu.2.2.1,uu.2.2.2.1,uu.2.2.2.2.1,uu.2.2.2.2.2.1,uu.2.2.2.2.2.2.1,uu.2.2.2.2.2.2.2.1,uu.2.2.2.2.2.2.2.2.1,uu.2.2.2.2.2.2.2.2.2.1,uu.2.2.2.2.2.2.2.2.2.2.1)=((b.getD (↑i:Int).toNat zq2).1,(b.getD (↑i:Int).toNat zq2).2.1,(b.getD (↑i:Int).toNat zq2).2.2.1,(b.getD (↑i:Int).toNat zq2).2.2.2.1,(b.getD (↑i:Int).toNat zq2).2.2.2.2.1,(b.getD (↑i:Int).toNat zq2).2.2.2.2.2.1,(b.getD (↑i:Int).toNat zq2).2.2.2.2.2.2.1,(b.getD (↑i:Int).toNat zq2).2.2.2.2.2.2.2.1,(b.getD (↑i:Int).toNat zq2).2.2.2.2.2.2.2.2.1,(b.getD (↑i:Int).toNat zq2).2.2.2.2.2.2.2.2.2.1,(b.getD (↑i:Int).toNat zq2).2.2.2.2.2.2.2.2.2.2.1))then false else aeu rest (a,b,i+1)
def aey:List aL→((List aL)×(List aL)×Nat)→Bool
 | [],(a,b,i)=>true
 | uu::rest,(a,b,i)=>decide ((↑i:Int)<(↑b.length:Int))&&bif uu.2.2.2.2.2.2.2.2.2.2.2.1 != (b.getD (↑i:Int).toNat zq2).2.2.2.2.2.2.2.2.2.2.2.1 then true else decide ((↑i:Int)<(↑b.length:Int))&&bif !(uu.2.2.2.2.2.2.2.2.2.2.2.2.1 == (b.getD (↑i:Int).toNat zq2).2.2.2.2.2.2.2.2.2.2.2.2.1&&(uu.2.2.2.2.2.2.2.2.2.2.2.2.2.1 == (b.getD (↑i:Int).toNat zq2).2.2.2.2.2.2.2.2.2.2.2.2.2.1&&(uu.2.2.2.2.2.2.2.2.2.2.2.2.2.2 == (b.getD (↑i:Int).toNat zq2).2.2.2.2.2.2.2.2.2.2.2.2.2.2&&true)))then true else decide ((↑i:Int)<(↑b.length:Int))&&(af uu.2.2.2.1&&bif !decide ((uu.1,uu.2.1,uu.2.2.1,uu.2.2.2.1,uu.2.2.2.2.1,uu.2.2.2.2.2.1,uu.2.2.2.2.2.2.1,uu.2.2.2.2.2.2.2.1,uu.2.2.2.2.2.2.2.2.1,uu.2.2.2.2.2.2.2.2.2.1,uu.2.2.2.2.2.2.2.2.2.2.1)=((b.getD (↑i:Int).toNat zq2).1,(b.getD (↑i:Int).toNat zq2).2.1,(b.getD (↑i:Int).toNat zq2).2.2.1,(b.getD (↑i:Int).toNat zq2).2.2.2.1,(b.getD (↑i:Int).toNat zq2).2.2.2.2.1,(b.getD (↑i:Int).toNat zq2).2.2.2.2.2.1,(b.getD (↑i:Int).toNat zq2).2.2.2.2.2.2.1,(b.getD (↑i:Int).toNat zq2).2.2.2.2.2.2.2.1,(b.getD (↑i:Int).toNat zq2).2.2.2.2.2.2.2.2.1,(b.getD (↑i:Int).toNat zq2).2.2.2.2.2.2.2.2.2.1,(b.getD (↑i:Int).toNat zq2).2.2.2.2.2.2.2.2.2.2.1))then true else aey rest (a,b,i+1))
theorem ahU:∀(rest a b:List aL) (i:Nat) (hd:a.drop i=rest) (hl:a.length≤1099511627776),de (fun f=>afM f (a,b,((i:Nat):Int))) (aey rest (a,b,i)) (aeu rest (a,b,i))
 | [],a,b,i,hd,hl=>ai (fun f=>(agi f _ _ _).trans (by simp only[fA (bT hd),fW,azP,azI]<;>rfl)) ae
 | uu::rest,a,b,i,hd,hl=>ai (fun f=>(agi f _ _ _).trans (by simp only[cK (ak hd),bC hd,bk (ak hd) hl,fW,azQ,azP,azH]<;>rfl)) (aI (ao ae (aI (ao ae (aI (aI (ao ae (ahU rest _ _ _ (aH hd) hl))))))))
def ak4:((List aL)×(List aL))→Bool
 | (a,b)=>bif(↑a.length:Int) != (↑b.length:Int)then false else aeu a (a,b,0)
def aiC:((List aL)×(List aL))→Bool
 | (a,b)=>bif(↑a.length:Int) != (↑b.length:Int)then true else decide (a.length≤1099511627776)&&aey a (a,b,0)
theorem aio:∀a:(List aL)×(List aL),de (fun f=>aqh f a) (aiC a) (ak4 a)
 | (a,b)=>ai (fun f=>aiK f _ _) (ao ae (bL fun hh=>ahU _ _ _ _ rfl (azZ hh)))
theorem anU:∀(r a b t:List aL) (k:Nat),(∀u∈r,af u.2.2.2.1=true)→b.drop k=t→r.length=t.length→aeu r (a,b,k)=decide (r=t)∧aey r (a,b,k)=true:=by
 refine aez aeu aey (fun u=>af u.2.2.2.1=true) (fun _ _ _=>⟨rfl,rfl⟩) fun u r a b k v t hu h=>?_
 simp only[aeu,aey,bC h,cK (ak h),hu,azP,ahe];constructor
 ·show(bif !decide (Ju u=Ju v)then false else bif !((nU u).1 == (nU v).1&&((nU u).2.1 == (nU v).2.1&&((nU u).2.2 == (nU v).2.2&&true)))then false else bif !decide (snd u=snd v)then false else aeu r (a,b,k+1))=_
  rw[id_eq,asM u v];cases decide (Ju u=Ju v)<;>cases decide (nU u=nU v)<;>cases decide (snd u=snd v)<;>rfl
 ·intro h;rw[h];exact QG (QG (QG rfl))
theorem asJ:∀a:List aL×List aL,ct a.1=true→aiC a=true:=fun a h=>by
 simp only[aiC,zp];by_cases e:a.1.length=a.2.length
 ·rw[(anU a.1 a.1 a.2 a.2 0 (fun u hu=>gk h hu) rfl e).2];simp[e];rw[← e];have:=fD h;omega
 ·simp[e]
theorem asK:∀a:List aL×List aL,ct a.1=true→ak4 a=decide (a.1=a.2):=fun a h=>by
 simp only[ak4,zp];by_cases e:a.1.length=a.2.length
 ·rw[(anU a.1 a.1 a.2 a.2 0 (fun u hu=>gk h hu) rfl e).1];simp[e]
 ·have:¬ a.1=a.2:=fun h=>e (by rw[h])
  simp[e,this]
def alG:dn:=⟨28,[.rd bg,.rd bg],[.v .bool],fun a:(List aL)×(List aL)=>ct a.1,fun a:(List aL)×(List aL)=>decide (a.1=a.2)⟩
theorem ak9:zO alG:=fl alI agv [.tmp 4] mixed (ah OC (aC)) Tryz.func28 (bp aio asJ asK)
def aeh:cX:=zC [ni] (dE [(5,([(0,[]),(1,[]),(2,[]),(3,[]),(4,[]),(5,[]),(7,[]),(8,[]),(9,[]),(10,[]),(11,[]),(12,[]),(13,[]),(14,[]),(15,[]),(16,[]),(6,[]),(17,[]),(18,[]),(19,[]),(20,[])],[(3,3),(11,30)]))]) 32
def G4:Nat→LD:=eO [(0,⟨[.rd 0 bg,.list 3 999 64 15 bg,.c 4 (zI)],[],0⟩)]
def ajl(f:Nat)(a:(List aL)):Option ((List aL)):=aG aeh G4 (zK [.tmp 2] [.o 64 15 bg]) f [.code (aB Tryz.f51)] (aQ [.rd bg] a)
def Ax(f:Nat)(x:(List aL)×(List aL)×Int):Option ((List aL)):=aG aeh G4 (zK [.tmp 2] [.o 64 15 bg]) f (aV Tryz.f51 0) ((G4 0).mk' x)
theorem ab4(f:Nat)(l:List aL):ajl (f+1) l =
  Ax f (l,[],0):=by kernel_rfl
theorem CR(f:Nat)(l out:List aL)(i:Int):Ax (f+1) (l,out,i) =
  bif decide (i<(↑l.length:Int))then bif decide (0≤i)&&decide (i<(↑l.length:Int))then bif decide (0≤i)&&decide (i<(↑l.length:Int))then bif decide (0≤i)&&decide (i<(↑l.length:Int))then bif af (l.getD i.toNat zq2).2.2.2.1 then bif decide ((out.length+[((l.getD i.toNat zq2).1,(l.getD i.toNat zq2).2.1,(l.getD i.toNat zq2).2.2.1,(l.getD i.toNat zq2).2.2.2.1,(l.getD i.toNat zq2).2.2.2.2.1,(l.getD i.toNat zq2).2.2.2.2.2.1,(l.getD i.toNat zq2).2.2.2.2.2.2.1,(l.getD i.toNat zq2).2.2.2.2.2.2.2.1,(l.getD i.toNat zq2).2.2.2.2.2.2.2.2.1,(l.getD i.toNat zq2).2.2.2.2.2.2.2.2.2.1,(l.getD i.toNat zq2).2.2.2.2.2.2.2.2.2.2.1,(l.getD i.toNat zq2).2.2.2.2.2.2.2.2.2.2.2)].length)*136≤140737488355328)then Ax f (l,out++[l.getD i.toNat zq2],i64.wrap (i+1))else none else none else none else none else none else some out:=by kernel_rfl
def rO:List aL→((List aL)×(List aL)×Nat)→(List aL)
 | [],(l,out,i)=>out
 | uu::rest,(l,out,i)=>rO rest (l,out++[uu],i+1)
def vz:List aL→((List aL)×(List aL)×Nat)→Bool
 | [],(l,out,i)=>true
 | uu::rest,(l,out,i)=>af uu.2.2.2.1&&(decide ((out.length+1)*136≤140737488355328)&&vz rest (l,out++[uu],i+1))
theorem Sy:∀(rest l out:List aL) (i:Nat) (hd:l.drop i=rest) (hl:l.length≤1099511627776),de (fun f=>Ax f (l,out,((i:Nat):Int))) (vz rest (l,out,i)) (rO rest (l,out,i))
 | [],l,out,i,hd,hl=>ai (fun f=>(CR f _ _ _).trans (by simp only[fA (bT hd),fW,azP,azI]<;>rfl)) ae
 | uu::rest,l,out,i,hd,hl=>ai (fun f=>(CR f _ _ _).trans (by simp only[cK (ak hd),bC hd,bk (ak hd) hl,fW,azQ,azH]<;>rfl)) (aI (aI (Sy rest _ _ _ (aH hd) hl)))
def acS:(List aL)→(List aL)
 | l=>rO l (l,[],0)
def aa4:(List aL)→Bool
 | l=>decide (l.length≤1099511627776)&&vz l (l,[],0)
theorem Z4:∀a:(List aL),de (fun f=>ajl f a) (aa4 a) (acS a)
 | l=>ai (fun f=>ab4 f _) (bL fun hh=>Sy _ _ _ _ rfl (azZ hh))
theorem Z5(l:List aL):∀(r out:List aL) (k:Nat),(∀e∈r,af e.2.2.2.1=true)→out.length+r.length≤68719476736→rO r (l,out,k)=out++r∧vz r (l,out,k)=true
 | [],out,k,h,hl=>⟨by simp[rO],rfl⟩
 | u::r,out,k,h,hl=>by
  obtain⟨i1,i2⟩:=Z5 l r (out++[u]) (k+1) (fun e he=>h e (az6 _ he)) (by simp at hl ⊢;omega);have h1:=h u (az1 ..);simp only[rO,vz,i1,i2,h1];exact⟨by simp,by simp at hl ⊢;omega⟩
theorem aqS:∀a,ct a=true→aa4 a=true:=fun a h=>by
 have:=fD h;simp only[aa4,(Z5 a a [] 0 (fun e he=>gk h he) (by simpa using this)).2,aAt];exact azC (by omega)
theorem aqT:∀a,ct a=true→acS a=a:=fun a h=>by
 simp only[acS,(Z5 a a [] 0 (fun e he=>gk h he) (by simpa using fD h)).1,aAs]
def ajJ:dn:=⟨51,[.rd bg],[.o 64 15 bg],ct,fun a:(List aL)=>a⟩
theorem adG:zO ajJ:=fl aeh G4 [.tmp 2] mixed (ah gR (aC)) Tryz.func51 (bp Z4 aqS aqT)
def Si:cX:=zC [] (dE []) 8
theorem NG:jh Tryz.prog []:=aC
theorem arb(l:List aL):(aG Si (fun _=>⟨[],[],0⟩) (zK [.tmp 2] [.o 64 15 bg]) 1 [.code (aB Tryz.f124)] (aQ [.rd bg] l):Option (eC [.o 64 15 bg]))=bif Decidable.decide (0<l.length)&&Bool.true then bif Decidable.decide ((([]:List Nat).length+l.length)*(bytesOf Tryz.prog 64)≤140737488355328)then some l else none else none:=by kernel_rfl
def ajE:dn:=⟨124,[.rd bg],[.o 64 15 bg],fun a=>wP (a:List aL),fun a=>(a:List aL)⟩
theorem ade:ajE.Ok Tryz.prog:=fun a hp vs hv=>B3 (τ:=bg) (t:=64) (es:=15)
  (fun a h0 h1 vs hv=>iI (C:=Si) (Lt:=fun _=>⟨[],[],0⟩) (fn:=Tryz.f124) (rs:=[.tmp 2]) [.rd bg] [.o 64 15 bg] mixed NG Tryz.func124 rfl rfl rfl (by kernel_rfl) (by kernel_rfl) 1 ((arb a).trans (xX h0 h1 (by decide +kernel))) vs hv)
  (iI (C:=Si) (Lt:=fun _=>⟨[],[],0⟩) (fn:=Tryz.f124) (rs:=[.tmp 2]) (a:=()) [.raw (.slice none 0 0)] [.o 64 15 bg] mixed NG Tryz.func124 rfl rfl rfl (by kernel_rfl) (by kernel_rfl) 1 (by kernel_rfl) _ (by simp only[bY,ed,lZ];exact⟨_,rfl,rfl⟩))
  (fun b c=>iI (C:=Si) (Lt:=fun _=>⟨[],[],0⟩) (fn:=Tryz.f124) (rs:=[.tmp 2]) (a:=()) [.raw (.slice (some b) 0 c)] [.o 64 15 bg] mixed NG Tryz.func124 rfl rfl rfl (by kernel_rfl) (by kernel_rfl) 1 (by kernel_rfl) _ (by simp only[bY,ed,lZ];exact⟨_,rfl,rfl⟩))
  a (azZ hp) vs hv
def ael:cX:=zC [ajE,CY] (dE []) 24
def G7:Nat→LD:=eO [(0,⟨[.list 3 999 64 15 bg,.c 8 (zI),.c 9 (zI)],[],0⟩)]
def ajo(f:Nat)(a:(List aL)):Option ((List aL)):=aG ael G7 (zK [.tmp 2] [.o 64 15 bg]) f [.code (aB Tryz.f87)] (aQ [.rd bg] a)
def AA(f:Nat)(x:(List aL)×Int×Int):Option ((List aL)):=aG ael G7 (zK [.tmp 2] [.o 64 15 bg]) f (aV Tryz.f87 0) ((G7 0).mk' x)
theorem ab9(f:Nat)(l:List aL):ajo (f+1) l =
  bif wP l then AA f (l,(↑l.length:Int),0)else none:=by kernel_rfl
theorem CU(f:Nat)(out:List aL)(x8 x9:Int):AA (f+1) (out,x8,x9) =
  bif decide (x9<x8)then bif decide (0≤x9)&&decide (x9<(↑out.length:Int))then bif af (out.getD x9.toNat zq2).2.2.2.1 then bif decide (0≤x9)&&decide (x9<(↑out.length:Int))then AA f (out.set x9.toNat (out.getD x9.toNat zq2),x8,i64.wrap (x9+1))else none else none else none else some out:=by kernel_rfl
def we:List aL→((List aL)×Int×Nat)→(List aL)
 | [],(out,x8,x9)=>out
 | uu::rest,(out,x8,x9)=>we rest (out.set (↑x9:Int).toNat uu,x8,x9+1)
def vB:List aL→((List aL)×Int×Nat)→Bool
 | [],(out,x8,x9)=>true
 | uu::rest,(out,x8,x9)=>af uu.2.2.2.1&&vB rest (out.set (↑x9:Int).toNat uu,x8,x9+1)
theorem SA:∀(rest out:List aL) (x8:Int) (x9:Nat) (hd:out.drop x9=rest) (hn:x8=((out.length:Nat):Int)) (hl:out.length≤1099511627776),de (fun f=>AA f (out,x8,((x9:Nat):Int))) (vB rest (out,x8,x9)) (we rest (out,x8,x9))
 | [],out,x8,x9,hd,hn,hl=>ai (fun f=>(CU f _ _ _).trans (by simp only[iZ hn (bT hd),fW,azP,azI]<;>rfl)) ae
 | uu::rest,out,x8,x9,hd,hn,hl=>ai (fun f=>(CU f _ _ _).trans (by simp only[iW hn (ak hd),cK (ak hd),bC hd,bk (ak hd) hl,fW,azQ,azH]<;>rfl)) (aI (SA rest _ _ _ (by first | exact aH hd | exact drop_set hd | exact bB (drop_set hd)) (by first | exact hn | simpa using hn) (by first | exact hl | simpa using hl)))
def acV:(List aL)→(List aL)
 | l=>we l (l,(↑l.length:Int),0)
def aa8:(List aL)→Bool
 | l=>wP l&&(decide (l.length≤1099511627776)&&vB l (l,(↑l.length:Int),0))
theorem aab:∀a:(List aL),de (fun f=>ajo f a) (aa8 a) (acV a)
 | l=>ai (fun f=>ab9 f _) (aI (bL fun hh=>SA _ _ _ _ rfl (by first | rfl | simp) (azZ hh)))
theorem tV{α:Type}{l r:List α}{u v:α}{k:Nat}(h:l.drop k=u::r):(l.set (Int.toNat ((k:Nat):Int)) v).take (k+1)=l.take k++[v]∧(l.set (Int.toNat ((k:Nat):Int)) v).drop (k+1)=r:=by
 refine⟨?_,drop_set h⟩;have hl:=ak h;rw[aAn,aAz,aA6 hl,aCi (by omega)];rfl
theorem tW{α:Type}{l r:List α}{u:α}{k:Nat}(h:l.drop k=u::r):l.set (Int.toNat ((k:Nat):Int)) u=l:=by
 rw[aAn];apply List.ext_getElem?;intro i;by_cases hi:k=i
 ·subst hi;rw[aA6 (ak h),rn h]
 ·rw[aBc hi]
theorem aac(n:Int):∀(r out:List aL) (k:Nat),out.drop k=r→(∀e∈r,af e.2.2.2.1=true)→we r (out,n,k)=out∧vB r (out,n,k)=true
 | [],out,k,h,hl=>⟨rfl,rfl⟩
 | u::r,out,k,h,hl=>by
  obtain⟨i1,i2⟩:=aac n r out (k+1) (aH h) (fun e he=>hl e (az6 _ he));simp only[we,vB,tW h,i1,i2,hl u (az1 ..)];exact⟨trivial,rfl⟩
theorem aqW:∀a,ct a=true→aa8 a=true:=fun a h=>by
 have:=fD h;simp only[aa8,(aac _ a a 0 rfl (fun e he=>gk h he)).2,aAt,azF];exact⟨azC (by omega),azC (by omega)⟩
theorem aqX:∀a,ct a=true→acV a=a:=fun a h=>by
 simp only[acV,(aac _ a a 0 rfl (fun e he=>gk h he)).1]
def adL:dn:=⟨87,[.rd bg],[.o 64 15 bg],ct,fun a:(List aL)=>a⟩
theorem CZ:zO adL:=fl ael G7 [.tmp 2] mixed (ah ade (ah xA (aC))) Tryz.func87 (bp aab aqW aqX)
theorem J4{α:Type}(G:List α→List α→Nat→List α)(f:α→α)(h0:∀out k,G [] out k=out)
  (h1:∀u r out k,out.drop k=u::r→G (u::r) out k=G r (out.set (Int.toNat ((k:Nat):Int)) (f u)) (k+1)) :
  ∀(r out:List α) (k:Nat),out.drop k=r→G r out k=out.take k++r.map f
 | [],out,k,h=>by rw[h0,aBq,aAc,aAQ (by have:=bT h;omega)]
 | u::r,out,k,h=>by
  obtain⟨s1,s2⟩:=tV (v:=f u) h;rw[h1 u r out k h,J4 G f h0 h1 r _ (k+1) s2,s1];simp
theorem Le{α:Type}(P:List α→List α→Nat→Bool)(f:α→α)(h0:∀out k,P [] out k=true)
  (h1:∀u r out k,out.drop k=u::r→P (u::r) out k=P r (out.set (Int.toNat ((k:Nat):Int)) (f u)) (k+1)) :
  ∀(r out:List α) (k:Nat),out.drop k=r→P r out k=true
 | [],out,k,h=>h0 _ _
 | u::r,out,k,h=>by rw[h1 u r out k h];exact Le P f h0 h1 r _ (k+1) (tV h).2
theorem akl(u:aL)(id:aj):(u.2.2.2.2.2.2.2.2.2.2.2.2.1 == id.1&&(u.2.2.2.2.2.2.2.2.2.2.2.2.2.1 == id.2.1&&(u.2.2.2.2.2.2.2.2.2.2.2.2.2.2 == id.2.2&&true)))=decide (nU u=id):=id_eq (nU u) id
theorem YX(id:aj):(id.1 == 0&&(id.2.1 == 0&&(id.2.2 == 0&&true)))=decide (id=(0,0,0)):=id_eq id (0,0,0)
def ZC(id:aj)(s:aL):Bool:=!cB s&&decide (xH s=id)
def aoR(s:aL)(op:Int):aL:=Ys (snd s) op (nU s)
def mg(op:Int)(s:aL):aL:=bif decide (Ju s=op)then aoR s 0 else s
def ny(a:List aL×Int):List aL:=a.1.map (mg a.2)
def ad6:cX:=zC [adL] (dE []) 27
def G0:Nat→LD:=eO [(0,⟨[.c 1 (zI),.list 5 999 64 15 bg,.c 10 (zI),.c 11 (zI)],[],0⟩)]
def ai7(f:Nat)(a:(List aL)×Int):Option ((List aL)):=aG ad6 G0 (zK [.tmp 4] [.o 64 15 bg]) f [.code (aB Tryz.f91)] (aQ [.rd bg,.c zI] a)
def vQ(f:Nat)(x:Int×(List aL)×Int×Int):Option ((List aL)):=aG ad6 G0 (zK [.tmp 4] [.o 64 15 bg]) f (aV Tryz.f91 0) ((G0 0).mk' x)
theorem abE(f:Nat)(l:List aL)(op:Int):ai7 (f+1) (l,op) =
  bif ct l then vQ f (op,l,(↑l.length:Int),0)else none:=by kernel_rfl
theorem CL(f:Nat)(op:Int)(out:List aL)(dB kL:Int):vQ (f+1) (op,out,dB,kL) =
  bif decide (kL<dB)then bif decide (0≤kL)&&decide (kL<(↑out.length:Int))then bif(out.getD kL.toNat zq2).2.2.2.2.2.2.2.2.2.2.2.1 == op then bif decide (0≤kL)&&decide (kL<(↑out.length:Int))then vQ f (op,out.set kL.toNat ((out.getD kL.toNat zq2).1,(out.getD kL.toNat zq2).2.1,(out.getD kL.toNat zq2).2.2.1,(out.getD kL.toNat zq2).2.2.2.1,(out.getD kL.toNat zq2).2.2.2.2.1,(out.getD kL.toNat zq2).2.2.2.2.2.1,(out.getD kL.toNat zq2).2.2.2.2.2.2.1,(out.getD kL.toNat zq2).2.2.2.2.2.2.2.1,(out.getD kL.toNat zq2).2.2.2.2.2.2.2.2.1,(out.getD kL.toNat zq2).2.2.2.2.2.2.2.2.2.1,(out.getD kL.toNat zq2).2.2.2.2.2.2.2.2.2.2.1,0,(out.getD kL.toNat zq2).2.2.2.2.2.2.2.2.2.2.2.2),dB,i64.wrap (kL+1))else none else vQ f (op,out,dB,i64.wrap (kL+1))else none else some out:=by kernel_rfl
def kv:List aL→(Int×(List aL)×Int×Nat)→(List aL)
 | [],(op,out,dB,kL)=>out
 | uu::rest,(op,out,dB,kL)=>bif uu.2.2.2.2.2.2.2.2.2.2.2.1 == op then kv rest (op,out.set (↑kL:Int).toNat (uu.1,uu.2.1,uu.2.2.1,uu.2.2.2.1,uu.2.2.2.2.1,uu.2.2.2.2.2.1,uu.2.2.2.2.2.2.1,uu.2.2.2.2.2.2.2.1,uu.2.2.2.2.2.2.2.2.1,uu.2.2.2.2.2.2.2.2.2.1,uu.2.2.2.2.2.2.2.2.2.2.1,0,uu.2.2.2.2.2.2.2.2.2.2.2.2),dB,kL+1)else kv rest (op,out,dB,kL+1)
def kq:List aL→(Int×(List aL)×Int×Nat)→Bool
 | [],(op,out,dB,kL)=>true
 | uu::rest,(op,out,dB,kL)=>bif uu.2.2.2.2.2.2.2.2.2.2.2.1 == op then kq rest (op,out.set (↑kL:Int).toNat (uu.1,uu.2.1,uu.2.2.1,uu.2.2.2.1,uu.2.2.2.2.1,uu.2.2.2.2.2.1,uu.2.2.2.2.2.2.1,uu.2.2.2.2.2.2.2.1,uu.2.2.2.2.2.2.2.2.1,uu.2.2.2.2.2.2.2.2.2.1,uu.2.2.2.2.2.2.2.2.2.2.1,0,uu.2.2.2.2.2.2.2.2.2.2.2.2),dB,kL+1)else kq rest (op,out,dB,kL+1)
theorem HY:∀(rest:List aL) (op:Int) (out:List aL) (dB:Int) (kL:Nat) (hd:out.drop kL=rest) (hn:dB=((out.length:Nat):Int)) (hl:out.length≤1099511627776),de (fun f=>vQ f (op,out,dB,((kL:Nat):Int))) (kq rest (op,out,dB,kL)) (kv rest (op,out,dB,kL))
 | [],op,out,dB,kL,hd,hn,hl=>ai (fun f=>(CL f _ _ _ _).trans (by simp only[iZ hn (bT hd),fW,azP,azI]<;>rfl)) ae
 | uu::rest,op,out,dB,kL,hd,hn,hl=>ai (fun f=>(CL f _ _ _ _).trans (by simp only[iW hn (ak hd),cK (ak hd),bC hd,bk (ak hd) hl,fW,azQ,azH]<;>rfl)) (ao (HY rest _ _ _ _ (by first | exact aH hd | exact drop_set hd | exact bB (drop_set hd)) (by first | exact hn | simpa using hn) (by first | exact hl | simpa using hl)) (HY rest _ _ _ _ (by first | exact aH hd | exact drop_set hd | exact bB (drop_set hd)) (by first | exact hn | simpa using hn) (by first | exact hl | simpa using hl)))
def ajx:((List aL)×Int)→(List aL)
 | (l,op)=>kv l (op,l,(↑l.length:Int),0)
def aaV:((List aL)×Int)→Bool
 | (l,op)=>ct l&&(decide (l.length≤1099511627776)&&kq l (op,l,(↑l.length:Int),0))
theorem XE:∀a:(List aL)×Int,de (fun f=>ai7 f a) (aaV a) (ajx a)
 | (l,op)=>ai (fun f=>abE f _ _) (aI (bL fun hh=>HY _ _ _ _ _ rfl (by first | rfl | simp) (azZ hh)))
theorem ahR(op n:Int)(u:aL)(r out:List aL)(k:Nat)(h:out.drop k=u::r):kv (u::r) (op,out,n,k)=kv r (op,out.set (Int.toNat ((k:Nat):Int)) (mg op u),n,k+1)∧kq (u::r) (op,out,n,k)=kq r (op,out.set (Int.toNat ((k:Nat):Int)) (mg op u),n,k+1):=by
 simp only[kv,kq,mg,xm];have e:decide (u.2.2.2.2.2.2.2.2.2.2.2.1=op)=decide (Ju u=op):=rfl;rw[e];cases decide (Ju u=op)
 ·simp only[azI,tW h];exact⟨trivial,trivial⟩
 ·exact⟨rfl,rfl⟩
theorem aoX:∀a:List aL×Int,ct a.1=true→aaV a=true:=fun a h=>by
 have:=fD h;simp only[aaV,h,Le (fun r out k=>kq r (a.2,out,((a.1.length:Nat):Int),k)) (mg a.2) (fun _ _=>rfl) (fun u r out k h=>(ahR a.2 _ u r out k h).2) a.1 a.1 0 rfl,aAt,azP];exact azC (by omega)
theorem aoY:∀a:List aL×Int,ct a.1=true→ajx a=ny a:=fun a h=>J4 (fun r out k=>kv r (a.2,out,((a.1.length:Nat):Int),k)) (mg a.2) (fun _ _=>rfl) (fun u r out k h=>(ahR a.2 _ u r out k h).1) a.1 a.1 0 rfl
def ars:dn:=⟨91,[.rd bg,.c zI],[.o 64 15 bg],fun a:(List aL)×Int=>ct a.1,ny⟩
theorem adj:zO ars:=fl ad6 G0 [.tmp 4] mixed (ah CZ (aC)) Tryz.func91 (bp XE aoX aoY)
open Go.Proofs
theorem FA{α:Type}(l:List α)(i:Nat)(v w:α):(l.set i v).set i w=l.set i w:=by
 rw[List.set_set]
def sz:cu:=zq0
def sH(qb:aj)(s:aL):Bool:=!cB s&&(decide (nU s=qb)&&!decide (qb=(0,0,0)))
def nw(qb:aj)(s:aL):aL:=bif sH qb s then Ys sz (Ju s) (0,0,0)else s
def tS(a:List aL×aj):List aL×List aj:=(a.1.map (nw a.2),(a.1.filter (sH a.2)).map xH)
def adU:cX:=zC [adL,E6] (dE [(8,([(0,[]),(1,[]),(2,[]),(3,[]),(4,[]),(5,[]),(6,[]),(7,[]),(8,[]),(9,[]),(10,[]),(11,[]),(12,[]),(13,[]),(14,[])],[(20,34)]))]) 57
def GY:Nat→LD:=eO [(0,⟨[.box 3 3 48 3 aE,.list 6 999 64 15 bg,.list 7 998 48 3 aE,.c 16 (zI),.c 17 (zI)],[],0⟩)]
def ai1(f:Nat)(a:(List aL)×aj):Option ((List aL)×(List aj)):=aG adU GY (zK [.tmp 4,.tmp 5] [.o 64 15 bg,.o 48 3 aE]) f [.code (aB Tryz.f54)] (aQ [.rd bg,.g aE] a)
def rD(f:Nat)(x:aj×(List aL)×(List aj)×Int×Int):Option ((List aL)×(List aj)):=aG adU GY (zK [.tmp 4,.tmp 5] [.o 64 15 bg,.o 48 3 aE]) f (aV Tryz.f54 0) ((GY 0).mk' x)
theorem abi(f:Nat)(l:List aL)(qb:aj):ai1 (f+1) (l,qb) =
  bif ct l then bif qb.1 == 0&&(qb.2.1 == 0&&(qb.2.2 == 0&&true))then some (l,[])else rD f (qb,l,[],(↑l.length:Int),0)else none:=by kernel_rfl
theorem CJ(f:Nat)(vi:aj)(out:List aL)(ids:List aj)(C5 dP:Int):rD (f+1) (vi,out,ids,C5,dP) =
  bif decide (dP<C5)then bif decide (0≤dP)&&decide (dP<(↑out.length:Int))then bif !cB (out.getD dP.toNat zq2)then bif decide (0≤dP)&&decide (dP<(↑out.length:Int))then bif(out.getD dP.toNat zq2).2.2.2.2.2.2.2.2.2.2.2.2.1 == vi.1&&((out.getD dP.toNat zq2).2.2.2.2.2.2.2.2.2.2.2.2.2.1 == vi.2.1&&((out.getD dP.toNat zq2).2.2.2.2.2.2.2.2.2.2.2.2.2.2 == vi.2.2&&true))then bif decide (0≤dP)&&decide (dP<(↑out.length:Int))then bif decide ((ids.length+[((out.getD dP.toNat zq2).1,(out.getD dP.toNat zq2).2.1,(out.getD dP.toNat zq2).2.2.1)].length)*24≤140737488355328)then bif decide (0≤dP)&&decide (dP<(↑out.length:Int))then bif decide (0≤dP)&&decide (dP<(↑(out.set dP.toNat (0,0,0,[],0,0,0,0,0,0,false,(out.getD dP.toNat zq2).2.2.2.2.2.2.2.2.2.2.2)).length:Int))then rD f (vi,(out.set dP.toNat (0,0,0,[],0,0,0,0,0,0,false,(out.getD dP.toNat zq2).2.2.2.2.2.2.2.2.2.2.2)).set dP.toNat (((out.set dP.toNat (0,0,0,[],0,0,0,0,0,0,false,(out.getD dP.toNat zq2).2.2.2.2.2.2.2.2.2.2.2)).getD dP.toNat zq2).1,((out.set dP.toNat (0,0,0,[],0,0,0,0,0,0,false,(out.getD dP.toNat zq2).2.2.2.2.2.2.2.2.2.2.2)).getD dP.toNat zq2).2.1,((out.set dP.toNat (0,0,0,[],0,0,0,0,0,0,false,(out.getD dP.toNat zq2).2.2.2.2.2.2.2.2.2.2.2)).getD dP.toNat zq2).2.2.1,((out.set dP.toNat (0,0,0,[],0,0,0,0,0,0,false,(out.getD dP.toNat zq2).2.2.2.2.2.2.2.2.2.2.2)).getD dP.toNat zq2).2.2.2.1,((out.set dP.toNat (0,0,0,[],0,0,0,0,0,0,false,(out.getD dP.toNat zq2).2.2.2.2.2.2.2.2.2.2.2)).getD dP.toNat zq2).2.2.2.2.1,((out.set dP.toNat (0,0,0,[],0,0,0,0,0,0,false,(out.getD dP.toNat zq2).2.2.2.2.2.2.2.2.2.2.2)).getD dP.toNat zq2).2.2.2.2.2.1,((out.set dP.toNat (0,0,0,[],0,0,0,0,0,0,false,(out.getD dP.toNat zq2).2.2.2.2.2.2.2.2.2.2.2)).getD dP.toNat zq2).2.2.2.2.2.2.1,((out.set dP.toNat (0,0,0,[],0,0,0,0,0,0,false,(out.getD dP.toNat zq2).2.2.2.2.2.2.2.2.2.2.2)).getD dP.toNat zq2).2.2.2.2.2.2.2.1,((out.set dP.toNat (0,0,0,[],0,0,0,0,0,0,false,(out.getD dP.toNat zq2).2.2.2.2.2.2.2.2.2.2.2)).getD dP.toNat zq2).2.2.2.2.2.2.2.2.1,((out.set dP.toNat (0,0,0,[],0,0,0,0,0,0,false,(out.getD dP.toNat zq2).2.2.2.2.2.2.2.2.2.2.2)).getD dP.toNat zq2).2.2.2.2.2.2.2.2.2.1,((out.set dP.toNat (0,0,0,[],0,0,0,0,0,0,false,(out.getD dP.toNat zq2).2.2.2.2.2.2.2.2.2.2.2)).getD dP.toNat zq2).2.2.2.2.2.2.2.2.2.2.1,((out.set dP.toNat (0,0,0,[],0,0,0,0,0,0,false,(out.getD dP.toNat zq2).2.2.2.2.2.2.2.2.2.2.2)).getD dP.toNat zq2).2.2.2.2.2.2.2.2.2.2.2.1,0,0,0),ids++[((out.getD dP.toNat zq2).1,(out.getD dP.toNat zq2).2.1,(out.getD dP.toNat zq2).2.2.1)],C5,i64.wrap (dP+1))else none else none else none else none else rD f (vi,out,ids,C5,i64.wrap (dP+1))else none else rD f (vi,out,ids,C5,i64.wrap (dP+1))else none else some (out,ids):=by kernel_rfl
def ku:List aL→(aj×(List aL)×(List aj)×Int×Nat)→(List aL)×(List aj)
 | [],(vi,out,ids,C5,dP)=>(out,ids)
 | uu::rest,(vi,out,ids,C5,dP)=>bif !cB uu then bif uu.2.2.2.2.2.2.2.2.2.2.2.2.1 == vi.1&&(uu.2.2.2.2.2.2.2.2.2.2.2.2.2.1 == vi.2.1&&(uu.2.2.2.2.2.2.2.2.2.2.2.2.2.2 == vi.2.2&&true))then ku rest (vi,(out.set (↑dP:Int).toNat (0,0,0,[],0,0,0,0,0,0,false,uu.2.2.2.2.2.2.2.2.2.2.2)).set (↑dP:Int).toNat (0,0,0,[],0,0,0,0,0,0,false,uu.2.2.2.2.2.2.2.2.2.2.2.1,0,0,0),ids++[(uu.1,uu.2.1,uu.2.2.1)],C5,dP+1)else ku rest (vi,out,ids,C5,dP+1)else ku rest (vi,out,ids,C5,dP+1)
def nd:List aL→(aj×(List aL)×(List aj)×Int×Nat)→Bool
 | [],(vi,out,ids,C5,dP)=>true
 | uu::rest,(vi,out,ids,C5,dP)=>bif !cB uu then bif uu.2.2.2.2.2.2.2.2.2.2.2.2.1 == vi.1&&(uu.2.2.2.2.2.2.2.2.2.2.2.2.2.1 == vi.2.1&&(uu.2.2.2.2.2.2.2.2.2.2.2.2.2.2 == vi.2.2&&true))then decide ((ids.length+1)*24≤140737488355328)&&nd rest (vi,(out.set (↑dP:Int).toNat (0,0,0,[],0,0,0,0,0,0,false,uu.2.2.2.2.2.2.2.2.2.2.2)).set (↑dP:Int).toNat (0,0,0,[],0,0,0,0,0,0,false,uu.2.2.2.2.2.2.2.2.2.2.2.1,0,0,0),ids++[(uu.1,uu.2.1,uu.2.2.1)],C5,dP+1)else nd rest (vi,out,ids,C5,dP+1)else nd rest (vi,out,ids,C5,dP+1)
theorem AD:∀(rest:List aL) (vi:aj) (out:List aL) (ids:List aj) (C5:Int) (dP:Nat) (hd:out.drop dP=rest) (hn:C5=((out.length:Nat):Int)) (hl:out.length≤1099511627776),de (fun f=>rD f (vi,out,ids,C5,((dP:Nat):Int))) (nd rest (vi,out,ids,C5,dP)) (ku rest (vi,out,ids,C5,dP))
 | [],vi,out,ids,C5,dP,hd,hn,hl=>ai (fun f=>(CJ f _ _ _ _ _).trans (by simp only[iZ hn (bT hd),fW,azP,azI,azX]<;>rfl)) ae
 | uu::rest,vi,out,ids,C5,dP,hd,hn,hl=>ai (fun f=>(CJ f _ _ _ _ _).trans (by simp only[iW hn (ak hd),cK (ak hd),bC hd,bk (ak hd) hl,bH (ak hd),fW,azQ,azH,azX]<;>rfl)) (ao (ao (aI (AD rest _ _ _ _ _ (by first | exact aH hd | exact drop_set hd | exact bB (drop_set hd)) (by first | exact hn | simpa using hn) (by first | exact hl | simpa using hl))) (AD rest _ _ _ _ _ (by first | exact aH hd | exact drop_set hd | exact bB (drop_set hd)) (by first | exact hn | simpa using hn) (by first | exact hl | simpa using hl))) (AD rest _ _ _ _ _ (by first | exact aH hd | exact drop_set hd | exact bB (drop_set hd)) (by first | exact hn | simpa using hn) (by first | exact hl | simpa using hl)))
def acD:((List aL)×aj)→(List aL)×(List aj)
 | (l,qb)=>bif qb.1 == 0&&(qb.2.1 == 0&&(qb.2.2 == 0&&true))then(l,[])else ku l (qb,l,[],(↑l.length:Int),0)
def aaM:((List aL)×aj)→Bool
 | (l,qb)=>ct l&&bif qb.1 == 0&&(qb.2.1 == 0&&(qb.2.2 == 0&&true))then true else decide (l.length≤1099511627776)&&nd l (qb,l,[],(↑l.length:Int),0)
theorem WS:∀a:(List aL)×aj,de (fun f=>ai1 f a) (aaM a) (acD a)
 | (l,qb)=>ai (fun f=>abi f _ _) (aI (ao ae (bL fun hh=>AD _ _ _ _ _ _ rfl (by first | rfl | simp) (azZ hh))))
theorem Pl(n:Int)(qb:aj)(V4:qb ≠ (0,0,0)):∀(r out:List aL) (ids:List aj) (k:Nat),out.drop k=r→ids.length+r.length≤68719476736→ku r (qb,out,ids,n,k)=(out.take k++r.map (nw qb),ids++(r.filter (sH qb)).map xH)∧nd r (qb,out,ids,n,k)=true
 | [],out,ids,k,h,hl=>by
  refine⟨?_,rfl⟩;simp only[ku,aBq,aAc,aBT];rw[aAQ (by have:=bT h;omega)]
 | u::r,out,ids,k,h,hl=>by
  simp only[azL]at hl;simp only[ku,nd,akl];have h3:decide (qb=(0,0,0))=false:=azK V4;cases hb:sH qb u
  ·have ih:=Pl n qb V4 r out ids (k+1) (aH h) (by omega)
   rw[ih.1,ih.2,aAy,List.filter_cons,hb];simp only[sH]at hb;have e:nw qb u=u:=by simp only[nw,sH,hb,azI]
   rw[e];have t1:=jx h;rw[t1];cases h1:cB u<;>cases h2:decide (nU u=qb)<;>rw[h1,h2,h3]at hb<;>first | (cases hb;done) | (simp;done)
  ·have e:nw qb u=Ys sz (Ju u) (0,0,0):=by simp only[nw,hb,azH]
   have ih:=Pl n qb V4 r (out.set (Int.toNat ((k:Nat):Int)) (nw qb u)) (ids++[xH u]) (k+1) (tV h).2 (by simp;omega);rw[(tV h).1]at ih;rw[aAy,List.filter_cons,hb];simp only[sH,azF,aAi]at hb;obtain⟨h1,h2,_⟩:=hb;simp only[h1,h2,aBh,azH,FA];rw[e]at ih;have hd:decide ((ids.length+1)*24≤140737488355328)=true:=azC (by omega);rw[hd,azP];refine⟨?_,ih.2⟩;refine Eq.trans ih.1 ?_;rw[e];simp
theorem SI(l:List aL):tS (l,(0,0,0))=(l,[]):=by
 have h:∀s,sH (0,0,0) s=false:=fun s=>by simp[sH]
 have h2:nw (0,0,0)=id:=funext fun s=>by simp[nw,h]
 have h3:sH (0,0,0)=fun _=>false:=funext h
 simp only[tS,h2,h3,aAW];rw[aCd.2 (fun a _=>by simp)];rfl
theorem aoI:∀a:List aL×aj,ct a.1=true→aaM a=true:=fun a h=>by
 have:=fD h;simp only[aaM,h,YX,azP];by_cases hb:a.2=(0,0,0)
 ·simp[hb]
 ·simp only[azK hb,azI,(Pl _ a.2 hb a.1 a.1 [] 0 rfl (by simpa using this)).2,aAt]
  exact azC (by omega)
theorem aoJ:∀a:List aL×aj,ct a.1=true→acD a=tS a:=by
 rintro⟨l,b⟩ h;simp only[acD,YX];by_cases hb:b=(0,0,0)
 ·subst hb;rw[SI];rfl
 ·simp only[azK hb,azI]
  exact(Pl _ b hb l l [] 0 rfl (by simpa using fD h)).1
def arq:dn:=⟨54,[.rd bg,.g aE],[.o 64 15 bg,.o 48 3 aE],fun a:(List aL)×aj=>ct a.1,tS⟩
theorem ac4:zO arq:=fl adU GY [.tmp 4,.tmp 5] mixed (ah CZ (ah wh (aC))) Tryz.func54 (bp WS aoI aoJ)
def iR:aL:=zq2
