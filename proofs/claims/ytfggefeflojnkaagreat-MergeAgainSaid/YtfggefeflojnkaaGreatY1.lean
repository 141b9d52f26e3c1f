/- AI. -/
import Derived.Test.YtfggefeflojnkaaGreatEg7
import Derived.Test.YtfggefeflojnkaaGreatEst4
set_option linter.unusedSimpArgs false
set_option linter.unusedVariables false
open Go.IntKind (i64 u64)
namespace Go.AL
open Go.Proofs
def aiE(core i:Int)(s:aL):ag:=(core,i,s.1,s.2.1,s.2.2.1,s.2.2.2.1,s.2.2.2.2.1,s.2.2.2.2.2.1,s.2.2.2.2.2.2.1,s.2.2.2.2.2.2.2.1,s.2.2.2.2.2.2.2.2.1,s.2.2.2.2.2.2.2.2.2.1,s.2.2.2.2.2.2.2.2.2.2.1)
def wZ(core:Int):List aL→Nat→List ag
 | [],_=>[]
 | s::r,i=>bif cB s then wZ core r (i+1)else aiE core ((i:Nat):Int) s::wZ core r (i+1)
def jQ(a:List aL×Int):List ag:=ca cj (wZ a.2 a.1 0)
def Ua(a:List aL×Int):Bool:=ct a.1&&decide (a.1.length≤19)
theorem KG(core:Int):∀(r:List aL) (i:Nat),(wZ core r i).length≤r.length
 | [],i=>azJ _
 | s::r,i=>by
  have:=KG core r (i+1);simp only[wZ,azL];cases cB s<;>simp only[azH,azI,azL]<;>omega
noncomputable def O1:cX:=⟨Tryz.prog,[E6,CY],dE [],31,[RW],[],[],[]⟩
def Ai:Nat→LD:=eO [(0,⟨[.c 1 (zI),.list 5 999 69 13 aF,.rd 8 bg,.c 9 (zI),.c 10 (zI)],[],0⟩)]
noncomputable def ab1(f:Nat)(a:(List aL)×Int):Option ((List ag)):=aG O1 Ai (zK [.tmp 4] [.o 69 13 aF]) f [.code (aB Tryz.f58)] (aQ [.rd bg,.c zI] a)
noncomputable def qH(f:Nat)(x:Int×(List ag)×(List aL)×Int×Int):Option ((List ag)):=aG O1 Ai (zK [.tmp 4] [.o 69 13 aF]) f (aV Tryz.f58 0) ((Ai 0).mk' x)
theorem Ve(f:Nat)(l:List aL)(core:Int):ab1 (f+1) (l,core) =
  qH f (core,[],l,(↑l.length:Int),0):=by kernel_rfl
theorem yz(f:Nat)(core:Int)(out:List ag)(x8:List aL)(x9 dB:Int):qH (f+1) (core,out,x8,x9,dB) =
  bif decide (dB<x9)then bif decide (0≤dB)&&decide (dB<(↑x8.length:Int))then bif !cB (x8.getD dB.toNat zq2)then bif af (x8.getD dB.toNat zq2).2.2.2.1 then bif decide ((out.length+[(core,dB,(x8.getD dB.toNat zq2).1,(x8.getD dB.toNat zq2).2.1,(x8.getD dB.toNat zq2).2.2.1,(x8.getD dB.toNat zq2).2.2.2.1,(x8.getD dB.toNat zq2).2.2.2.2.1,(x8.getD dB.toNat zq2).2.2.2.2.2.1,(x8.getD dB.toNat zq2).2.2.2.2.2.2.1,(x8.getD dB.toNat zq2).2.2.2.2.2.2.2.1,(x8.getD dB.toNat zq2).2.2.2.2.2.2.2.2.1,(x8.getD dB.toNat zq2).2.2.2.2.2.2.2.2.2.1,(x8.getD dB.toNat zq2).2.2.2.2.2.2.2.2.2.2.1)].length)*120≤140737488355328)then qH f (core,out++[(core,dB,(x8.getD dB.toNat zq2).1,(x8.getD dB.toNat zq2).2.1,(x8.getD dB.toNat zq2).2.2.1,(x8.getD dB.toNat zq2).2.2.2.1,(x8.getD dB.toNat zq2).2.2.2.2.1,(x8.getD dB.toNat zq2).2.2.2.2.2.1,(x8.getD dB.toNat zq2).2.2.2.2.2.2.1,(x8.getD dB.toNat zq2).2.2.2.2.2.2.2.1,(x8.getD dB.toNat zq2).2.2.2.2.2.2.2.2.1,(x8.getD dB.toNat zq2).2.2.2.2.2.2.2.2.2.1,(x8.getD dB.toNat zq2).2.2.2.2.2.2.2.2.2.2.1)],x8,x9,i64.wrap (dB+1))else none else none else qH f (core,out,x8,x9,i64.wrap (dB+1))else none else bif WX (out,())then some (SL (out,())).2 else none:=by kernel_rfl
noncomputable def j4:List aL→(Int×(List ag)×(List aL)×Int×Nat)→(List ag)
 | [],(core,out,x8,x9,dB)=>(SL (out,())).2
 | uu::rest,(core,out,x8,x9,dB)=>bif !cB uu then j4 rest (core,out++[(core,(↑dB:Int),uu.1,uu.2.1,uu.2.2.1,uu.2.2.2.1,uu.2.2.2.2.1,uu.2.2.2.2.2.1,uu.2.2.2.2.2.2.1,uu.2.2.2.2.2.2.2.1,uu.2.2.2.2.2.2.2.2.1,uu.2.2.2.2.2.2.2.2.2.1,uu.2.2.2.2.2.2.2.2.2.2.1)],x8,x9,dB+1)else j4 rest (core,out,x8,x9,dB+1)
noncomputable def jX:List aL→(Int×(List ag)×(List aL)×Int×Nat)→Bool
 | [],(core,out,x8,x9,dB)=>WX (out,())
 | uu::rest,(core,out,x8,x9,dB)=>bif !cB uu then af uu.2.2.2.1&&(decide ((out.length+1)*120≤140737488355328)&&jX rest (core,out++[(core,(↑dB:Int),uu.1,uu.2.1,uu.2.2.1,uu.2.2.2.1,uu.2.2.2.2.1,uu.2.2.2.2.2.1,uu.2.2.2.2.2.2.1,uu.2.2.2.2.2.2.2.1,uu.2.2.2.2.2.2.2.2.1,uu.2.2.2.2.2.2.2.2.2.1,uu.2.2.2.2.2.2.2.2.2.2.1)],x8,x9,dB+1))else jX rest (core,out,x8,x9,dB+1)
theorem C3:∀(rest:List aL) (core:Int) (out:List ag) (x8:List aL) (x9:Int) (dB:Nat) (hd:x8.drop dB=rest) (hn:x9=((x8.length:Nat):Int)) (hl:x8.length≤1099511627776),de (fun f=>qH f (core,out,x8,x9,((dB:Nat):Int))) (jX rest (core,out,x8,x9,dB)) (j4 rest (core,out,x8,x9,dB))
 | [],core,out,x8,x9,dB,hd,hn,hl=>ai (fun f=>(yz f _ _ _ _ _).trans (by simp only[iZ hn (bT hd),fW,azP,azI]<;>rfl)) (cS ae)
 | uu::rest,core,out,x8,x9,dB,hd,hn,hl=>ai (fun f=>(yz f _ _ _ _ _).trans (by simp only[iW hn (ak hd),cK (ak hd),bC hd,bk (ak hd) hl,fW,azQ,azH]<;>rfl)) (ao (aI (aI (C3 rest _ _ _ _ _ (aH hd) (by first | exact hn | simpa using hn) hl))) (C3 rest _ _ _ _ _ (aH hd) (by first | exact hn | simpa using hn) hl))
noncomputable def Hg:((List aL)×Int)→(List ag)
 | (l,core)=>j4 l (core,[],l,(↑l.length:Int),0)
noncomputable def GW:((List aL)×Int)→Bool
 | (l,core)=>decide (l.length≤1099511627776)&&jX l (core,[],l,(↑l.length:Int),0)
theorem T9:∀a:(List aL)×Int,de (fun f=>ab1 f a) (GW a) (Hg a)
 | (l,core)=>ai (fun f=>Ve f _ _) (bL fun hh=>C3 _ _ _ _ _ _ rfl (by first | rfl | simp) (azZ hh))
theorem NI(core:Int)(x8:List aL)(x9:Int):∀(r:List aL) (out:List ag) (i:Nat),(∀s∈r,af s.2.2.2.1=true)→out.length+r.length≤19→j4 r (core,out,x8,x9,i)=ca cj (out++wZ core r i)∧jX r (core,out,x8,x9,i)=true
 | [],out,i,h,hl=>by
  simp only[az2]at hl;refine⟨by simp[j4,wZ,SL],?_⟩;simp only[jX];exact azC (show out.length<20 by omega)
 | s::r,out,i,h,hl=>by
  simp only[azL]at hl;have hs:=h s (az1 ..);obtain⟨i1,i2⟩:=NI core x8 x9 r out (i+1) (fun e he=>h e (az6 _ he)) (by omega);obtain⟨j1,j2⟩:=NI core x8 x9 r (out++[aiE core ((i:Nat):Int) s]) (i+1) (fun e he=>h e (az6 _ he)) (by simp;omega);simp only[j4,jX,wZ];cases cB s
  ·refine⟨j1.trans (by simp),?_⟩
   simp only[aBh,azH,hs,azP,azF,azM];exact⟨by first | omega | (simp only[azL,az2];omega),j2⟩
  ·exact⟨i1,i2⟩
theorem Ex:∀a:List aL×Int,Ua a=true→GW a=true∧Hg a=jQ a:=by
 rintro⟨l,core⟩ h;obtain⟨h1,h2⟩:=aAk.1 h;have h2:l.length≤19:=azZ h2;obtain⟨i1,i2⟩:=NI core l ((l.length:Nat):Int) l [] 0 (fun s hs=>gk h1 hs) (by simpa using h2);simp only[GW,Hg,i1,i2,aAt];exact⟨azC (by omega),rfl⟩
noncomputable def ant:dn:=⟨58,[.rd bg,.c zI],[.o 69 13 aF],Ua,jQ⟩
theorem VL:zO ant:=fl O1 Ai [.tmp 4] mixed (gu ac8 (ah wh (ah xA (aC)))) Tryz.func58 (bp T9 (fun a h=>(Ex a h).1) (fun a h=>(Ex a h).2))
noncomputable def ahK:cX:=zC [Hm] (dE [(6,([(0,[]),(1,[]),(2,[]),(3,[]),(4,[]),(5,[]),(6,[]),(7,[]),(8,[]),(9,[]),(10,[]),(11,[]),(12,[]),(13,[]),(14,[]),(15,[]),(16,[]),(17,[]),(18,[]),(19,[]),(20,[]),(21,[]),(22,[]),(23,[]),(24,[]),(25,[]),(26,[]),(27,[]),(28,[]),(29,[]),(30,[]),(31,[]),(32,[]),(33,[]),(34,[]),(35,[]),(36,[]),(37,[])],[(17,54)]))]) 55
theorem anM:jh Tryz.prog [Hm] [] []:=ah OC (aC)
def afE:Nat→LD:=eO [(0,⟨[.rd 0 aF,.rd 1 aF,.c 5 (zI)],[],0⟩)]
noncomputable def akf(f:Nat)(a:(List ag)×(List ag)):Option Bool:=aG ahK afE (zK [.tmp 4] [.v .bool]) f [.code (aB Tryz.f30)] (aQ [.rd aF,.rd aF] a)
noncomputable def aeC(f:Nat)(x:(List ag)×(List ag)×Int):Option Bool:=aG ahK afE (zK [.tmp 4] [.v .bool]) f (aV Tryz.f30 0) ((afE 0).mk' x)
theorem aih(f:Nat)(a b:List ag):akf (f+1) (a,b) =
  bif(↑a.length:Int) != (↑b.length:Int)then some false else aeC f (a,b,0):=by kernel_rfl
theorem aeF(f:Nat)(a b:List ag)(i:Int):aeC (f+1) (a,b,i) =
  bif decide (i<(↑a.length:Int))then bif decide (0≤i)&&decide (i<(↑a.length:Int))then bif decide (0≤i)&&decide (i<(↑b.length:Int))then bif(a.getD i.toNat zq1).1 != (b.getD i.toNat zq1).1 then some false else bif decide (0≤i)&&decide (i<(↑a.length:Int))then bif decide (0≤i)&&decide (i<(↑b.length:Int))then bif(a.getD i.toNat zq1).2.1 != (b.getD i.toNat zq1).2.1 then some false else bif decide (0≤i)&&decide (i<(↑a.length:Int))then bif decide (0≤i)&&decide (i<(↑b.length:Int))then bif af (a.getD i.toNat zq1).2.2.2.2.2.1 then bif !decide ((a.getD i.toNat zq1).2.2=(b.getD i.toNat zq1).2.2)then some false else aeC f (a,b,i64.wrap (i+1))else none else none else none else none else none else none else none else some true:=by kernel_rfl
noncomputable def aex:List ag→((List ag)×(List ag)×Nat)→Bool
 | [],(a,b,i)=>true
 | uu::rest,(a,b,i)=>bif uu.1 != (b.getD (↑i:Int).toNat zq1).1 then false else bif uu.2.1 != (b.getD (↑i:Int).toNat zq1).2.1 then false else bif !decide (uu.2.2=(b.getD (↑i:Int).toNat zq1).2.2)then false else aex rest (a,b,i+1)
noncomputable def aew:List ag→((List ag)×(List ag)×Nat)→Bool
 | [],(a,b,i)=>true
 | uu::rest,(a,b,i)=>decide ((↑i:Int)<(↑b.length:Int))&&bif uu.1 != (b.getD (↑i:Int).toNat zq1).1 then true else decide ((↑i:Int)<(↑b.length:Int))&&bif uu.2.1 != (b.getD (↑i:Int).toNat zq1).2.1 then true else decide ((↑i:Int)<(↑b.length:Int))&&(af uu.2.2.2.2.2.1&&bif !decide (uu.2.2=(b.getD (↑i:Int).toNat zq1).2.2)then true else aew rest (a,b,i+1))
theorem agH:∀(rest a b:List ag) (i:Nat) (hd:a.drop i=rest) (hl:a.length≤1099511627776),de (fun f=>aeC f (a,b,((i:Nat):Int))) (aew rest (a,b,i)) (aex rest (a,b,i))
 | [],a,b,i,hd,hl=>ai (fun f=>(aeF f _ _ _).trans (by simp only[fA (bT hd),fW,azP,azI]<;>rfl)) ae
 | uu::rest,a,b,i,hd,hl=>ai (fun f=>(aeF f _ _ _).trans (by simp only[cK (ak hd),bC hd,bk (ak hd) hl,fW,azQ,azP,azH]<;>rfl)) (aI (ao ae (aI (ao ae (aI (aI (ao ae (agH rest _ _ _ (aH hd) hl))))))))
noncomputable def agq:((List ag)×(List ag))→Bool
 | (a,b)=>bif(↑a.length:Int) != (↑b.length:Int)then false else aex a (a,b,0)
noncomputable def agh:((List ag)×(List ag))→Bool
 | (a,b)=>bif(↑a.length:Int) != (↑b.length:Int)then true else decide (a.length≤1099511627776)&&aew a (a,b,0)
theorem ahY:∀a:(List ag)×(List ag),de (fun f=>akf f a) (agh a) (agq a)
 | (a,b)=>ai (fun f=>aih f _ _) (ao ae (bL fun hh=>agH _ _ _ _ rfl (azZ hh)))
theorem ait(a b:List ag)(hab:a.length=b.length):∀(r q p:List ag),b=p++q→r.length=q.length→(∀e∈r,af e.2.2.2.2.2.1=true)→aex r (a,b,p.length)=decide (r=q)∧aew r (a,b,p.length)=true
 | [],[],p,hb,h,ho=>⟨rfl,rfl⟩
 | [],u::q,p,hb,h,ho=>by simp at h
 | u::r,[],p,hb,h,ho=>by simp at h
 | u::r,v::q,p,hb,h,ho=>by
  simp only[azL]at h;obtain⟨i1,i2⟩:=ait a b hab r q (p++[v]) (by simpa using hb) (by omega) (fun e he=>ho e (az6 _ he));rw[show(p++[v]).length=p.length+1 by simp]at i1 i2;have hu:=ho u (az1 ..);have hg:b.getD (((p.length:Nat):Int)).toNat zq1=v:=by rw[hb];exact ZH ..
  have bO:decide (((p.length:Nat):Int)<((b.length:Nat):Int))=true:=by rw[hb];exact M9 ..
  simp only[aex,aew,hg,bO,hu,i1,i2,azP];have e:decide (u::r=v::q)=(decide (u.1=v.1)&&(decide (u.2.1=v.2.1)&&(decide (u.2.2=v.2.2)&&decide (r=q)))):=by
   rw[aBM];simp only[azM,azF,aBw];constructor
   ·rintro⟨rfl,h4⟩;exact⟨rfl,rfl,rfl,h4⟩
   ·rintro⟨h1,h2,h3,h4⟩;exact⟨Prod.ext h1 (Prod.ext h2 h3),h4⟩
  rw[e];have b1:(u.1 != v.1) = !decide (u.1=v.1):=ahe _ _;have b2:(u.2.1 != v.2.1) = !decide (u.2.1=v.2.1):=ahe _ _;rw[b1,b2];cases decide (u.1=v.1)
  ·exact⟨rfl,rfl⟩
  cases decide (u.2.1=v.2.1)
  ·exact⟨rfl,rfl⟩
  cases decide (u.2.2=v.2.2)
  ·exact⟨rfl,rfl⟩
  exact⟨rfl,rfl⟩
theorem ags:∀a:List ag×List ag,(fun a:List ag×List ag=>wL a.1) a=true→agh a=true∧agq a=(fun a:List ag×List ag=>decide (a.1=a.2)) a:=by
 rintro⟨a,b⟩ h;have h:wL a=true:=h;by_cases hl:a.length=b.length
 ·obtain⟨i1,i2⟩:=ait a b hl a b [] rfl hl (fun e he=>zj h he)
  have e:(((a.length:Nat):Int) != ((b.length:Nat):Int))=false:=by rw[hl];simp
  simp only[az2]at i1 i2;simp only[agh,agq,e,i1,i2,azI,aAt];exact⟨azC (ki h),trivial⟩
 ·have e:(((a.length:Nat):Int) != ((b.length:Nat):Int))=true:=by
   rw[ahe,azK (by omega)];rfl
  simp only[agh,agq,e,azH];exact⟨trivial,(azK (fun h=>hl (by rw[h]))).symm⟩
abbrev ais:=bp ahY (fun a h=>(ags a h).1) (fun a h=>(ags a h).2)
noncomputable def ahC:dn:=⟨30,[.rd aF,.rd aF],[.v .bool],fun a:(List ag)×(List ag)=>wL a.1,fun a:(List ag)×(List ag)=>decide (a.1=a.2)⟩
theorem aik:ahC.Ok Tryz.prog:=fun a hp vs hv=>(ais a hp).elim fun f h=>iI (C:=ahK) (Lt:=afE) (fn:=Tryz.f30) (rs:=[.tmp 4]) [.rd aF,.rd aF] [.v .bool] mixed anM Tryz.func30 rfl rfl rfl (by kernel_rfl) (by kernel_rfl) f h vs hv
abbrev bV:List Ty:=[zI,zI,zI,zI,zI,zI,zI,zI,zI,zI,zI,zI,zI,zI,zI,zI,zI,zI,zI,zI,.sl aE,zI,zI,zI,zI,zI,zI,.bool]
abbrev bR:=Int×Int×Int×Int×Int×Int×Int×Int×Int×Int×Int×Int×Int×Int×Int×Int×Int×Int×Int×Int×(List aj)×Int×Int×Int×Int×Int×Int×Bool
abbrev gJ:List Ty:=[zI,zI,zI,zI]
abbrev tm:=Int×Int×Int×Int
abbrev dH:List Ty:=sF
abbrev dv:=Int×Int
abbrev SCl:=Int×Int×Int×Int×Int×Int×Int×Int×Int×Int×Int×Int
abbrev bl:List Ty:=[.sl bg,.sl bV,.sl gJ,.sl sF,.sl aF,.sl aE]
abbrev ay:=(List aL)×(List bR)×(List tm)×(List Rg)×(List ag)×(List aj)
abbrev tP:List Ty:=[zI,zI,.bool]
abbrev eB:=Int×Int×Bool
noncomputable def Ht:cX:=zC [] (dE [(6,([(0,[]),(1,[]),(2,[]),(3,[]),(4,[]),(5,[]),(6,[]),(7,[]),(8,[])],[(17,25)]))]) 26
def vC:Nat→LD:=eO [(0,⟨[.rd 0 aE,.rd 1 aE,.c 5 (zI)],[],0⟩)]
noncomputable def QX(f:Nat)(a:(List aj)×(List aj)):Option Bool:=aG Ht vC (zK [.tmp 4] [.v .bool]) f [.code (aB Tryz.f37)] (aQ [.rd aE,.rd aE] a)
noncomputable def rE(f:Nat)(x:(List aj)×(List aj)×Int):Option Bool:=aG Ht vC (zK [.tmp 4] [.v .bool]) f (aV Tryz.f37 0) ((vC 0).mk' x)
theorem N9(f:Nat)(a b:List aj):QX (f+1) (a,b) =
  bif(↑a.length:Int) != (↑b.length:Int)then some false else rE f (a,b,0):=by kernel_rfl
theorem vK(f:Nat)(a b:List aj)(i:Int):rE (f+1) (a,b,i) =
  bif decide (i<(↑a.length:Int))then bif decide (0≤i)&&decide (i<(↑a.length:Int))then bif decide (0≤i)&&decide (i<(↑b.length:Int))then bif !((a.getD i.toNat (0,0,0)).1 == (b.getD i.toNat (0,0,0)).1&&((a.getD i.toNat (0,0,0)).2.1 == (b.getD i.toNat (0,0,0)).2.1&&((a.getD i.toNat (0,0,0)).2.2 == (b.getD i.toNat (0,0,0)).2.2&&true)))then some false else rE f (a,b,i64.wrap (i+1))else none else none else some true:=by kernel_rfl
noncomputable def xz:List aj→((List aj)×(List aj)×Nat)→Bool
 | [],(a,b,i)=>true
 | uu::rest,(a,b,i)=>bif !(uu.1 == (b.getD (↑i:Int).toNat (0,0,0)).1&&(uu.2.1 == (b.getD (↑i:Int).toNat (0,0,0)).2.1&&(uu.2.2 == (b.getD (↑i:Int).toNat (0,0,0)).2.2&&true)))then false else xz rest (a,b,i+1)
noncomputable def xt:List aj→((List aj)×(List aj)×Nat)→Bool
 | [],(a,b,i)=>true
 | uu::rest,(a,b,i)=>decide ((↑i:Int)<(↑b.length:Int))&&bif !(uu.1 == (b.getD (↑i:Int).toNat (0,0,0)).1&&(uu.2.1 == (b.getD (↑i:Int).toNat (0,0,0)).2.1&&(uu.2.2 == (b.getD (↑i:Int).toNat (0,0,0)).2.2&&true)))then true else xt rest (a,b,i+1)
theorem E9:∀(rest a b:List aj) (i:Nat) (hd:a.drop i=rest) (hl:a.length≤1099511627776),de (fun f=>rE f (a,b,((i:Nat):Int))) (xt rest (a,b,i)) (xz rest (a,b,i))
 | [],a,b,i,hd,hl=>ai (fun f=>(vK f _ _ _).trans (by simp only[fA (bT hd),fW,azP,azI]<;>rfl)) ae
 | uu::rest,a,b,i,hd,hl=>ai (fun f=>(vK f _ _ _).trans (by simp only[cK (ak hd),bC hd,bk (ak hd) hl,fW,azQ,azP,azH]<;>rfl)) (aI (ao ae (E9 rest _ _ _ (aH hd) hl)))
noncomputable def G9:((List aj)×(List aj))→Bool
 | (a,b)=>bif(↑a.length:Int) != (↑b.length:Int)then false else xz a (a,b,0)
noncomputable def GP:((List aj)×(List aj))→Bool
 | (a,b)=>bif(↑a.length:Int) != (↑b.length:Int)then true else decide (a.length≤1099511627776)&&xt a (a,b,0)
theorem Ms:∀a:(List aj)×(List aj),de (fun f=>QX f a) (GP a) (G9 a)
 | (a,b)=>ai (fun f=>N9 f _ _) (ao ae (bL fun hh=>E9 _ _ _ _ rfl (azZ hh)))
theorem afh:∀a:List aj×List aj,decide (a.2=[])=true→GP a=true:=fun a h=>by
 obtain⟨a,b⟩:=a;have h:b=[]:=azZ h;subst h;simp only[GP,zp];cases a with
 | nil=>rfl
 | cons x l=>simp
theorem afi:∀a:List aj×List aj,decide (a.2=[])=true→G9 a=decide (a.1=a.2):=fun a h=>by
 obtain⟨a,b⟩:=a;have h:b=[]:=azZ h;subst h;simp only[G9,zp];cases a with
 | nil=>rfl
 | cons x l=>simp
noncomputable def RY:dn:=⟨37,[.rd aE,.rd aE],[.v .bool],fun a:(List aj)×(List aj)=>decide (a.2=[]),fun a:(List aj)×(List aj)=>decide (a.1=a.2)⟩
theorem OE:zO RY:=fl Ht vC [.tmp 4] mixed (aC) Tryz.func37 (bp Ms afh afi)
noncomputable def Sf:cX:=zC [RY] (dE []) 24
noncomputable def QU(f:Nat)(a:cu×cu):Option Bool:=aG Sf (eO []) (zK [.tmp 4] [.v .bool]) f [.code (aB Tryz.f21)] (aQ [.g gA,.g gA] a)
theorem N6(f:Nat)(a b:cu):QU (f+1) (a,b) =
  bif a.1 == b.1&&(a.2.1 == b.2.1&&(a.2.2.1 == b.2.2.1&&true))then bif a.2.2.2.2.1 == b.2.2.2.2.1&&(a.2.2.2.2.2.1 == b.2.2.2.2.2.1&&(a.2.2.2.2.2.2.1 == b.2.2.2.2.2.2.1&&(a.2.2.2.2.2.2.2.1 == b.2.2.2.2.2.2.2.1&&(a.2.2.2.2.2.2.2.2.1 == b.2.2.2.2.2.2.2.2.1&&(a.2.2.2.2.2.2.2.2.2.1 == b.2.2.2.2.2.2.2.2.2.1&&(a.2.2.2.2.2.2.2.2.2.2 == b.2.2.2.2.2.2.2.2.2.2&&true))))))then bif decide (b.2.2.2.1=[])then some (decide (a.2.2.2.1=b.2.2.2.1))else none else some false else some false:=by kernel_rfl
noncomputable def RJ:(cu×cu)→Bool
 | (a,b)=>bif a.1 == b.1&&(a.2.1 == b.2.1&&(a.2.2.1 == b.2.2.1&&true))then bif a.2.2.2.2.1 == b.2.2.2.2.1&&(a.2.2.2.2.2.1 == b.2.2.2.2.2.1&&(a.2.2.2.2.2.2.1 == b.2.2.2.2.2.2.1&&(a.2.2.2.2.2.2.2.1 == b.2.2.2.2.2.2.2.1&&(a.2.2.2.2.2.2.2.2.1 == b.2.2.2.2.2.2.2.2.1&&(a.2.2.2.2.2.2.2.2.2.1 == b.2.2.2.2.2.2.2.2.2.1&&(a.2.2.2.2.2.2.2.2.2.2 == b.2.2.2.2.2.2.2.2.2.2&&true))))))then decide (a.2.2.2.1=b.2.2.2.1)else false else false
noncomputable def GN:(cu×cu)→Bool
 | (a,b)=>bif a.1 == b.1&&(a.2.1 == b.2.1&&(a.2.2.1 == b.2.2.1&&true))then bif a.2.2.2.2.1 == b.2.2.2.2.1&&(a.2.2.2.2.2.1 == b.2.2.2.2.2.1&&(a.2.2.2.2.2.2.1 == b.2.2.2.2.2.2.1&&(a.2.2.2.2.2.2.2.1 == b.2.2.2.2.2.2.2.1&&(a.2.2.2.2.2.2.2.2.1 == b.2.2.2.2.2.2.2.2.1&&(a.2.2.2.2.2.2.2.2.2.1 == b.2.2.2.2.2.2.2.2.2.1&&(a.2.2.2.2.2.2.2.2.2.2 == b.2.2.2.2.2.2.2.2.2.2&&true))))))then decide (b.2.2.2.1=[])else true else true
theorem Mq:∀a:cu×cu,de (fun f=>QU f a) (GN a) (RJ a)
 | (a,b)=>ai (fun f=>N6 f _ _) (ao (ao (cS ae) ae) ae)
theorem afc:∀a:cu×cu,decide (a.2.2.2.2.1=[])=true→GN a=true:=fun a h=>by
 simp only[GN];exact GB (GB h)
theorem afd:∀a:cu×cu,decide (a.2.2.2.2.1=[])=true→RJ a=decide (a.1=a.2):=fun a h=>PO a.1 a.2
noncomputable def Hk:dn:=⟨21,[.g gA,.g gA],[.v .bool],fun a:cu×cu=>decide (a.2.2.2.2.1=[]),fun a:cu×cu=>decide (a.1=a.2)⟩
theorem OB:zO Hk:=fl Sf (eO []) [.tmp 4] mixed (ah OE (aC)) Tryz.func21 (bp Mq afc afd)
instance awk:DecidableEq SCl:=@instDecidableEqProd Int _ _ (@instDecidableEqProd Int _ _ (@instDecidableEqProd Int _ _ (@instDecidableEqProd Int _ _ (@instDecidableEqProd Int _ _ (@instDecidableEqProd Int _ _ (@instDecidableEqProd Int _ _ (@instDecidableEqProd Int _ _ (@instDecidableEqProd Int _ _ inferInstance))))))))
theorem atV(a b:SCl):(a.1 == b.1&&(a.2.1 == b.2.1&&(a.2.2.1 == b.2.2.1&&(a.2.2.2.1 == b.2.2.2.1&&(a.2.2.2.2.1 == b.2.2.2.2.1&&(a.2.2.2.2.2.1 == b.2.2.2.2.2.1&&(a.2.2.2.2.2.2.1 == b.2.2.2.2.2.2.1&&(a.2.2.2.2.2.2.2.1 == b.2.2.2.2.2.2.2.1&&(a.2.2.2.2.2.2.2.2.1 == b.2.2.2.2.2.2.2.2.1&&(a.2.2.2.2.2.2.2.2.2.1 == b.2.2.2.2.2.2.2.2.2.1&&(a.2.2.2.2.2.2.2.2.2.2.1 == b.2.2.2.2.2.2.2.2.2.2.1&&(a.2.2.2.2.2.2.2.2.2.2.2 == b.2.2.2.2.2.2.2.2.2.2.2&&true))))))))))))=decide (a=b):=by
 obtain⟨a0,a1,a2,a3,a4,a5,a6,a7,a8,a9,a10,a11⟩:=a;obtain⟨b0,b1,b2,b3,b4,b5,b6,b7,b8,b9,b10,b11⟩:=b;rw[aBM,azM];simp
def tZ(r:bR):aj:=(r.1,r.2.1,r.2.2.1)
def sQ(r:bR):SCl:=(r.2.2.2.1,r.2.2.2.2.1,r.2.2.2.2.2.1,r.2.2.2.2.2.2.1,r.2.2.2.2.2.2.2.1,r.2.2.2.2.2.2.2.2.1,r.2.2.2.2.2.2.2.2.2.1,r.2.2.2.2.2.2.2.2.2.2.1,r.2.2.2.2.2.2.2.2.2.2.2.1,r.2.2.2.2.2.2.2.2.2.2.2.2.1,r.2.2.2.2.2.2.2.2.2.2.2.2.2.1,r.2.2.2.2.2.2.2.2.2.2.2.2.2.2.1)
def rrg(r:bR):Int:=r.2.2.2.2.2.2.2.2.2.2.2.2.2.2.2.1
def rwd(r:bR):Int:=r.2.2.2.2.2.2.2.2.2.2.2.2.2.2.2.2.1
def Xk(r:bR):cu:=(r.2.2.2.2.2.2.2.2.2.2.2.2.2.2.2.2.2.1,r.2.2.2.2.2.2.2.2.2.2.2.2.2.2.2.2.2.2.1,r.2.2.2.2.2.2.2.2.2.2.2.2.2.2.2.2.2.2.2.1,r.2.2.2.2.2.2.2.2.2.2.2.2.2.2.2.2.2.2.2.2.1,r.2.2.2.2.2.2.2.2.2.2.2.2.2.2.2.2.2.2.2.2.2.1,r.2.2.2.2.2.2.2.2.2.2.2.2.2.2.2.2.2.2.2.2.2.2.1,r.2.2.2.2.2.2.2.2.2.2.2.2.2.2.2.2.2.2.2.2.2.2.2.1,r.2.2.2.2.2.2.2.2.2.2.2.2.2.2.2.2.2.2.2.2.2.2.2.2.1,r.2.2.2.2.2.2.2.2.2.2.2.2.2.2.2.2.2.2.2.2.2.2.2.2.2.1,r.2.2.2.2.2.2.2.2.2.2.2.2.2.2.2.2.2.2.2.2.2.2.2.2.2.2.1,r.2.2.2.2.2.2.2.2.2.2.2.2.2.2.2.2.2.2.2.2.2.2.2.2.2.2.2)
def apm(i:aj)(k:SCl)(g w:Int)(n:cu):bR:=(i.1,i.2.1,i.2.2,k.1,k.2.1,k.2.2.1,k.2.2.2.1,k.2.2.2.2.1,k.2.2.2.2.2.1,k.2.2.2.2.2.2.1,k.2.2.2.2.2.2.2.1,k.2.2.2.2.2.2.2.2.1,k.2.2.2.2.2.2.2.2.2.1,k.2.2.2.2.2.2.2.2.2.2.1,k.2.2.2.2.2.2.2.2.2.2.2,g,w,n.1,n.2.1,n.2.2.1,n.2.2.2.1,n.2.2.2.2.1,n.2.2.2.2.2.1,n.2.2.2.2.2.2.1,n.2.2.2.2.2.2.2.1,n.2.2.2.2.2.2.2.2.1,n.2.2.2.2.2.2.2.2.2.1,n.2.2.2.2.2.2.2.2.2.2)
instance awi:DecidableEq bR:=@instDecidableEqProd Int _ _ (@instDecidableEqProd Int _ _ (@instDecidableEqProd Int _ _ (@instDecidableEqProd Int _ _ (@instDecidableEqProd Int _ _ (@instDecidableEqProd Int _ _ (@instDecidableEqProd Int _ _ (@instDecidableEqProd Int _ _ (@instDecidableEqProd Int _ _ (@instDecidableEqProd Int _ _ (@instDecidableEqProd Int _ _ (@instDecidableEqProd Int _ _ (@instDecidableEqProd Int _ _ (@instDecidableEqProd Int _ _ (@instDecidableEqProd Int _ _ (@instDecidableEqProd Int _ _ (@instDecidableEqProd Int _ _ (@instDecidableEqProd Int _ _ (@instDecidableEqProd Int _ _ (@instDecidableEqProd Int _ _ (@instDecidableEqProd (List aj) _ _ (@instDecidableEqProd Int _ _ (@instDecidableEqProd Int _ _ (@instDecidableEqProd Int _ _ (@instDecidableEqProd Int _ _ (@instDecidableEqProd Int _ _ inferInstance)))))))))))))))))))))))))
theorem asN(a b:bR):decide (a=b)=(decide (tZ a=tZ b)&&(decide (sQ a=sQ b)&&(decide (rrg a=rrg b)&&(decide (rwd a=rwd b)&&decide (Xk a=Xk b))))):=by
 rw[aBM];simp only[azF,azM];constructor
 ·rintro rfl;exact⟨rfl,rfl,rfl,rfl,rfl⟩
 ·rintro⟨h1,h2,h3,h4,h5⟩
  obtain⟨a0,a1,a2,a3,a4,a5,a6,a7,a8,a9,a10,a11,a12,a13,a14,a15,a16,a17,a18,a19,a20,a21,a22,a23,a24,a25,a26,a27⟩:=a;obtain⟨b0,b1,b2,b3,b4,b5,b6,b7,b8,b9,b10,b11,b12,b13,b14,b15,b16,b17,b18,b19,b20,b21,b22,b23,b24,b25,b26,b27⟩:=b;simp only[tZ,sQ,rrg,rwd,Xk,azY]at h1 h2 h3 h4 h5;obtain⟨k0,k1,k2⟩:=h1;obtain⟨k3,k4,k5,k6,k7,k8,k9,k10,k11,k12,k13,k14⟩:=h2;obtain⟨k17,k18,k19,k20,k21,k22,k23,k24,k25,k26,k27⟩:=h5;subst k0 k1 k2 k3 k4 k5 k6 k7 k8 k9 k10 k11 k12 k13 k14 h3 h4 k17 k18 k19 k20 k21 k22 k23 k24 k25 k26 k27;rfl
def Pu(r:bR):List aj:=r.2.2.2.2.2.2.2.2.2.2.2.2.2.2.2.2.2.2.2.2.1
def ke(l:List bR):Bool:=decide (l.length≤68719476736)&&l.all fun r=>af (Pu r)
theorem Bj{l:List bR}(h:ke l=true):l.length≤68719476736:=by
 simp only[ke,azF,azM]at h;exact h.1
theorem uq{l:List bR}(h:ke l=true){s:bR}(hs:s∈l):af (Pu s)=true:=by
 simp only[ke,azF]at h;exact azU.1 h.2 s hs
noncomputable def ad7:cX:=zC [ni] (dE []) 8
noncomputable def abG(f:Nat)(a:bR):Option bR:=aG ad7 (eO []) (zK [.cell 2 56] [.g bV]) f [.code (aB Tryz.f86)] (aQ [.g bV] a)
theorem U1(f:Nat)(r:bR):abG (f+1) r =
  bif af r.2.2.2.2.2.2.2.2.2.2.2.2.2.2.2.2.2.2.2.2.1 then some r else none:=by kernel_rfl
noncomputable def acI:bR→bR
 | r=>r
noncomputable def aaW:bR→Bool
 | r=>af r.2.2.2.2.2.2.2.2.2.2.2.2.2.2.2.2.2.2.2.2.1
theorem Ti:∀a:bR,de (fun f=>abG f a) (aaW a) (acI a)
 | r=>ai (fun f=>U1 f _) (cS ae)
theorem akU:∀a:bR,af (Pu a)=true→aaW a=true:=fun a h=>h
theorem akV:∀a:bR,af (Pu a)=true→acI a=a:=fun a h=>rfl
noncomputable def adl:dn:=⟨86,[.g bV],[.g bV],fun a:bR=>af (Pu a),fun a:bR=>a⟩
theorem VB:zO adl:=fl ad7 (eO []) [.cell 2 56] mixed (ah gR (aC)) Tryz.func86 (bp Ti akU akV)
noncomputable def OW:cX:=zC [adl] (dE []) 20
def Ac:Nat→LD:=eO [(0,⟨[.rd 0 bV,.list 3 999 56 28 bV,.c 4 (zI)],[],0⟩)]
noncomputable def abF(f:Nat)(a:(List bR)):Option ((List bR)):=aG OW Ac (zK [.tmp 2] [.o 56 28 bV]) f [.code (aB Tryz.f52)] (aQ [.rd bV] a)
noncomputable def vR(f:Nat)(x:(List bR)×(List bR)×Int):Option ((List bR)):=aG OW Ac (zK [.tmp 2] [.o 56 28 bV]) f (aV Tryz.f52 0) ((Ac 0).mk' x)
theorem U0(f:Nat)(l:List bR):abF (f+1) l =
  vR f (l,[],0):=by kernel_rfl
theorem yn(f:Nat)(l out:List bR)(i:Int):vR (f+1) (l,out,i) =
  bif decide (i<(↑l.length:Int))then bif decide (0≤i)&&decide (i<(↑l.length:Int))then bif af (Pu (l.getD i.toNat zq3))then bif decide ((out.length+[l.getD i.toNat zq3].length)*240≤140737488355328)then vR f (l,out++[l.getD i.toNat zq3],i64.wrap (i+1))else none else none else none else some out:=by kernel_rfl
noncomputable def lW:List bR→((List bR)×(List bR)×Nat)→(List bR)
 | [],(l,out,i)=>out
 | uu::rest,(l,out,i)=>lW rest (l,out++[uu],i+1)
noncomputable def qk:List bR→((List bR)×(List bR)×Nat)→Bool
 | [],(l,out,i)=>true
 | uu::rest,(l,out,i)=>af (Pu uu)&&(decide ((out.length+[uu].length)*240≤140737488355328)&&qk rest (l,out++[uu],i+1))
theorem LX:∀(rest l out:List bR) (i:Nat) (hd:l.drop i=rest) (hl:l.length≤1099511627776),de (fun f=>vR f (l,out,((i:Nat):Int))) (qk rest (l,out,i)) (lW rest (l,out,i))
 | [],l,out,i,hd,hl=>ai (fun f=>(yn f _ _ _).trans (by simp only[fA (bT hd),fW,azP,azI]<;>rfl)) ae
 | uu::rest,l,out,i,hd,hl=>ai (fun f=>(yn f _ _ _).trans (by simp only[cK (ak hd),bC hd,bk (ak hd) hl,fW,azQ,azH]<;>rfl)) (aI (aI (LX rest _ _ _ (aH hd) hl)))
noncomputable def Ow:(List bR)→(List bR)
 | l=>lW l (l,[],0)
noncomputable def N0:(List bR)→Bool
 | l=>decide (l.length≤1099511627776)&&qk l (l,[],0)
theorem Th:∀a:(List bR),de (fun f=>abF f a) (N0 a) (Ow a)
 | l=>ai (fun f=>U0 f _) (bL fun hh=>LX _ _ _ _ rfl (azZ hh))
theorem MG(l:List bR):∀(r out:List bR) (k:Nat),(∀e∈r,af (Pu e)=true)→out.length+r.length≤68719476736→lW r (l,out,k)=out++r∧qk r (l,out,k)=true
 | [],out,k,h,hl=>⟨by simp[lW],rfl⟩
 | u::r,out,k,h,hl=>by
  obtain⟨i1,i2⟩:=MG l r (out++[u]) (k+1) (fun e he=>h e (az6 _ he)) (by simp at hl ⊢;omega);have h1:af (Pu u)=true:=h u (az1 ..);simp only[azL]at hl;simp only[lW,qk,i1,i2,h1];exact⟨by simp,by simp only[azL,az2,aAt,azP,azM];omega⟩
theorem akS:∀a,ke a=true→N0 a=true:=fun a h=>by
 have:=Bj h;simp only[N0,(MG a a [] 0 (fun e he=>uq h he) (by simpa using this)).2,aAt];exact azC (by omega)
theorem akT:∀a,ke a=true→Ow a=a:=fun a h=>by
 simp only[Ow,(MG a a [] 0 (fun e he=>uq h he) (by simpa using Bj h)).1,aAs]
noncomputable def adk:dn:=⟨52,[.rd bV],[.o 56 28 bV],ke,fun a:(List bR)=>a⟩
theorem VA:zO adk:=fl OW Ac [.tmp 2] mixed (ah VB (aC)) Tryz.func52 (bp Th akS akT)
noncomputable def Hy:cX:=zC [] (dE []) 8
theorem Gj:jh Tryz.prog []:=aC
theorem ani(l:List bR):(aG Hy (fun _=>⟨[],[],0⟩) (zK [.tmp 2] [.o 56 28 bV]) 1 [.code (aB Tryz.f125)] (aQ [.rd bV] l):Option (eC [.o 56 28 bV]))=bif Decidable.decide (0<l.length)&&Bool.true then bif Decidable.decide ((([]:List Nat).length+l.length)*(bytesOf Tryz.prog 56)≤140737488355328)then some l else none else none:=by kernel_rfl
noncomputable def adn:dn:=⟨125,[.rd bV],[.o 56 28 bV],fun a=>wP (a:List bR),fun a=>(a:List bR)⟩
theorem VD:adn.Ok Tryz.prog:=fun a hp vs hv=>B3 (τ:=bV) (t:=56) (es:=28)
  (fun a h0 h1 vs hv=>iI (C:=Hy) (Lt:=fun _=>⟨[],[],0⟩) (fn:=Tryz.f125) (rs:=[.tmp 2]) [.rd bV] [.o 56 28 bV] mixed Gj Tryz.func125 rfl rfl rfl (by kernel_rfl) (by kernel_rfl) 1 ((ani a).trans (xX h0 h1 (by decide +kernel))) vs hv)
  (iI (C:=Hy) (Lt:=fun _=>⟨[],[],0⟩) (fn:=Tryz.f125) (rs:=[.tmp 2]) (a:=()) [.raw (.slice none 0 0)] [.o 56 28 bV] mixed Gj Tryz.func125 rfl rfl rfl (by kernel_rfl) (by kernel_rfl) 1 (by kernel_rfl) _ (by simp only[bY,ed,lZ];exact⟨_,rfl,rfl⟩))
  (fun b c=>iI (C:=Hy) (Lt:=fun _=>⟨[],[],0⟩) (fn:=Tryz.f125) (rs:=[.tmp 2]) (a:=()) [.raw (.slice (some b) 0 c)] [.o 56 28 bV] mixed Gj Tryz.func125 rfl rfl rfl (by kernel_rfl) (by kernel_rfl) 1 (by kernel_rfl) _ (by simp only[bY,ed,lZ];exact⟨_,rfl,rfl⟩))
  a (azZ hp) vs hv
noncomputable def O3:cX:=zC [adn,CY] (dE []) 24
def Ak:Nat→LD:=eO [(0,⟨[.list 3 999 56 28 bV,.c 8 (zI),.c 9 (zI)],[],0⟩)]
noncomputable def acf(f:Nat)(a:(List bR)):Option ((List bR)):=aG O3 Ak (zK [.tmp 2] [.o 56 28 bV]) f [.code (aB Tryz.f88)] (aQ [.rd bV] a)
noncomputable def vZ(f:Nat)(x:(List bR)×Int×Int):Option ((List bR)):=aG O3 Ak (zK [.tmp 2] [.o 56 28 bV]) f (aV Tryz.f88 0) ((Ak 0).mk' x)
theorem Vl(f:Nat)(l:List bR):acf (f+1) l =
  bif wP l then vZ f (l,(↑l.length:Int),0)else none:=by kernel_rfl
theorem yB(f:Nat)(out:List bR)(x8 x9:Int):vZ (f+1) (out,x8,x9) =
  bif decide (x9<x8)then bif decide (0≤x9)&&decide (x9<(↑out.length:Int))then bif af (out.getD x9.toNat zq3).2.2.2.2.2.2.2.2.2.2.2.2.2.2.2.2.2.2.2.2.1 then bif decide (0≤x9)&&decide (x9<(↑out.length:Int))then vZ f (out.set x9.toNat (out.getD x9.toNat zq3),x8,i64.wrap (x9+1))else none else none else none else some out:=by kernel_rfl
noncomputable def qM:List bR→((List bR)×Int×Nat)→(List bR)
 | [],(out,x8,x9)=>out
 | uu::rest,(out,x8,x9)=>qM rest (out.set (↑x9:Int).toNat uu,x8,x9+1)
noncomputable def qo:List bR→((List bR)×Int×Nat)→Bool
 | [],(out,x8,x9)=>true
 | uu::rest,(out,x8,x9)=>af uu.2.2.2.2.2.2.2.2.2.2.2.2.2.2.2.2.2.2.2.2.1&&qo rest (out.set (↑x9:Int).toNat uu,x8,x9+1)
theorem L0:∀(rest out:List bR) (x8:Int) (x9:Nat) (hd:out.drop x9=rest) (hn:x8=((out.length:Nat):Int)) (hl:out.length≤1099511627776),de (fun f=>vZ f (out,x8,((x9:Nat):Int))) (qo rest (out,x8,x9)) (qM rest (out,x8,x9))
 | [],out,x8,x9,hd,hn,hl=>ai (fun f=>(yB f _ _ _).trans (by simp only[iZ hn (bT hd),fW,azP,azI]<;>rfl)) ae
 | uu::rest,out,x8,x9,hd,hn,hl=>ai (fun f=>(yB f _ _ _).trans (by simp only[iW hn (ak hd),cK (ak hd),bC hd,bk (ak hd) hl,fW,azQ,azH]<;>rfl)) (aI (L0 rest _ _ _ (by first | exact aH hd | exact drop_set hd | exact bB (drop_set hd)) (by first | exact hn | simpa using hn) (by first | exact hl | simpa using hl)))
noncomputable def Oz:(List bR)→(List bR)
 | l=>qM l (l,(↑l.length:Int),0)
noncomputable def N4:(List bR)→Bool
 | l=>wP l&&(decide (l.length≤1099511627776)&&qo l (l,(↑l.length:Int),0))
theorem Up:∀a:(List bR),de (fun f=>acf f a) (N4 a) (Oz a)
 | l=>ai (fun f=>Vl f _) (aI (bL fun hh=>L0 _ _ _ _ rfl (by first | rfl | simp) (azZ hh)))
theorem NS(n:Int):∀(r out:List bR) (k:Nat),out.drop k=r→(∀e∈r,af (Pu e)=true)→qM r (out,n,k)=out∧qo r (out,n,k)=true
 | [],out,k,h,hl=>⟨rfl,rfl⟩
 | u::r,out,k,h,hl=>by
  obtain⟨i1,i2⟩:=NS n r out (k+1) (aH h) (fun e he=>hl e (az6 _ he));have h1:af u.2.2.2.2.2.2.2.2.2.2.2.2.2.2.2.2.2.2.2.2.1=true:=hl u (az1 ..);simp only[qM,qo,tW h,i1,i2,h1];exact⟨trivial,rfl⟩
theorem amZ:∀a,ke a=true→N4 a=true:=fun a h=>by
 have:=Bj h;simp only[N4,(NS _ a a 0 rfl (fun e he=>uq h he)).2,aAt,azF];exact⟨azC (by omega),azC (by omega)⟩
theorem am0:∀a,ke a=true→Oz a=a:=fun a h=>by
 simp only[Oz,(NS _ a a 0 rfl (fun e he=>uq h he)).1]
noncomputable def anv:dn:=⟨88,[.rd bV],[.o 56 28 bV],ke,fun a:(List bR)=>a⟩
theorem VP:zO anv:=fl O3 Ak [.tmp 2] mixed (ah VD (ah xA (aC))) Tryz.func88 (bp Up amZ am0)
noncomputable def alQ:cX:=zC [Hm,Hk] (dE []) 38
noncomputable def aju(f:Nat)(a:bR×bR):Option Bool:=aG alQ (eO []) (zK [.tmp 4] [.v .bool]) f [.code (aB Tryz.f66)] (aQ [.g bV,.g bV] a)
theorem aif(f:Nat)(a b:bR):aju (f+1) (a,b) =
  bif a.1 == b.1&&(a.2.1 == b.2.1&&(a.2.2.1 == b.2.2.1&&true))then bif a.2.2.2.1 == b.2.2.2.1&&(a.2.2.2.2.1 == b.2.2.2.2.1&&(a.2.2.2.2.2.1 == b.2.2.2.2.2.1&&(a.2.2.2.2.2.2.1 == b.2.2.2.2.2.2.1&&(a.2.2.2.2.2.2.2.1 == b.2.2.2.2.2.2.2.1&&(a.2.2.2.2.2.2.2.2.1 == b.2.2.2.2.2.2.2.2.1&&(a.2.2.2.2.2.2.2.2.2.1 == b.2.2.2.2.2.2.2.2.2.1&&(a.2.2.2.2.2.2.2.2.2.2.1 == b.2.2.2.2.2.2.2.2.2.2.1&&(a.2.2.2.2.2.2.2.2.2.2.2.1 == b.2.2.2.2.2.2.2.2.2.2.2.1&&(a.2.2.2.2.2.2.2.2.2.2.2.2.1 == b.2.2.2.2.2.2.2.2.2.2.2.2.1&&(a.2.2.2.2.2.2.2.2.2.2.2.2.2.1 == b.2.2.2.2.2.2.2.2.2.2.2.2.2.1&&(a.2.2.2.2.2.2.2.2.2.2.2.2.2.2.1 == b.2.2.2.2.2.2.2.2.2.2.2.2.2.2.1&&true)))))))))))then bif a.2.2.2.2.2.2.2.2.2.2.2.2.2.2.2.1 == b.2.2.2.2.2.2.2.2.2.2.2.2.2.2.2.1 then bif a.2.2.2.2.2.2.2.2.2.2.2.2.2.2.2.2.1 == b.2.2.2.2.2.2.2.2.2.2.2.2.2.2.2.2.1 then bif af a.2.2.2.2.2.2.2.2.2.2.2.2.2.2.2.2.2.2.2.2.1 then some (decide (a.2.2.2.2.2.2.2.2.2.2.2.2.2.2.2.2.2=b.2.2.2.2.2.2.2.2.2.2.2.2.2.2.2.2.2))else none else some false else some false else some false else some false:=by kernel_rfl
noncomputable def agw:(bR×bR)→Bool
 | (a,b)=>bif a.1 == b.1&&(a.2.1 == b.2.1&&(a.2.2.1 == b.2.2.1&&true))then bif a.2.2.2.1 == b.2.2.2.1&&(a.2.2.2.2.1 == b.2.2.2.2.1&&(a.2.2.2.2.2.1 == b.2.2.2.2.2.1&&(a.2.2.2.2.2.2.1 == b.2.2.2.2.2.2.1&&(a.2.2.2.2.2.2.2.1 == b.2.2.2.2.2.2.2.1&&(a.2.2.2.2.2.2.2.2.1 == b.2.2.2.2.2.2.2.2.1&&(a.2.2.2.2.2.2.2.2.2.1 == b.2.2.2.2.2.2.2.2.2.1&&(a.2.2.2.2.2.2.2.2.2.2.1 == b.2.2.2.2.2.2.2.2.2.2.1&&(a.2.2.2.2.2.2.2.2.2.2.2.1 == b.2.2.2.2.2.2.2.2.2.2.2.1&&(a.2.2.2.2.2.2.2.2.2.2.2.2.1 == b.2.2.2.2.2.2.2.2.2.2.2.2.1&&(a.2.2.2.2.2.2.2.2.2.2.2.2.2.1 == b.2.2.2.2.2.2.2.2.2.2.2.2.2.1&&(a.2.2.2.2.2.2.2.2.2.2.2.2.2.2.1 == b.2.2.2.2.2.2.2.2.2.2.2.2.2.2.1&&true)))))))))))then bif a.2.2.2.2.2.2.2.2.2.2.2.2.2.2.2.1 == b.2.2.2.2.2.2.2.2.2.2.2.2.2.2.2.1 then bif a.2.2.2.2.2.2.2.2.2.2.2.2.2.2.2.2.1 == b.2.2.2.2.2.2.2.2.2.2.2.2.2.2.2.2.1 then decide (a.2.2.2.2.2.2.2.2.2.2.2.2.2.2.2.2.2=b.2.2.2.2.2.2.2.2.2.2.2.2.2.2.2.2.2)else false else false else false else false
noncomputable def agu:(bR×bR)→Bool
 | (a,b)=>bif a.1 == b.1&&(a.2.1 == b.2.1&&(a.2.2.1 == b.2.2.1&&true))then bif a.2.2.2.1 == b.2.2.2.1&&(a.2.2.2.2.1 == b.2.2.2.2.1&&(a.2.2.2.2.2.1 == b.2.2.2.2.2.1&&(a.2.2.2.2.2.2.1 == b.2.2.2.2.2.2.1&&(a.2.2.2.2.2.2.2.1 == b.2.2.2.2.2.2.2.1&&(a.2.2.2.2.2.2.2.2.1 == b.2.2.2.2.2.2.2.2.1&&(a.2.2.2.2.2.2.2.2.2.1 == b.2.2.2.2.2.2.2.2.2.1&&(a.2.2.2.2.2.2.2.2.2.2.1 == b.2.2.2.2.2.2.2.2.2.2.1&&(a.2.2.2.2.2.2.2.2.2.2.2.1 == b.2.2.2.2.2.2.2.2.2.2.2.1&&(a.2.2.2.2.2.2.2.2.2.2.2.2.1 == b.2.2.2.2.2.2.2.2.2.2.2.2.1&&(a.2.2.2.2.2.2.2.2.2.2.2.2.2.1 == b.2.2.2.2.2.2.2.2.2.2.2.2.2.1&&(a.2.2.2.2.2.2.2.2.2.2.2.2.2.2.1 == b.2.2.2.2.2.2.2.2.2.2.2.2.2.2.1&&true)))))))))))then bif a.2.2.2.2.2.2.2.2.2.2.2.2.2.2.2.1 == b.2.2.2.2.2.2.2.2.2.2.2.2.2.2.2.1 then bif a.2.2.2.2.2.2.2.2.2.2.2.2.2.2.2.2.1 == b.2.2.2.2.2.2.2.2.2.2.2.2.2.2.2.2.1 then af a.2.2.2.2.2.2.2.2.2.2.2.2.2.2.2.2.2.2.2.2.1 else true else true else true else true
theorem ahW:∀a:bR×bR,de (fun f=>aju f a) (agu a) (agw a)
 | (a,b)=>ai (fun f=>aif f _ _) (ao (ao (ao (ao (cS ae) ae) ae) ae) ae)
theorem agr(a:bR×bR)(h:af (Pu a.1)=true):agu a=true∧agw a=decide (a.1=a.2):=by
 obtain⟨a,b⟩:=a;have h:af a.2.2.2.2.2.2.2.2.2.2.2.2.2.2.2.2.2.2.2.2.1=true:=h;have e1:(a.1 == b.1&&(a.2.1 == b.2.1&&(a.2.2.1 == b.2.2.1&&true)))=decide (tZ a=tZ b):=id_eq (tZ a) (tZ b);have e2:(a.2.2.2.1 == b.2.2.2.1&&(a.2.2.2.2.1 == b.2.2.2.2.1&&(a.2.2.2.2.2.1 == b.2.2.2.2.2.1&&(a.2.2.2.2.2.2.1 == b.2.2.2.2.2.2.1&&(a.2.2.2.2.2.2.2.1 == b.2.2.2.2.2.2.2.1&&(a.2.2.2.2.2.2.2.2.1 == b.2.2.2.2.2.2.2.2.1&&(a.2.2.2.2.2.2.2.2.2.1 == b.2.2.2.2.2.2.2.2.2.1&&(a.2.2.2.2.2.2.2.2.2.2.1 == b.2.2.2.2.2.2.2.2.2.2.1&&(a.2.2.2.2.2.2.2.2.2.2.2.1 == b.2.2.2.2.2.2.2.2.2.2.2.1&&(a.2.2.2.2.2.2.2.2.2.2.2.2.1 == b.2.2.2.2.2.2.2.2.2.2.2.2.1&&(a.2.2.2.2.2.2.2.2.2.2.2.2.2.1 == b.2.2.2.2.2.2.2.2.2.2.2.2.2.1&&(a.2.2.2.2.2.2.2.2.2.2.2.2.2.2.1 == b.2.2.2.2.2.2.2.2.2.2.2.2.2.2.1&&true))))))))))))=decide (sQ a=sQ b):=atV (sQ a) (sQ b);have e3:(a.2.2.2.2.2.2.2.2.2.2.2.2.2.2.2.1 == b.2.2.2.2.2.2.2.2.2.2.2.2.2.2.2.1)=decide (rrg a=rrg b):=xm _ _;have e4:(a.2.2.2.2.2.2.2.2.2.2.2.2.2.2.2.2.1 == b.2.2.2.2.2.2.2.2.2.2.2.2.2.2.2.2.1)=decide (rwd a=rwd b):=xm _ _;constructor
 ·simp only[agu,e1,e2,e3,e4,h]
  cases decide (tZ a=tZ b)<;>cases decide (sQ a=sQ b)<;>cases decide (rrg a=rrg b)<;>cases decide (rwd a=rwd b)<;>rfl
 ·rw[asN]
  simp only[agw,e1,e2,e3,e4];cases decide (tZ a=tZ b)<;>cases decide (sQ a=sQ b)<;>cases decide (rrg a=rrg b)<;>cases decide (rwd a=rwd b)<;>rfl
theorem aqu:∀a:bR×bR,af (Pu a.1)=true→agu a=true:=fun a h=>(agr a h).1
theorem aqw:∀a:bR×bR,af (Pu a.1)=true→agw a=decide (a.1=a.2):=fun a h=>(agr a h).2
noncomputable def alH:dn:=⟨66,[.g bV,.g bV],[.v .bool],fun a:bR×bR=>af (Pu a.1),fun a:bR×bR=>decide (a.1=a.2)⟩
theorem aij:zO alH:=fl alQ (eO []) [.tmp 4] mixed (ah OC (ah OB (aC))) Tryz.func66 (bp ahW aqu aqw)
