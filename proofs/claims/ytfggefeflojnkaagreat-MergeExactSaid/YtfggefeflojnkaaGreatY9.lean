/- AI. -/
import Derived.Test.YtfggefeflojnkaaGreatYw
set_option linter.unusedVariables false
open Go.IntKind (i64 u64)
namespace Go.AL
open Go.Proofs
noncomputable def aee:cX:=zC [gY] (dE []) 49
def G3:Nat→LD:=eO [(1,⟨[.box 3 3 38 6 bl,.box 4 4 48 3 aE,.box 6 6 48 3 aE,.c 7 (zI)],[],0⟩)]
noncomputable def ajc(f:Nat)(a:ay×aj×Int):Option aj:=aG aee G3 (zK [.cell 6 48] [.g aE]) f [.code (aB Tryz.f34)] (aQ [.g bl,.g aE,.c zI] a)
noncomputable def As(f:Nat)(x:ay×aj×aj×Int):Option aj:=aG aee G3 (zK [.cell 6 48] [.g aE]) f (aV Tryz.f34 1) ((G3 1).mk' x)
theorem abQ(f:Nat)(s:ay)(op:aj)(n:Int):ajc (f+1) (s,op,n) =
  bif place (n,3) == 0 then As f (s,op,(0,0,0),0)else bif place (n,3) == 1 then bif decide ((↑(List.length s.2.1):Int)>0)then bif decide (0≤i64.wrap ((↑(List.length s.2.1):Int)-1))&&decide (i64.wrap ((↑(List.length s.2.1):Int)-1)<(↑(List.length s.2.1):Int))then some ((List.getD s.2.1 (i64.wrap ((↑(List.length s.2.1):Int)-1)).toNat zq3).1,(List.getD s.2.1 (i64.wrap ((↑(List.length s.2.1):Int)-1)).toNat zq3).2.1,(List.getD s.2.1 (i64.wrap ((↑(List.length s.2.1):Int)-1)).toNat zq3).2.2.1)else none else some op else some op:=by kernel_rfl
theorem CO(f:Nat)(s:ay)(op x6:aj)(i:Int):As (f+1) (s,op,x6,i) =
  bif decide (i<(↑(List.length s.1):Int))then bif decide (0≤i)&&decide (i<(↑(List.length s.1):Int))then bif !((List.getD s.1 i.toNat zq2).2.2.2.2.2.2.2.2.2.2.2.2.1 == 0&&((List.getD s.1 i.toNat zq2).2.2.2.2.2.2.2.2.2.2.2.2.2.1 == 0&&((List.getD s.1 i.toNat zq2).2.2.2.2.2.2.2.2.2.2.2.2.2.2 == 0&&true)))then bif decide (0≤i)&&decide (i<(↑(List.length s.1):Int))then some (List.getD s.1 i.toNat zq2).2.2.2.2.2.2.2.2.2.2.2.2 else none else As f (s,op,x6,i64.wrap (i+1))else none else some op:=by kernel_rfl
noncomputable def wb:List aL→(ay×aj×aj×Nat)→aj
 | [],(s,op,x6,i)=>op
 | uu::rest,(s,op,x6,i)=>bif !(uu.2.2.2.2.2.2.2.2.2.2.2.2.1 == 0&&(uu.2.2.2.2.2.2.2.2.2.2.2.2.2.1 == 0&&(uu.2.2.2.2.2.2.2.2.2.2.2.2.2.2 == 0&&true)))then uu.2.2.2.2.2.2.2.2.2.2.2.2 else wb rest (s,op,x6,i+1)
noncomputable def vw:List aL→(ay×aj×aj×Nat)→Bool
 | [],(s,op,x6,i)=>true
 | uu::rest,(s,op,x6,i)=>bif !(uu.2.2.2.2.2.2.2.2.2.2.2.2.1 == 0&&(uu.2.2.2.2.2.2.2.2.2.2.2.2.2.1 == 0&&(uu.2.2.2.2.2.2.2.2.2.2.2.2.2.2 == 0&&true)))then true else vw rest (s,op,x6,i+1)
theorem Sx:∀(rest:List aL) (s:ay) (op x6:aj) (i:Nat) (hd:s.fst.drop i=rest) (hl:s.fst.length≤1099511627776),de (fun f=>As f (s,op,x6,((i:Nat):Int))) (vw rest (s,op,x6,i)) (wb rest (s,op,x6,i))
 | [],s,op,x6,i,hd,hl=>ai (fun f=>(CO f _ _ _ _).trans (by simp only[fA (bT hd),fW,azP,azI]<;>rfl)) ae
 | uu::rest,s,op,x6,i,hd,hl=>ai (fun f=>(CO f _ _ _ _).trans (by simp only[cK (ak hd),bC hd,bk (ak hd) hl,fW,azQ,azH]<;>rfl)) (ao ae (Sx rest _ _ _ _ (aH hd) hl))
noncomputable def RO:(ay×aj×Int)→aj
 | (s,op,n)=>bif place (n,3) == 0 then wb s.1 (s,op,(0,0,0),0)else bif place (n,3) == 1 then bif decide ((↑(List.length s.2.1):Int)>0)then((List.getD s.2.1 (i64.wrap ((↑(List.length s.2.1):Int)-1)).toNat zq3).1,(List.getD s.2.1 (i64.wrap ((↑(List.length s.2.1):Int)-1)).toNat zq3).2.1,(List.getD s.2.1 (i64.wrap ((↑(List.length s.2.1):Int)-1)).toNat zq3).2.2.1)else op else op
noncomputable def QQ:(ay×aj×Int)→Bool
 | (s,op,n)=>bif place (n,3) == 0 then decide (s.1.length≤1099511627776)&&vw s.1 (s,op,(0,0,0),0)else bif place (n,3) == 1 then bif decide ((↑(List.length s.2.1):Int)>0)then decide (0≤i64.wrap ((↑(List.length s.2.1):Int)-1))&&decide (i64.wrap ((↑(List.length s.2.1):Int)-1)<(↑(List.length s.2.1):Int))else true else true
theorem Yc:∀a:ay×aj×Int,de (fun f=>ajc f a) (QQ a) (RO a)
 | (s,op,n)=>ai (fun f=>abQ f _ _ _) (ao (bL fun hh=>Sx _ _ _ _ _ rfl (azZ hh)) (ao (ao (cS ae) ae) ae))
def lkF:List aL→aj→aj
 | [],op=>op
 | u::r,op=>bif decide (nU u=(0,0,0))then lkF r op else nU u
theorem ahX(s:ay)(op x:aj):∀(r:List aL) (k:Nat),wb r (s,op,x,k)=lkF r op∧vw r (s,op,x,k)=true
 | [],k=>⟨rfl,rfl⟩
 | u::r,k=>by
  have e:(u.2.2.2.2.2.2.2.2.2.2.2.2.1 == 0&&(u.2.2.2.2.2.2.2.2.2.2.2.2.2.1 == 0&&(u.2.2.2.2.2.2.2.2.2.2.2.2.2.2 == 0&&true)))=decide (nU u=(0,0,0)):=id_eq (nU u) (0,0,0);obtain⟨i1,i2⟩:=ahX s op x r (k+1);grind[wb,vw,lkF,nU]
def sU(a:ay×aj×Int):aj:=bif decide (place (a.2.2,3)=0)then lkF a.1.1 a.2.1 else bif decide (place (a.2.2,3)=1)then(match a.1.2.1.getLast? with | some r=>tZ r | none=>a.2.1)else a.2.1
def Yd(a:ay×aj×Int):Bool:=af a.1.1&&af a.1.2.1
theorem Eo{α:Type}{l:List α}{d:α}(h:l ≠ []):∃x,l.getLast? = some x∧l.getD (l.length-1) d=x:=by
 refine⟨l.getLast h,List.getLast?_eq_some_getLast h,?_⟩;grind
theorem JW:∀a:ay×aj×Int,Yd a=true→QQ a=true∧RO a=sU a:=by
 rintro⟨s,op,n⟩ h;simp only[Yd,azF]at h;obtain⟨h1,h2⟩:=h;obtain⟨i1,i2⟩:=ahX s op (0,0,0) s.1 0;have e0:(place (n,3) == 0)=decide (place (n,3)=0):=xm _ _;have e1:(place (n,3) == 1)=decide (place (n,3)=1):=xm _ _;have h1:decide (s.1.length≤1099511627776)=true:=h1;have h2:s.2.1.length≤1099511627776:=azZ h2;simp only[QQ,RO,sU,e0,e1,i1,i2,h1];cases decide (place (n,3)=0)<;>simp only[azH,azI,azP,and_true]
 cases decide (place (n,3)=1)<;>simp only[azH,azI,and_true]
 cases hq:s.2.1 with
 | nil=>simp
 | cons q r=>
  rw[← hq];have hp:0<s.2.1.length:=by grind
  have dU:s.2.1 ≠ []:=by grind
  have w:i64.wrap (((s.2.1.length:Nat):Int)-1)=((s.2.1.length-1:Nat):Int):=by grind[az]
  obtain⟨x,x1,x2⟩:=Eo (d:=(zq3:bR)) dU;rw[azC (show((s.2.1.length:Nat):Int)>0 by omega),w,x1];rw[azC (show(0:Int)≤((s.2.1.length-1:Nat):Int)by omega),azC (show((s.2.1.length-1:Nat):Int)<((s.2.1.length:Nat):Int)by omega)];simp only[azH,azQ,aAn,true_and];show tZ (s.2.1.getD (s.2.1.length-1) zq3)=tZ x;rw[x2]
noncomputable def aru:dn:=⟨34,[.g bl,.g aE,.c zI],[.g aE],Yd,sU⟩
theorem adv:zO aru:=fl aee G3 [.cell 6 48] mixed (ah fk (aC)) Tryz.func34 (bp Yc (fun a h=>(JW a h).1) (fun a h=>(JW a h).2))
noncomputable def ajP:cX:=zC [adJ,gY] (dE [(4,([(0,[]),(1,[]),(2,[]),(3,[]),(4,[]),(8,[]),(9,[]),(10,[]),(11,[]),(12,[]),(5,[]),(6,[]),(7,[]),(13,[]),(14,[]),(15,[]),(16,[]),(17,[]),(18,[])],[(12,29)]))]) 30
noncomputable def aja(f:Nat)(a:Int×Int):Option jf:=aG ajP (eO []) (zK [.cell 4 30] [.g Jp]) f [.code (aB Tryz.f14)] (aQ [.c zI,.c zI] a)
theorem abM(f:Nat)(members owner:Int):aja (f+1) (members,owner) =
  bif(↑(bt members).length:Int) == 0 then bif decide (0≤place (owner,(↑[2].length:Int)))&&decide (place (owner,(↑[2].length:Int))<(↑[2].length:Int))then bif decide (0≤place (i64.wrap (owner.tdiv 4),(↑[2].length:Int)))&&decide (place (i64.wrap (owner.tdiv 4),(↑[2].length:Int))<(↑[2].length:Int))then some (40,[2],[[2].getD (place (owner,(↑[2].length:Int))).toNat 0,[2].getD (place (i64.wrap (owner.tdiv 4),(↑[2].length:Int))).toNat 0])else none else none else bif cP (owner,(↑(bt members).length:Int))then bif decide (0≤place (owner,(↑(bt members).length:Int)))&&decide (place (owner,(↑(bt members).length:Int))<(↑(bt members).length:Int))then bif cP (i64.wrap (owner.tdiv 4),(↑(bt members).length:Int))then bif decide (0≤place (i64.wrap (owner.tdiv 4),(↑(bt members).length:Int)))&&decide (place (i64.wrap (owner.tdiv 4),(↑(bt members).length:Int))<(↑(bt members).length:Int))then some (40,bt members,[(bt members).getD (place (owner,(↑(bt members).length:Int))).toNat 0,(bt members).getD (place (i64.wrap (owner.tdiv 4),(↑(bt members).length:Int))).toNat 0])else none else none else none else none:=by kernel_rfl
noncomputable def RN:dv→jf
 | (members,owner)=>bif(↑(bt members).length:Int) == 0 then(40,[2],[[2].getD (place (owner,(↑[2].length:Int))).toNat 0,[2].getD (place (i64.wrap (owner.tdiv 4),(↑[2].length:Int))).toNat 0])else(40,bt members,[(bt members).getD (place (owner,(↑(bt members).length:Int))).toNat 0,(bt members).getD (place (i64.wrap (owner.tdiv 4),(↑(bt members).length:Int))).toNat 0])
noncomputable def QP:dv→Bool
 | (members,owner)=>bif(↑(bt members).length:Int) == 0 then decide (0≤place (owner,(↑[2].length:Int)))&&decide (place (owner,(↑[2].length:Int))<(↑[2].length:Int))&&(decide (0≤place (i64.wrap (owner.tdiv 4),(↑[2].length:Int)))&&decide (place (i64.wrap (owner.tdiv 4),(↑[2].length:Int))<(↑[2].length:Int)))else cP (owner,(↑(bt members).length:Int))&&(decide (0≤place (owner,(↑(bt members).length:Int)))&&decide (place (owner,(↑(bt members).length:Int))<(↑(bt members).length:Int))&&(cP (i64.wrap (owner.tdiv 4),(↑(bt members).length:Int))&&(decide (0≤place (i64.wrap (owner.tdiv 4),(↑(bt members).length:Int)))&&decide (place (i64.wrap (owner.tdiv 4),(↑(bt members).length:Int))<(↑(bt members).length:Int)))))
theorem X5:∀a:Int×Int,de (fun f=>aja f a) (QP a) (RN a)
 | (members,owner)=>ai (fun f=>abM f _ _) (ao (aI (cS ae)) (aI (aI (aI (cS ae)))))
theorem Uf:∀(r:Nat) (a:Int) (out:List Int) (i:Nat),(aeu r (a,out,i)).length≤out.length+r:=by
 intro r;induction r with
 | zero=>intro a out i;exact azJ _
 | succ r ih=>
  intro a out i;simp only[aeu];grind
theorem Z7(a:Int):(bt a).length≤4:=by
 have:=Uf 4 a [] 0;exact this
noncomputable def Bs(m:Int):List Int:=bif decide ((bt m).length=0)then[2]else bt m
noncomputable def lq(a:Int×Int):jf:=(40,Bs a.1,[(Bs a.1).getD (place (a.2,((Bs a.1).length:Nat))).toNat 0,(Bs a.1).getD (place (i64.wrap (a.2.tdiv 4),((Bs a.1).length:Nat))).toNat 0])
theorem JT:∀a:Int×Int,QP a=true∧RN a=lq a:=by
 rintro⟨m,o⟩;have hl:=Z7 m;have key:∀l:List Int,0<l.length→∀k:Int,(decide (0≤place (k,(l.length:Nat)))&&decide (place (k,(l.length:Nat))<(l.length:Nat)))=true:=fun l hl k=>by
  obtain⟨g1,g2⟩:=cT k (s:=(l.length:Nat)) (by omega);grind
 simp only[QP,RN,lq,Bs];generalize i64.wrap (o.tdiv 4)=o4;by_cases hz:(bt m).length=0
 ·rw[show((((bt m).length:Nat):Int) == 0)=true by rw[hz];rfl,azC hz]
  grind
 ·rw[show((((bt m).length:Nat):Int) == 0)=false by rw[xm];exact azK (by omega),azK hz]
  simp only[azI];refine⟨?_,trivial⟩;have hp:∀k:Int,cP (k,(((bt m).length:Nat):Int))=true:=fun k=>azC (show(((bt m).length:Nat):Int)≤4611686018427387904 by omega)
  grind
theorem ao9:∀a:Int×Int,(fun _=>true) a=true→QP a=true:=fun a _=>(JT a).1
theorem apa:∀a:Int×Int,(fun _=>true) a=true→RN a=lq a:=fun a _=>(JT a).2
noncomputable def adt:dn:=⟨14,[.c zI,.c zI],[.g Jp],fun _=>true,lq⟩
theorem ads:zO adt:=fl ajP (eO []) [.cell 4 30] mixed (ah VN (ah fk (aC))) Tryz.func14 (bp X5 ao9 apa)
