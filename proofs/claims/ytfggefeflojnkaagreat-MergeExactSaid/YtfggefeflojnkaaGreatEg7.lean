/- AI. -/
import Derived.Test.YtfggefeflojnkaaGreatEg4
set_option linter.unusedVariables false
open Go.IntKind (i64 u64)
namespace Go.AL
open Go.Proofs
theorem FA{α:Type}(l:List α)(i:Nat)(v w:α):(l.set i v).set i w=l.set i w:=by
 simp_all
def sz:cu:=zq0
def sH(qb:aj)(s:aL):Bool:=!cB s&&(decide (nU s=qb)&&!decide (qb=(0,0,0)))
def nw(qb:aj)(s:aL):aL:=bif sH qb s then Ys sz (Ju s) (0,0,0)else s
def tS(a:List aL×aj):List aL×List aj:=(a.1.map (nw a.2),(a.1.filter (sH a.2)).map xH)
noncomputable def ar7:cX:=zC [ajJ,Hp] (dE [(6,([(0,[]),(1,[]),(2,[]),(3,[]),(4,[]),(5,[]),(6,[]),(7,[]),(8,[]),(9,[]),(10,[]),(11,[]),(12,[]),(13,[]),(14,[]),(15,[]),(16,[]),(17,[]),(18,[]),(19,[])],[(17,36)]))]) 58
def anI:Nat→LD:=eO [(0,⟨[.box 3 3 48 3 aE,.list 6 999 64 15 bg,.list 7 998 48 3 aE,.c 8 (zI)],[],0⟩)]
noncomputable def ava(f:Nat)(a:(List aL)×aj):Option ((List aL)×(List aj)):=aG ar7 anI (zK [.tmp 4,.tmp 5] [.o 64 15 bg,.o 48 3 aE]) f [.code (aB Tryz.f106)] (aQ [.rd bg,.g aE] a)
noncomputable def aeD(f:Nat)(x:aj×(List aL)×(List aj)×Int):Option ((List aL)×(List aj)):=aG ar7 anI (zK [.tmp 4,.tmp 5] [.o 64 15 bg,.o 48 3 aE]) f (aV Tryz.f106 0) ((anI 0).mk' x)
theorem as3(f:Nat)(l:List aL)(qb:aj):ava (f+1) (l,qb) =
  bif ct l then aeD f (qb,l,[],0)else none:=by kernel_rfl
theorem amm(f:Nat)(vi:aj)(out:List aL)(ids:List aj)(i:Int):aeD (f+1) (vi,out,ids,i) =
  bif decide (i<(↑out.length:Int))then bif decide (0≤i)&&decide (i<(↑out.length:Int))then bif !cB (out.getD i.toNat zq2)then bif decide (0≤i)&&decide (i<(↑out.length:Int))then bif(out.getD i.toNat zq2).2.2.2.2.2.2.2.2.2.2.2.2.1 == vi.1&&((out.getD i.toNat zq2).2.2.2.2.2.2.2.2.2.2.2.2.2.1 == vi.2.1&&((out.getD i.toNat zq2).2.2.2.2.2.2.2.2.2.2.2.2.2.2 == vi.2.2&&true))then bif !(vi.1 == 0&&(vi.2.1 == 0&&(vi.2.2 == 0&&true)))then bif decide (0≤i)&&decide (i<(↑out.length:Int))then bif decide ((ids.length+[((out.getD i.toNat zq2).1,(out.getD i.toNat zq2).2.1,(out.getD i.toNat zq2).2.2.1)].length)*24≤140737488355328)then bif decide (0≤i)&&decide (i<(↑out.length:Int))then bif decide (0≤i)&&decide (i<(↑(out.set i.toNat (0,0,0,[],0,0,0,0,0,0,false,(out.getD i.toNat zq2).2.2.2.2.2.2.2.2.2.2.2)).length:Int))then aeD f (vi,(out.set i.toNat (0,0,0,[],0,0,0,0,0,0,false,(out.getD i.toNat zq2).2.2.2.2.2.2.2.2.2.2.2)).set i.toNat (((out.set i.toNat (0,0,0,[],0,0,0,0,0,0,false,(out.getD i.toNat zq2).2.2.2.2.2.2.2.2.2.2.2)).getD i.toNat zq2).1,((out.set i.toNat (0,0,0,[],0,0,0,0,0,0,false,(out.getD i.toNat zq2).2.2.2.2.2.2.2.2.2.2.2)).getD i.toNat zq2).2.1,((out.set i.toNat (0,0,0,[],0,0,0,0,0,0,false,(out.getD i.toNat zq2).2.2.2.2.2.2.2.2.2.2.2)).getD i.toNat zq2).2.2.1,((out.set i.toNat (0,0,0,[],0,0,0,0,0,0,false,(out.getD i.toNat zq2).2.2.2.2.2.2.2.2.2.2.2)).getD i.toNat zq2).2.2.2.1,((out.set i.toNat (0,0,0,[],0,0,0,0,0,0,false,(out.getD i.toNat zq2).2.2.2.2.2.2.2.2.2.2.2)).getD i.toNat zq2).2.2.2.2.1,((out.set i.toNat (0,0,0,[],0,0,0,0,0,0,false,(out.getD i.toNat zq2).2.2.2.2.2.2.2.2.2.2.2)).getD i.toNat zq2).2.2.2.2.2.1,((out.set i.toNat (0,0,0,[],0,0,0,0,0,0,false,(out.getD i.toNat zq2).2.2.2.2.2.2.2.2.2.2.2)).getD i.toNat zq2).2.2.2.2.2.2.1,((out.set i.toNat (0,0,0,[],0,0,0,0,0,0,false,(out.getD i.toNat zq2).2.2.2.2.2.2.2.2.2.2.2)).getD i.toNat zq2).2.2.2.2.2.2.2.1,((out.set i.toNat (0,0,0,[],0,0,0,0,0,0,false,(out.getD i.toNat zq2).2.2.2.2.2.2.2.2.2.2.2)).getD i.toNat zq2).2.2.2.2.2.2.2.2.1,((out.set i.toNat (0,0,0,[],0,0,0,0,0,0,false,(out.getD i.toNat zq2).2.2.2.2.2.2.2.2.2.2.2)).getD i.toNat zq2).2.2.2.2.2.2.2.2.2.1,((out.set i.toNat (0,0,0,[],0,0,0,0,0,0,false,(out.getD i.toNat zq2).2.2.2.2.2.2.2.2.2.2.2)).getD i.toNat zq2).2.2.2.2.2.2.2.2.2.2.1,((out.set i.toNat (0,0,0,[],0,0,0,0,0,0,false,(out.getD i.toNat zq2).2.2.2.2.2.2.2.2.2.2.2)).getD i.toNat zq2).2.2.2.2.2.2.2.2.2.2.2.1,0,0,0),ids++[((out.getD i.toNat zq2).1,(out.getD i.toNat zq2).2.1,(out.getD i.toNat zq2).2.2.1)],i64.wrap (i+1))else none else none else none else none else aeD f (vi,out,ids,i64.wrap (i+1))else aeD f (vi,out,ids,i64.wrap (i+1))else none else aeD f (vi,out,ids,i64.wrap (i+1))else none else some (out,ids):=by kernel_rfl
noncomputable def aet:List aL→(aj×(List aL)×(List aj)×Nat)→(List aL)×(List aj)
 | [],(vi,out,ids,i)=>(out,ids)
 | uu::rest,(vi,out,ids,i)=>bif !cB uu then bif uu.2.2.2.2.2.2.2.2.2.2.2.2.1 == vi.1&&(uu.2.2.2.2.2.2.2.2.2.2.2.2.2.1 == vi.2.1&&(uu.2.2.2.2.2.2.2.2.2.2.2.2.2.2 == vi.2.2&&true))then bif !(vi.1 == 0&&(vi.2.1 == 0&&(vi.2.2 == 0&&true)))then aet rest (vi,(out.set (↑i:Int).toNat (0,0,0,[],0,0,0,0,0,0,false,uu.2.2.2.2.2.2.2.2.2.2.2)).set (↑i:Int).toNat (0,0,0,[],0,0,0,0,0,0,false,uu.2.2.2.2.2.2.2.2.2.2.2.1,0,0,0),ids++[(uu.1,uu.2.1,uu.2.2.1)],i+1)else aet rest (vi,out,ids,i+1)else aet rest (vi,out,ids,i+1)else aet rest (vi,out,ids,i+1)
noncomputable def aew:List aL→(aj×(List aL)×(List aj)×Nat)→Bool
 | [],(vi,out,ids,i)=>true
 | uu::rest,(vi,out,ids,i)=>bif !cB uu then bif uu.2.2.2.2.2.2.2.2.2.2.2.2.1 == vi.1&&(uu.2.2.2.2.2.2.2.2.2.2.2.2.2.1 == vi.2.1&&(uu.2.2.2.2.2.2.2.2.2.2.2.2.2.2 == vi.2.2&&true))then bif !(vi.1 == 0&&(vi.2.1 == 0&&(vi.2.2 == 0&&true)))then decide ((ids.length+1)*24≤140737488355328)&&aew rest (vi,(out.set (↑i:Int).toNat (0,0,0,[],0,0,0,0,0,0,false,uu.2.2.2.2.2.2.2.2.2.2.2)).set (↑i:Int).toNat (0,0,0,[],0,0,0,0,0,0,false,uu.2.2.2.2.2.2.2.2.2.2.2.1,0,0,0),ids++[(uu.1,uu.2.1,uu.2.2.1)],i+1)else aew rest (vi,out,ids,i+1)else aew rest (vi,out,ids,i+1)else aew rest (vi,out,ids,i+1)
theorem aio:∀(rest:List aL) (vi:aj) (out:List aL) (ids:List aj) (i:Nat) (hd:out.drop i=rest) (hl:out.length≤1099511627776),de (fun f=>aeD f (vi,out,ids,((i:Nat):Int))) (aew rest (vi,out,ids,i)) (aet rest (vi,out,ids,i))
 | [],vi,out,ids,i,hd,hl=>ai (fun f=>(amm f _ _ _ _).trans (by simp only[fA (bT hd),fW,azP,azI,azX]<;>rfl)) ae
 | uu::rest,vi,out,ids,i,hd,hl=>ai (fun f=>(amm f _ _ _ _).trans (by simp only[cK (ak hd),bC hd,bk (ak hd) hl,bH (ak hd),fW,azQ,azH,azX]<;>rfl)) (ao (ao (ao (aI (aio rest _ _ _ _ (by first | exact aH hd | exact drop_set hd | exact bB (drop_set hd)) (by grind))) (aio rest _ _ _ _ (by first | exact aH hd | exact drop_set hd | exact bB (drop_set hd)) (by grind))) (aio rest _ _ _ _ (by first | exact aH hd | exact drop_set hd | exact bB (drop_set hd)) (by grind))) (aio rest _ _ _ _ (by first | exact aH hd | exact drop_set hd | exact bB (drop_set hd)) (by grind)))
noncomputable def avt:((List aL)×aj)→(List aL)×(List aj)
 | (l,qb)=>aet l (qb,l,[],0)
noncomputable def arP:((List aL)×aj)→Bool
 | (l,qb)=>ct l&&(decide (l.length≤1099511627776)&&aew l (qb,l,[],0))
theorem asq:∀a:(List aL)×aj,de (fun f=>ava f a) (arP a) (avt a)
 | (l,qb)=>ai (fun f=>as3 f _ _) (aI (bL fun hh=>aio _ _ _ _ _ rfl (azZ hh)))
theorem apE(qb:aj):∀(r out:List aL) (ids:List aj) (k:Nat),out.drop k=r→ids.length+r.length≤68719476736→aet r (qb,out,ids,k)=(out.take k++r.map (nw qb),ids++(r.filter (sH qb)).map xH)∧aew r (qb,out,ids,k)=true
 | [],out,ids,k,h,hl=>by
  refine⟨?_,rfl⟩;simp only[aet,aBq,aAc,aBT];rw[aAQ (by grind)]
 | u::r,out,ids,k,h,hl=>by
  simp only[azL]at hl;simp only[aet,aew,akl,YX];have hk:((k:Nat):Int).toNat=k:=aAn k;cases hb:sH qb u
  ·have ih:=apE qb r out ids (k+1) (aH h) (by omega)
   rw[ih.1,ih.2,aAy,List.filter_cons,hb];simp only[sH]at hb;have e:nw qb u=u:=by simp only[nw,sH,hb,azI]
   grind
  ·have e:nw qb u=Ys sz (Ju u) (0,0,0):=by simp only[nw,hb,azH]
   have ih:=apE qb r (out.set (Int.toNat ((k:Nat):Int)) (nw qb u)) (ids++[xH u]) (k+1) (tV h).2 (by simp;omega);rw[(tV h).1]at ih;rw[aAy,List.filter_cons,hb];simp only[sH,azF,aAi]at hb;obtain⟨h1,h2,h3⟩:=hb;simp only[h1,h2,h3,aBh,azH,FA];rw[e]at ih;have hd:decide ((ids.length+1)*24≤140737488355328)=true:=azC (by omega);rw[hd,azP];refine⟨?_,ih.2⟩;refine Eq.trans ih.1 ?_;rw[e];simp
theorem axX:∀a:List aL×aj,ct a.1=true→arP a=true:=fun a h=>by
 have:=fD h;simp only[arP,h,(apE a.2 a.1 a.1 [] 0 rfl (by grind)).2,aAt,azP];grind
theorem axY:∀a:List aL×aj,ct a.1=true→avt a=tS a:=fun a h=>(apE a.2 a.1 a.1 [] 0 rfl (by grind[fD])).1
noncomputable def avJ:dn:=⟨106,[.rd bg,.g aE],[.o 64 15 bg,.o 48 3 aE],fun a:(List aL)×aj=>ct a.1,tS⟩
theorem atz:zO avJ:=fl ar7 anI [.tmp 4,.tmp 5] mixed (ah adG (ah E3 (aC))) Tryz.func106 (bp asq axX axY)
noncomputable def adU:cX:=zC [adL,E6] (dE [(8,([(0,[]),(1,[]),(2,[]),(3,[]),(4,[]),(5,[]),(6,[]),(7,[]),(8,[]),(9,[]),(10,[]),(11,[]),(12,[]),(13,[]),(14,[])],[(20,34)]))]) 57
def GY:Nat→LD:=eO [(0,⟨[.box 3 3 48 3 aE,.list 6 999 64 15 bg,.list 7 998 48 3 aE,.c 16 (zI),.c 17 (zI)],[],0⟩)]
noncomputable def ai1(f:Nat)(a:(List aL)×aj):Option ((List aL)×(List aj)):=aG adU GY (zK [.tmp 4,.tmp 5] [.o 64 15 bg,.o 48 3 aE]) f [.code (aB Tryz.f54)] (aQ [.rd bg,.g aE] a)
noncomputable def rD(f:Nat)(x:aj×(List aL)×(List aj)×Int×Int):Option ((List aL)×(List aj)):=aG adU GY (zK [.tmp 4,.tmp 5] [.o 64 15 bg,.o 48 3 aE]) f (aV Tryz.f54 0) ((GY 0).mk' x)
theorem abi(f:Nat)(l:List aL)(qb:aj):ai1 (f+1) (l,qb) =
  bif ct l then bif qb.1 == 0&&(qb.2.1 == 0&&(qb.2.2 == 0&&true))then some (l,[])else rD f (qb,l,[],(↑l.length:Int),0)else none:=by kernel_rfl
theorem CJ(f:Nat)(vi:aj)(out:List aL)(ids:List aj)(C5 dP:Int):rD (f+1) (vi,out,ids,C5,dP) =
  bif decide (dP<C5)then bif decide (0≤dP)&&decide (dP<(↑out.length:Int))then bif !cB (out.getD dP.toNat zq2)then bif decide (0≤dP)&&decide (dP<(↑out.length:Int))then bif(out.getD dP.toNat zq2).2.2.2.2.2.2.2.2.2.2.2.2.1 == vi.1&&((out.getD dP.toNat zq2).2.2.2.2.2.2.2.2.2.2.2.2.2.1 == vi.2.1&&((out.getD dP.toNat zq2).2.2.2.2.2.2.2.2.2.2.2.2.2.2 == vi.2.2&&true))then bif decide (0≤dP)&&decide (dP<(↑out.length:Int))then bif decide ((ids.length+[((out.getD dP.toNat zq2).1,(out.getD dP.toNat zq2).2.1,(out.getD dP.toNat zq2).2.2.1)].length)*24≤140737488355328)then bif decide (0≤dP)&&decide (dP<(↑out.length:Int))then bif decide (0≤dP)&&decide (dP<(↑(out.set dP.toNat (0,0,0,[],0,0,0,0,0,0,false,(out.getD dP.toNat zq2).2.2.2.2.2.2.2.2.2.2.2)).length:Int))then rD f (vi,(out.set dP.toNat (0,0,0,[],0,0,0,0,0,0,false,(out.getD dP.toNat zq2).2.2.2.2.2.2.2.2.2.2.2)).set dP.toNat (((out.set dP.toNat (0,0,0,[],0,0,0,0,0,0,false,(out.getD dP.toNat zq2).2.2.2.2.2.2.2.2.2.2.2)).getD dP.toNat zq2).1,((out.set dP.toNat (0,0,0,[],0,0,0,0,0,0,false,(out.getD dP.toNat zq2).2.2.2.2.2.2.2.2.2.2.2)).getD dP.toNat zq2).2.1,((out.set dP.toNat (0,0,0,[],0,0,0,0,0,0,false,(out.getD dP.toNat zq2).2.2.2.2.2.2.2.2.2.2.2)).getD dP.toNat zq2).2.2.1,((out.set dP.toNat (0,0,0,[],0,0,0,0,0,0,false,(out.getD dP.toNat zq2).2.2.2.2.2.2.2.2.2.2.2)).getD dP.toNat zq2).2.2.2.1,((out.set dP.toNat (0,0,0,[],0,0,0,0,0,0,false,(out.getD dP.toNat zq2).2.2.2.2.2.2.2.2.2.2.2)).getD dP.toNat zq2).2.2.2.2.1,((out.set dP.toNat (0,0,0,[],0,0,0,0,0,0,false,(out.getD dP.toNat zq2).2.2.2.2.2.2.2.2.2.2.2)).getD dP.toNat zq2).2.2.2.2.2.1,((out.set dP.toNat (0,0,0,[],0,0,0,0,0,0,false,(out.getD dP.toNat zq2).2.2.2.2.2.2.2.2.2.2.2)).getD dP.toNat zq2).2.2.2.2.2.2.1,((out.set dP.toNat (0,0,0,[],0,0,0,0,0,0,false,(out.getD dP.toNat zq2).2.2.2.2.2.2.2.2.2.2.2)).getD dP.toNat zq2).2.2.2.2.2.2.2.1,((out.set dP.toNat (0,0,0,[],0,0,0,0,0,0,false,(out.getD dP.toNat zq2).2.2.2.2.2.2.2.2.2.2.2)).getD dP.toNat zq2).2.2.2.2.2.2.2.2.1,((out.set dP.toNat (0,0,0,[],0,0,0,0,0,0,false,(out.getD dP.toNat zq2).2.2.2.2.2.2.2.2.2.2.2)).getD dP.toNat zq2).2.2.2.2.2.2.2.2.2.1,((out.set dP.toNat (0,0,0,[],0,0,0,0,0,0,false,(out.getD dP.toNat zq2).2.2.2.2.2.2.2.2.2.2.2)).getD dP.toNat zq2).2.2.2.2.2.2.2.2.2.2.1,((out.set dP.toNat (0,0,0,[],0,0,0,0,0,0,false,(out.getD dP.toNat zq2).2.2.2.2.2.2.2.2.2.2.2)).getD dP.toNat zq2).2.2.2.2.2.2.2.2.2.2.2.1,0,0,0),ids++[((out.getD dP.toNat zq2).1,(out.getD dP.toNat zq2).2.1,(out.getD dP.toNat zq2).2.2.1)],C5,i64.wrap (dP+1))else none else none else none else none else rD f (vi,out,ids,C5,i64.wrap (dP+1))else none else rD f (vi,out,ids,C5,i64.wrap (dP+1))else none else some (out,ids):=by kernel_rfl
noncomputable def ku:List aL→(aj×(List aL)×(List aj)×Int×Nat)→(List aL)×(List aj)
 | [],(vi,out,ids,C5,dP)=>(out,ids)
 | uu::rest,(vi,out,ids,C5,dP)=>bif !cB uu then bif uu.2.2.2.2.2.2.2.2.2.2.2.2.1 == vi.1&&(uu.2.2.2.2.2.2.2.2.2.2.2.2.2.1 == vi.2.1&&(uu.2.2.2.2.2.2.2.2.2.2.2.2.2.2 == vi.2.2&&true))then ku rest (vi,(out.set (↑dP:Int).toNat (0,0,0,[],0,0,0,0,0,0,false,uu.2.2.2.2.2.2.2.2.2.2.2)).set (↑dP:Int).toNat (0,0,0,[],0,0,0,0,0,0,false,uu.2.2.2.2.2.2.2.2.2.2.2.1,0,0,0),ids++[(uu.1,uu.2.1,uu.2.2.1)],C5,dP+1)else ku rest (vi,out,ids,C5,dP+1)else ku rest (vi,out,ids,C5,dP+1)
noncomputable def nd:List aL→(aj×(List aL)×(List aj)×Int×Nat)→Bool
 | [],(vi,out,ids,C5,dP)=>true
 | uu::rest,(vi,out,ids,C5,dP)=>bif !cB uu then bif uu.2.2.2.2.2.2.2.2.2.2.2.2.1 == vi.1&&(uu.2.2.2.2.2.2.2.2.2.2.2.2.2.1 == vi.2.1&&(uu.2.2.2.2.2.2.2.2.2.2.2.2.2.2 == vi.2.2&&true))then decide ((ids.length+1)*24≤140737488355328)&&nd rest (vi,(out.set (↑dP:Int).toNat (0,0,0,[],0,0,0,0,0,0,false,uu.2.2.2.2.2.2.2.2.2.2.2)).set (↑dP:Int).toNat (0,0,0,[],0,0,0,0,0,0,false,uu.2.2.2.2.2.2.2.2.2.2.2.1,0,0,0),ids++[(uu.1,uu.2.1,uu.2.2.1)],C5,dP+1)else nd rest (vi,out,ids,C5,dP+1)else nd rest (vi,out,ids,C5,dP+1)
theorem AD:∀(rest:List aL) (vi:aj) (out:List aL) (ids:List aj) (C5:Int) (dP:Nat) (hd:out.drop dP=rest) (hn:C5=((out.length:Nat):Int)) (hl:out.length≤1099511627776),de (fun f=>rD f (vi,out,ids,C5,((dP:Nat):Int))) (nd rest (vi,out,ids,C5,dP)) (ku rest (vi,out,ids,C5,dP))
 | [],vi,out,ids,C5,dP,hd,hn,hl=>ai (fun f=>(CJ f _ _ _ _ _).trans (by simp only[iZ hn (bT hd),fW,azP,azI,azX]<;>rfl)) ae
 | uu::rest,vi,out,ids,C5,dP,hd,hn,hl=>ai (fun f=>(CJ f _ _ _ _ _).trans (by simp only[iW hn (ak hd),cK (ak hd),bC hd,bk (ak hd) hl,bH (ak hd),fW,azQ,azH,azX]<;>rfl)) (ao (ao (aI (AD rest _ _ _ _ _ (by first | exact aH hd | exact drop_set hd | exact bB (drop_set hd)) (by grind) (by grind))) (AD rest _ _ _ _ _ (by first | exact aH hd | exact drop_set hd | exact bB (drop_set hd)) (by grind) (by grind))) (AD rest _ _ _ _ _ (by first | exact aH hd | exact drop_set hd | exact bB (drop_set hd)) (by grind) (by grind)))
noncomputable def acD:((List aL)×aj)→(List aL)×(List aj)
 | (l,qb)=>bif qb.1 == 0&&(qb.2.1 == 0&&(qb.2.2 == 0&&true))then(l,[])else ku l (qb,l,[],(↑l.length:Int),0)
noncomputable def aaM:((List aL)×aj)→Bool
 | (l,qb)=>ct l&&bif qb.1 == 0&&(qb.2.1 == 0&&(qb.2.2 == 0&&true))then true else decide (l.length≤1099511627776)&&nd l (qb,l,[],(↑l.length:Int),0)
theorem WS:∀a:(List aL)×aj,de (fun f=>ai1 f a) (aaM a) (acD a)
 | (l,qb)=>ai (fun f=>abi f _ _) (aI (ao ae (bL fun hh=>AD _ _ _ _ _ _ rfl (by grind) (azZ hh))))
theorem Pl(n:Int)(qb:aj)(V4:qb ≠ (0,0,0)):∀(r out:List aL) (ids:List aj) (k:Nat),out.drop k=r→ids.length+r.length≤68719476736→ku r (qb,out,ids,n,k)=(out.take k++r.map (nw qb),ids++(r.filter (sH qb)).map xH)∧nd r (qb,out,ids,n,k)=true
 | [],out,ids,k,h,hl=>by
  refine⟨?_,rfl⟩;simp only[ku,aBq,aAc,aBT];rw[aAQ (by grind)]
 | u::r,out,ids,k,h,hl=>by
  simp only[azL]at hl;simp only[ku,nd,akl];have h3:decide (qb=(0,0,0))=false:=azK V4;cases hb:sH qb u
  ·have ih:=Pl n qb V4 r out ids (k+1) (aH h) (by omega)
   rw[ih.1,ih.2,aAy,List.filter_cons,hb];simp only[sH]at hb;have e:nw qb u=u:=by simp only[nw,sH,hb,azI]
   grind
  ·have e:nw qb u=Ys sz (Ju u) (0,0,0):=by simp only[nw,hb,azH]
   have ih:=Pl n qb V4 r (out.set (Int.toNat ((k:Nat):Int)) (nw qb u)) (ids++[xH u]) (k+1) (tV h).2 (by simp;omega);rw[(tV h).1]at ih;rw[aAy,List.filter_cons,hb];simp only[sH,azF,aAi]at hb;obtain⟨h1,h2,_⟩:=hb;simp only[h1,h2,aBh,azH,FA];rw[e]at ih;have hd:decide ((ids.length+1)*24≤140737488355328)=true:=azC (by omega);rw[hd,azP];refine⟨?_,ih.2⟩;refine Eq.trans ih.1 ?_;rw[e];simp
theorem SI(l:List aL):tS (l,(0,0,0))=(l,[]):=by
 have h:∀s,sH (0,0,0) s=false:=fun s=>by simp[sH]
 have h2:nw (0,0,0)=id:=funext fun s=>by simp[nw,h]
 have h3:sH (0,0,0)=fun _=>false:=funext h
 simp only[tS,h2,h3,aAW];simp_all
theorem aoI:∀a:List aL×aj,ct a.1=true→aaM a=true:=fun a h=>by
 have:=fD h;simp only[aaM,h,YX,azP];by_cases hb:a.2=(0,0,0)
 ·simp[hb]
 ·simp only[azK hb,azI,(Pl _ a.2 hb a.1 a.1 [] 0 rfl (by grind)).2,aAt]
  grind
theorem aoJ:∀a:List aL×aj,ct a.1=true→acD a=tS a:=by
 rintro⟨l,b⟩ h;simp only[acD,YX];by_cases hb:b=(0,0,0)
 ·grind[SI]
 ·simp only[azK hb,azI]
  exact(Pl _ b hb l l [] 0 rfl (by grind[fD])).1
noncomputable def arq:dn:=⟨54,[.rd bg,.g aE],[.o 64 15 bg,.o 48 3 aE],fun a:(List aL)×aj=>ct a.1,tS⟩
theorem ac4:zO arq:=fl adU GY [.tmp 4,.tmp 5] mixed (ah CZ (ah wh (aC))) Tryz.func54 (bp WS aoI aoJ)
def iR:aL:=zq2
open Go.Proofs
theorem T5{α:Type}{p:α→Bool}(l:List α):decide (bu p l 0≥0)=l.any p:=by
 cases h:l.any p
 ·grind[fR,any_false]
 ·rcases uT (p:=p) (l:=l) (k:=0) (by omega)with h1 | h1
  ·grind
  grind[fR]
theorem BU{α:Type}{p:α→Bool}:∀(l:List α) (k0:Int) (k:Nat) (u:α) (r:List α),l.drop k=u::r→p u=true→(bu p l k0=k0+(k:Nat)↔(l.take k).any p=false)
 | [],k0,k,u,r,h,hp=>by simp at h
 | x::l,k0,0,u,r,h,hp=>by
  simp only[List.drop_zero,aBw]at h;grind[bu]
 | x::l,k0,k+1,u,r,h,hp=>by
  simp only[List.drop_succ_cons]at h;have ih:=BU l (k0+1) k u r h hp;simp only[bu,List.take_succ_cons,aBS];grind
open Go.Proofs
noncomputable def OX:cX:=zC [ni] (dE [(6,([(0,[]),(1,[]),(2,[]),(3,[]),(4,[]),(5,[]),(6,[]),(7,[]),(8,[]),(9,[]),(10,[]),(11,[]),(12,[]),(13,[]),(14,[])],[(29,42)]))]) 44
def Ad:Nat→LD:=eO [(0,⟨[.c 0 (.sl aF),.c 1 (zI),.list 5 999 64 15 bg,.c 6 (zI)],[],0⟩)]
noncomputable def abS(f:Nat)(a:(List ag)×Int):Option ((List aL)):=aG OX Ad (zK [.tmp 4] [.o 64 15 bg]) f [.code (aB Tryz.f68)] (aQ [.c (.sl aF),.c zI] a)
noncomputable def lS(f:Nat)(x:(List ag)×Int×(List aL)×Int):Option ((List aL)):=aG OX Ad (zK [.tmp 4] [.o 64 15 bg]) f (aV Tryz.f68 0) ((Ad 0).mk' x)
theorem U8(f:Nat)(l:List ag)(core:Int):abS (f+1) (l,core) =
  lS f (l,core,List.replicate (Int.toNat 12) zq2,0):=by kernel_rfl
theorem yv(f:Nat)(l:List ag)(core:Int)(out:List aL)(i:Int):lS (f+1) (l,core,out,i) =
  bif decide (i<(↑l.length:Int))then bif decide (0≤i)&&decide (i<(↑l.length:Int))then bif(l.getD i.toNat zq1).1 == core then bif decide (0≤i)&&decide (i<(↑l.length:Int))then bif decide ((l.getD i.toNat zq1).2.1<12)then bif decide (0≤i)&&decide (i<(↑l.length:Int))then bif decide (0≤i)&&decide (i<(↑l.length:Int))then bif af (l.getD i.toNat zq1).2.2.2.2.2.1 then bif decide (0≤(l.getD i.toNat zq1).2.1)&&decide ((l.getD i.toNat zq1).2.1<(↑out.length:Int))then lS f (l,core,out.set (Int.toNat (l.getD i.toNat zq1).2.1) ((l.getD i.toNat zq1).2.2.1,(l.getD i.toNat zq1).2.2.2.1,(l.getD i.toNat zq1).2.2.2.2.1,(l.getD i.toNat zq1).2.2.2.2.2.1,(l.getD i.toNat zq1).2.2.2.2.2.2.1,(l.getD i.toNat zq1).2.2.2.2.2.2.2.1,(l.getD i.toNat zq1).2.2.2.2.2.2.2.2.1,(l.getD i.toNat zq1).2.2.2.2.2.2.2.2.2.1,(l.getD i.toNat zq1).2.2.2.2.2.2.2.2.2.2.1,(l.getD i.toNat zq1).2.2.2.2.2.2.2.2.2.2.2.1,(l.getD i.toNat zq1).2.2.2.2.2.2.2.2.2.2.2.2,(out.getD (Int.toNat (l.getD i.toNat zq1).2.1) zq2).2.2.2.2.2.2.2.2.2.2.2),i64.wrap (i+1))else none else none else none else none else lS f (l,core,out,i64.wrap (i+1))else none else lS f (l,core,out,i64.wrap (i+1))else none else some out:=by kernel_rfl
noncomputable def j3:List ag→((List ag)×Int×(List aL)×Nat)→(List aL)
 | [],(l,core,out,i)=>out
 | uu::rest,(l,core,out,i)=>bif uu.1 == core then bif decide (uu.2.1<12)then j3 rest (l,core,out.set (Int.toNat uu.2.1) (uu.2.2.1,uu.2.2.2.1,uu.2.2.2.2.1,uu.2.2.2.2.2.1,uu.2.2.2.2.2.2.1,uu.2.2.2.2.2.2.2.1,uu.2.2.2.2.2.2.2.2.1,uu.2.2.2.2.2.2.2.2.2.1,uu.2.2.2.2.2.2.2.2.2.2.1,uu.2.2.2.2.2.2.2.2.2.2.2.1,uu.2.2.2.2.2.2.2.2.2.2.2.2,(out.getD (Int.toNat uu.2.1) zq2).2.2.2.2.2.2.2.2.2.2.2),i+1)else j3 rest (l,core,out,i+1)else j3 rest (l,core,out,i+1)
noncomputable def jW:List ag→((List ag)×Int×(List aL)×Nat)→Bool
 | [],(l,core,out,i)=>true
 | uu::rest,(l,core,out,i)=>bif uu.1 == core then bif decide (uu.2.1<12)then af uu.2.2.2.2.2.1&&(decide (0≤uu.2.1)&&decide (uu.2.1<(↑out.length:Int))&&jW rest (l,core,out.set (Int.toNat uu.2.1) (uu.2.2.1,uu.2.2.2.1,uu.2.2.2.2.1,uu.2.2.2.2.2.1,uu.2.2.2.2.2.2.1,uu.2.2.2.2.2.2.2.1,uu.2.2.2.2.2.2.2.2.1,uu.2.2.2.2.2.2.2.2.2.1,uu.2.2.2.2.2.2.2.2.2.2.1,uu.2.2.2.2.2.2.2.2.2.2.2.1,uu.2.2.2.2.2.2.2.2.2.2.2.2,(out.getD (Int.toNat uu.2.1) zq2).2.2.2.2.2.2.2.2.2.2.2),i+1))else jW rest (l,core,out,i+1)else jW rest (l,core,out,i+1)
theorem wm:∀(rest l:List ag) (core:Int) (out:List aL) (i:Nat) (hd:l.drop i=rest) (hl:l.length≤1099511627776),de (fun f=>lS f (l,core,out,((i:Nat):Int))) (jW rest (l,core,out,i)) (j3 rest (l,core,out,i))
 | [],l,core,out,i,hd,hl=>ai (fun f=>(yv f _ _ _ _).trans (by simp only[fA (bT hd),fW,azP,azI]<;>rfl)) ae
 | uu::rest,l,core,out,i,hd,hl=>ai (fun f=>(yv f _ _ _ _).trans (by simp only[cK (ak hd),bC hd,bk (ak hd) hl,fW,azQ,azH]<;>rfl)) (ao (ao (aI (aI (wm rest _ _ _ _ (aH hd) hl))) (wm rest _ _ _ _ (aH hd) hl)) (wm rest _ _ _ _ (aH hd) hl))
noncomputable def acO:((List ag)×Int)→(List aL)
 | (l,core)=>j3 l (l,core,List.replicate (Int.toNat 12) zq2,0)
noncomputable def N2:((List ag)×Int)→Bool
 | (l,core)=>decide (l.length≤1099511627776)&&jW l (l,core,List.replicate (Int.toNat 12) zq2,0)
theorem TC:∀a:(List ag)×Int,de (fun f=>abS f a) (N2 a) (acO a)
 | (l,core)=>ai (fun f=>U8 f _ _) (bL fun hh=>wm _ _ _ _ _ rfl (azZ hh))
def aes(core:Int)(out:List aL)(e:ag):List aL:=bif decide (e.1=core)&&decide (e.2.1<12)then out.set e.2.1.toNat (Ys e.2.2 (Ju (out.getD e.2.1.toNat iR)) (nU (out.getD e.2.1.toNat iR)))else out
def M4(a:List ag×Int):List aL:=a.1.foldl (aes a.2) (List.replicate 12 iR)
def oE(a:List ag×Int):Bool:=af a.1&&a.1.all fun e=>decide (0≤e.2.1)&&af e.2.2.2.2.2.1
theorem sV(core:Int)(out:List aL)(e:ag):(aes core out e).length=out.length:=by
 grind[aes]
theorem M3(l:List ag)(core:Int):∀(r:List ag) (out:List aL) (k:Nat),out.length=12→(∀e∈r,0≤e.2.1∧af e.2.2.2.2.2.1=true)→j3 r (l,core,out,k)=r.foldl (aes core) out∧jW r (l,core,out,k)=true
 | [],out,k,h,hr=>⟨rfl,rfl⟩
 | u::r,out,k,h,hr=>by
  obtain⟨h1,h2⟩:=hr u (az1 ..);obtain⟨i1,i2⟩:=M3 l core r (aes core out u) (k+1) (by rw[sV,h]) (fun e he=>hr e (az6 _ he));simp only[j3,jW,xm,aAN,← i1,h2,azP,azC h1];by_cases c1:u.1=core
  ·by_cases c2:u.2.1<12
   ·have e1:aes core out u=out.set u.2.1.toNat (Ys u.2.2 (Ju (out.getD u.2.1.toNat iR)) (nU (out.getD u.2.1.toNat iR))):=by simp only[aes,azC c1,azC c2];rfl
    rw[e1]at i2 ⊢;simp only[azC c1,azC c2,azH,azC (show u.2.1<((out.length:Nat):Int)by omega)];exact⟨rfl,i2⟩
   ·have e1:aes core out u=out:=by simp only[aes,azC c1,azK c2];rfl
    grind
  ·have e1:aes core out u=out:=by simp only[aes,azK c1];rfl
   grind
theorem Ef{l:List ag}{c:Int}(h:oE (l,c)=true):l.length≤1099511627776∧∀e∈l,0≤e.2.1∧af e.2.2.2.2.2.1=true:=by
 simp only[oE,azF]at h;refine⟨azZ h.1,fun e he=>?_⟩;grind
theorem ali:∀a,oE a=true→N2 a=true:=by
 rintro⟨l,c⟩ h;obtain⟨h1,h2⟩:=Ef h;have:=(M3 l c l (List.replicate 12 iR) 0 rfl h2).2;simp only[N2,azC h1,azP];exact this
theorem alj:∀a,oE a=true→acO a=M4 a:=by
 rintro⟨l,c⟩ h;exact(M3 l c l (List.replicate 12 iR) 0 rfl (Ef h).2).1
noncomputable def OP:dn:=⟨68,[.c (.sl aF),.c zI],[.o 64 15 bg],oE,M4⟩
theorem VG:zO OP:=fl OX Ad [.tmp 4] mixed (ah gR (aC)) Tryz.func68 (bp TC ali alj)
theorem Es(steps:List iz):oE (aD steps,0)=true:=by
 obtain⟨h1,h2⟩:=rj steps;simp only[oE,azF];refine⟨azC (by omega),azU.2 fun e he=>?_⟩;simp only[azF,azM];exact⟨(h1.cs e he).2.1,azC (az0 (h1.path he) (by omega))⟩
