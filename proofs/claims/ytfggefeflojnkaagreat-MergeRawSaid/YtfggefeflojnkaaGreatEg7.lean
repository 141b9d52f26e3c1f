/- By an AI agent. -/
import Derived.Test.YtfggefeflojnkaaGreatEg4
set_option linter.unusedSimpArgs false
set_option linter.unusedVariables false
namespace Go.AL
open Go.Proofs
theorem uq{α:Type}(l:List α)(i:Nat)(v w:α):(l.set i v).set i w=l.set i w:=by
 rw[List.set_set]
def z8:dX:=zq0
def kV(gE:al)(s:ax):Bool:=!bJ s&&(decide (kR s=gE)&&!decide (gE=(0,0,0)))
def iK(gE:al)(s:ax):ax:=bif kV gE s then mkS z8 (sS s) (0,0,0)else s
def kI(a:List ax×al):List ax×List al:=(a.1.map (iK a.2),(a.1.filter (kV a.2)).map jl)
noncomputable def PS:cR:=⟨Tryz.prog,[wF,gN],dn [(6,([(0,[]),(1,[]),(2,[]),(3,[]),(4,[]),(5,[]),(6,[]),(7,[]),(8,[]),(9,[]),(10,[]),(11,[]),(12,[]),(13,[]),(14,[]),(15,[]),(16,[]),(17,[]),(18,[]),(19,[])],[(17,36)]))],58,[],[],[],[]⟩
theorem ai0:bp Tryz.prog [wF,gN] [] []:=ak wE (ak jf (aD))
def zF:Nat→LD:=ej [(0,⟨[.box 3 3 48 3 aH,.list 6 999 64 15 aW,.list 7 998 48 3 aH,.c 8 (.int .i64)],[],0⟩)]
noncomputable def adv(f:Nat)(a:(List (ax))×al):Option ((List (ax))×(List (al))):=(aG (PS) zF (aQ Tryz.prog [.tmp 4,.tmp 5] [.o 64 15 aW,.o 48 3 aH]) f [.code (aC Tryz.f106)] (aV [.rd aW,.g aH] a):Option (aA [.o 64 15 aW,.o 48 3 aH]))
noncomputable def fi(f:Nat)(x:al×(List (ax))×(List (al))×Int):Option ((List (ax))×(List (al))):=(aG (PS) zF (aQ Tryz.prog [.tmp 4,.tmp 5] [.o 64 15 aW,.o 48 3 aH]) f (aK Tryz.f106 0) ((zF 0).mk' x):Option (aA [.o 64 15 aW,.o 48 3 aH]))
theorem VQ(f:Nat)(l:List (ax))(gE:al):adv (f+1) (l,gE) =
  bif br l then fi f (gE,l,[],0)else none:=by kernel_rfl
theorem yr(f:Nat)(dU:al)(out:List (ax))(ids:List (al))(i:Int):fi (f+1) (dU,out,ids,i) =
  bif decide (i<(↑out.length:Int))then bif decide (0≤i)&&decide (i<(↑out.length:Int))then bif !bJ (out.getD i.toNat zq2)then bif decide (0≤i)&&decide (i<(↑out.length:Int))then bif(out.getD i.toNat zq2).2.2.2.2.2.2.2.2.2.2.2.2.1 == dU.1&&((out.getD i.toNat zq2).2.2.2.2.2.2.2.2.2.2.2.2.2.1 == dU.2.1&&((out.getD i.toNat zq2).2.2.2.2.2.2.2.2.2.2.2.2.2.2 == dU.2.2&&true))then bif !(dU.1 == 0&&(dU.2.1 == 0&&(dU.2.2 == 0&&true)))then bif decide (0≤i)&&decide (i<(↑out.length:Int))then bif decide ((ids.length+[((out.getD i.toNat zq2).1,(out.getD i.toNat zq2).2.1,(out.getD i.toNat zq2).2.2.1)].length)*24≤140737488355328)then bif decide (0≤i)&&decide (i<(↑out.length:Int))then bif decide (0≤i)&&decide (i<(↑(out.set i.toNat (0,0,0,[],0,0,0,0,0,0,false,(out.getD i.toNat zq2).2.2.2.2.2.2.2.2.2.2.2)).length:Int))then fi f (dU,(out.set i.toNat (0,0,0,[],0,0,0,0,0,0,false,(out.getD i.toNat zq2).2.2.2.2.2.2.2.2.2.2.2)).set i.toNat (((out.set i.toNat (0,0,0,[],0,0,0,0,0,0,false,(out.getD i.toNat zq2).2.2.2.2.2.2.2.2.2.2.2)).getD i.toNat zq2).1,((out.set i.toNat (0,0,0,[],0,0,0,0,0,0,false,(out.getD i.toNat zq2).2.2.2.2.2.2.2.2.2.2.2)).getD i.toNat zq2).2.1,((out.set i.toNat (0,0,0,[],0,0,0,0,0,0,false,(out.getD i.toNat zq2).2.2.2.2.2.2.2.2.2.2.2)).getD i.toNat zq2).2.2.1,((out.set i.toNat (0,0,0,[],0,0,0,0,0,0,false,(out.getD i.toNat zq2).2.2.2.2.2.2.2.2.2.2.2)).getD i.toNat zq2).2.2.2.1,((out.set i.toNat (0,0,0,[],0,0,0,0,0,0,false,(out.getD i.toNat zq2).2.2.2.2.2.2.2.2.2.2.2)).getD i.toNat zq2).2.2.2.2.1,((out.set i.toNat (0,0,0,[],0,0,0,0,0,0,false,(out.getD i.toNat zq2).2.2.2.2.2.2.2.2.2.2.2)).getD i.toNat zq2).2.2.2.2.2.1,((out.set i.toNat (0,0,0,[],0,0,0,0,0,0,false,(out.getD i.toNat zq2).2.2.2.2.2.2.2.2.2.2.2)).getD i.toNat zq2).2.2.2.2.2.2.1,((out.set i.toNat (0,0,0,[],0,0,0,0,0,0,false,(out.getD i.toNat zq2).2.2.2.2.2.2.2.2.2.2.2)).getD i.toNat zq2).2.2.2.2.2.2.2.1,((out.set i.toNat (0,0,0,[],0,0,0,0,0,0,false,(out.getD i.toNat zq2).2.2.2.2.2.2.2.2.2.2.2)).getD i.toNat zq2).2.2.2.2.2.2.2.2.1,((out.set i.toNat (0,0,0,[],0,0,0,0,0,0,false,(out.getD i.toNat zq2).2.2.2.2.2.2.2.2.2.2.2)).getD i.toNat zq2).2.2.2.2.2.2.2.2.2.1,((out.set i.toNat (0,0,0,[],0,0,0,0,0,0,false,(out.getD i.toNat zq2).2.2.2.2.2.2.2.2.2.2.2)).getD i.toNat zq2).2.2.2.2.2.2.2.2.2.2.1,((out.set i.toNat (0,0,0,[],0,0,0,0,0,0,false,(out.getD i.toNat zq2).2.2.2.2.2.2.2.2.2.2.2)).getD i.toNat zq2).2.2.2.2.2.2.2.2.2.2.2.1,0,0,0),ids++[((out.getD i.toNat zq2).1,(out.getD i.toNat zq2).2.1,(out.getD i.toNat zq2).2.2.1)],IntKind.i64.wrap (i+1))else none else none else none else none else fi f (dU,out,ids,IntKind.i64.wrap (i+1))else fi f (dU,out,ids,IntKind.i64.wrap (i+1))else none else fi f (dU,out,ids,IntKind.i64.wrap (i+1))else none else some (out,ids):=by kernel_rfl
noncomputable def gx:List (ax)→(al×(List (ax))×(List (al))×Nat)→(List (ax))×(List (al))
 | [],(dU,out,ids,i)=>(out,ids)
 | uu::rest,(dU,out,ids,i)=>bif !bJ uu then bif uu.2.2.2.2.2.2.2.2.2.2.2.2.1 == dU.1&&(uu.2.2.2.2.2.2.2.2.2.2.2.2.2.1 == dU.2.1&&(uu.2.2.2.2.2.2.2.2.2.2.2.2.2.2 == dU.2.2&&true))then bif !(dU.1 == 0&&(dU.2.1 == 0&&(dU.2.2 == 0&&true)))then gx rest (dU,(out.set (↑i:Int).toNat (0,0,0,[],0,0,0,0,0,0,false,uu.2.2.2.2.2.2.2.2.2.2.2)).set (↑i:Int).toNat (0,0,0,[],0,0,0,0,0,0,false,uu.2.2.2.2.2.2.2.2.2.2.2.1,0,0,0),ids++[(uu.1,uu.2.1,uu.2.2.1)],i+1)else gx rest (dU,out,ids,i+1)else gx rest (dU,out,ids,i+1)else gx rest (dU,out,ids,i+1)
noncomputable def ig:List (ax)→(al×(List (ax))×(List (al))×Nat)→Bool
 | [],(dU,out,ids,i)=>true
 | uu::rest,(dU,out,ids,i)=>bif !bJ uu then bif uu.2.2.2.2.2.2.2.2.2.2.2.2.1 == dU.1&&(uu.2.2.2.2.2.2.2.2.2.2.2.2.2.1 == dU.2.1&&(uu.2.2.2.2.2.2.2.2.2.2.2.2.2.2 == dU.2.2&&true))then bif !(dU.1 == 0&&(dU.2.1 == 0&&(dU.2.2 == 0&&true)))then decide ((ids.length+1)*24≤140737488355328)&&ig rest (dU,(out.set (↑i:Int).toNat (0,0,0,[],0,0,0,0,0,0,false,uu.2.2.2.2.2.2.2.2.2.2.2)).set (↑i:Int).toNat (0,0,0,[],0,0,0,0,0,0,false,uu.2.2.2.2.2.2.2.2.2.2.2.1,0,0,0),ids++[(uu.1,uu.2.1,uu.2.2.1)],i+1)else ig rest (dU,out,ids,i+1)else ig rest (dU,out,ids,i+1)else ig rest (dU,out,ids,i+1)
theorem rJ:∀(rest:List (ax)) (dU:al) (out:List (ax)) (ids:List (al)) (i:Nat) (hd:out.drop i=rest) (hl:out.length≤1099511627776),cj (fun f=>fi f (dU,out,ids,((i:Nat):Int))) (ig rest (dU,out,ids,i)) (gx rest (dU,out,ids,i))
 | [],dU,out,ids,i,hd,hl=>ah (fun f=>(yr f _ _ _ _).trans (by simp only[bW (aY hd),cB,aCw,aCu,aCn,aCq,aCx]<;>rfl)) ae
 | uu::rest,dU,out,ids,i,hd,hl=>ah (fun f=>(yr f _ _ _ _).trans (by simp only[bl (ag hd),aI hd,aM (ag hd) hl,aR (ag hd),cB,aCw,aCu,aCn,aCq,aCx]<;>rfl)) (aw (aw (aw (aE (rJ rest _ _ _ _ (by first | exact aq hd | exact drop_set hd | exact au (drop_set hd)) (by first | exact hl | simpa using hl))) (rJ rest _ _ _ _ (by first | exact aq hd | exact drop_set hd | exact au (drop_set hd)) (by first | exact hl | simpa using hl))) (rJ rest _ _ _ _ (by first | exact aq hd | exact drop_set hd | exact au (drop_set hd)) (by first | exact hl | simpa using hl))) (rJ rest _ _ _ _ (by first | exact aq hd | exact drop_set hd | exact au (drop_set hd)) (by first | exact hl | simpa using hl)))
noncomputable def aeD:((List (ax))×al)→(List (ax))×(List (al))
 | (l,gE)=>gx l (gE,l,[],0)
noncomputable def On:((List (ax))×al)→Bool
 | (l,gE)=>br l&&(decide (l.length≤1099511627776)&&ig l (gE,l,[],0))
theorem TS:∀a:(List (ax))×al,cj (fun f=>adv f a) (On a) (aeD a)
 | (l,gE)=>ah (fun f=>VQ f _ _) (aE (bC fun hh=>rJ _ _ _ _ _ rfl (aCE hh)))
theorem E5(gE:al):∀(r out:List ax) (ids:List al) (k:Nat),out.drop k=r→ids.length+r.length≤68719476736→gx r (gE,out,ids,k)=(out.take k++r.map (iK gE),ids++(r.filter (kV gE)).map jl)∧ig r (gE,out,ids,k)=true
 | [],out,ids,k,h,hl=>by
  refine⟨?_,rfl⟩;simp only[gx,aDR,aCM,aEo];rw[aDz (by have:=aY h;omega)]
 | u::r,out,ids,k,h,hl=>by
  simp only[aCv]at hl;simp only[gx,ig,Yt,NA];have hk:((k:Nat):Int).toNat=k:=aC8 k;cases hb:kV gE u
  ·have ih:=E5 gE r out ids (k+1) (aq h) (by omega)
   rw[ih.1,ih.2,aDh,aEF,hb];simp only[kV]at hb;have e:iK gE u=u:=by simp only[iK,kV,hb,aCq]
   rw[e];have t1:=eX h;rw[t1];cases h1:bJ u<;>cases h2:decide (kR u=gE)<;>cases h3:decide (gE=(0,0,0))<;>rw[h1,h2,h3]at hb<;>first | (cases hb;done) | (simp;done)
  ·have e:iK gE u=mkS z8 (sS u) (0,0,0):=by simp only[iK,hb,aCn]
   have ih:=E5 gE r (out.set (Int.toNat ((k:Nat):Int)) (iK gE u)) (ids++[jl u]) (k+1) (gS h).2 (by simp;omega);rw[(gS h).1]at ih;rw[aDh,aEF,hb];simp only[kV,aCs,aDe]at hb;obtain⟨h1,h2,h3⟩:=hb;simp only[h1,h2,h3,aEi,aCn,uq];rw[e]at ih;have hd:decide ((ids.length+1)*24≤140737488355328)=true:=aCm (by omega);rw[hd,aCu];refine⟨?_,ih.2⟩;refine Eq.trans ih.1 ?_;rw[e];simp
theorem am5:∀a:List ax×al,br a.1=true→On a=true:=fun a h=>by
 have:=dt h;simp only[On,h,(E5 a.2 a.1 a.1 [] 0 rfl (by simpa using this)).2,aCT,aCu];exact aCm (by omega)
theorem am6:∀a:List ax×al,br a.1=true→aeD a=kI a:=fun a h=>(E5 a.2 a.1 a.1 [] 0 rfl (by simpa using dt h)).1
abbrev YN:=bm TS am5 am6
noncomputable def Pl:db:=⟨106,[.rd aW,.g aH],[.o 64 15 aW,.o 48 3 aH],fun a=>(fun a=>br a.1:(List (ax))×al→Bool) a,fun a=>(kI:(List (ax))×al→(List (ax))×(List (al))) a⟩
theorem WH:Pl.Ok Tryz.prog:=eB (C:=PS) (Lt:=zF) (rs:=[.tmp 4,.tmp 5]) mixed ai0 Tryz.func106 rfl rfl rfl (by kernel_rfl) (by kernel_rfl) YN
noncomputable def afF:cR:=⟨Tryz.prog,[L5,Cp],dn [(8,([(0,[]),(1,[]),(2,[]),(3,[]),(4,[]),(5,[]),(6,[]),(7,[]),(8,[]),(9,[]),(10,[]),(11,[]),(12,[]),(13,[]),(14,[])],[(20,34)]))],57,[],[],[],[]⟩
theorem apg:bp Tryz.prog [L5,Cp] [] []:=ak Cq (ak wD (aD))
def GO:Nat→LD:=ej [(0,⟨[.box 3 3 48 3 aH,.list 6 999 64 15 aW,.list 7 998 48 3 aH,.c 16 (.int .i64),.c 17 (.int .i64)],[],0⟩)]
noncomputable def alE(f:Nat)(a:(List (ax))×al):Option ((List (ax))×(List (al))):=(aG (afF) GO (aQ Tryz.prog [.tmp 4,.tmp 5] [.o 64 15 aW,.o 48 3 aH]) f [.code (aC Tryz.f54)] (aV [.rd aW,.g aH] a):Option (aA [.o 64 15 aW,.o 48 3 aH]))
noncomputable def iW(f:Nat)(x:al×(List (ax))×(List (al))×Int×Int):Option ((List (ax))×(List (al))):=(aG (afF) GO (aQ Tryz.prog [.tmp 4,.tmp 5] [.o 64 15 aW,.o 48 3 aH]) f (aK Tryz.f54 0) ((GO 0).mk' x):Option (aA [.o 64 15 aW,.o 48 3 aH]))
theorem ac9(f:Nat)(l:List (ax))(gE:al):alE (f+1) (l,gE) =
  bif br l then bif gE.1 == 0&&(gE.2.1 == 0&&(gE.2.2 == 0&&true))then some (l,[])else iW f (gE,l,[],(↑l.length:Int),0)else none:=by kernel_rfl
theorem BX(f:Nat)(dU:al)(out:List (ax))(ids:List (al))(yO:Int)(dF:Int):iW (f+1) (dU,out,ids,yO,dF) =
  bif decide (dF<yO)then bif decide (0≤dF)&&decide (dF<(↑out.length:Int))then bif !bJ (out.getD dF.toNat zq2)then bif decide (0≤dF)&&decide (dF<(↑out.length:Int))then bif(out.getD dF.toNat zq2).2.2.2.2.2.2.2.2.2.2.2.2.1 == dU.1&&((out.getD dF.toNat zq2).2.2.2.2.2.2.2.2.2.2.2.2.2.1 == dU.2.1&&((out.getD dF.toNat zq2).2.2.2.2.2.2.2.2.2.2.2.2.2.2 == dU.2.2&&true))then bif decide (0≤dF)&&decide (dF<(↑out.length:Int))then bif decide ((ids.length+[((out.getD dF.toNat zq2).1,(out.getD dF.toNat zq2).2.1,(out.getD dF.toNat zq2).2.2.1)].length)*24≤140737488355328)then bif decide (0≤dF)&&decide (dF<(↑out.length:Int))then bif decide (0≤dF)&&decide (dF<(↑(out.set dF.toNat (0,0,0,[],0,0,0,0,0,0,false,(out.getD dF.toNat zq2).2.2.2.2.2.2.2.2.2.2.2)).length:Int))then iW f (dU,(out.set dF.toNat (0,0,0,[],0,0,0,0,0,0,false,(out.getD dF.toNat zq2).2.2.2.2.2.2.2.2.2.2.2)).set dF.toNat (((out.set dF.toNat (0,0,0,[],0,0,0,0,0,0,false,(out.getD dF.toNat zq2).2.2.2.2.2.2.2.2.2.2.2)).getD dF.toNat zq2).1,((out.set dF.toNat (0,0,0,[],0,0,0,0,0,0,false,(out.getD dF.toNat zq2).2.2.2.2.2.2.2.2.2.2.2)).getD dF.toNat zq2).2.1,((out.set dF.toNat (0,0,0,[],0,0,0,0,0,0,false,(out.getD dF.toNat zq2).2.2.2.2.2.2.2.2.2.2.2)).getD dF.toNat zq2).2.2.1,((out.set dF.toNat (0,0,0,[],0,0,0,0,0,0,false,(out.getD dF.toNat zq2).2.2.2.2.2.2.2.2.2.2.2)).getD dF.toNat zq2).2.2.2.1,((out.set dF.toNat (0,0,0,[],0,0,0,0,0,0,false,(out.getD dF.toNat zq2).2.2.2.2.2.2.2.2.2.2.2)).getD dF.toNat zq2).2.2.2.2.1,((out.set dF.toNat (0,0,0,[],0,0,0,0,0,0,false,(out.getD dF.toNat zq2).2.2.2.2.2.2.2.2.2.2.2)).getD dF.toNat zq2).2.2.2.2.2.1,((out.set dF.toNat (0,0,0,[],0,0,0,0,0,0,false,(out.getD dF.toNat zq2).2.2.2.2.2.2.2.2.2.2.2)).getD dF.toNat zq2).2.2.2.2.2.2.1,((out.set dF.toNat (0,0,0,[],0,0,0,0,0,0,false,(out.getD dF.toNat zq2).2.2.2.2.2.2.2.2.2.2.2)).getD dF.toNat zq2).2.2.2.2.2.2.2.1,((out.set dF.toNat (0,0,0,[],0,0,0,0,0,0,false,(out.getD dF.toNat zq2).2.2.2.2.2.2.2.2.2.2.2)).getD dF.toNat zq2).2.2.2.2.2.2.2.2.1,((out.set dF.toNat (0,0,0,[],0,0,0,0,0,0,false,(out.getD dF.toNat zq2).2.2.2.2.2.2.2.2.2.2.2)).getD dF.toNat zq2).2.2.2.2.2.2.2.2.2.1,((out.set dF.toNat (0,0,0,[],0,0,0,0,0,0,false,(out.getD dF.toNat zq2).2.2.2.2.2.2.2.2.2.2.2)).getD dF.toNat zq2).2.2.2.2.2.2.2.2.2.2.1,((out.set dF.toNat (0,0,0,[],0,0,0,0,0,0,false,(out.getD dF.toNat zq2).2.2.2.2.2.2.2.2.2.2.2)).getD dF.toNat zq2).2.2.2.2.2.2.2.2.2.2.2.1,0,0,0),ids++[((out.getD dF.toNat zq2).1,(out.getD dF.toNat zq2).2.1,(out.getD dF.toNat zq2).2.2.1)],yO,IntKind.i64.wrap (dF+1))else none else none else none else none else iW f (dU,out,ids,yO,IntKind.i64.wrap (dF+1))else none else iW f (dU,out,ids,yO,IntKind.i64.wrap (dF+1))else none else some (out,ids):=by kernel_rfl
noncomputable def kC:List (ax)→(al×(List (ax))×(List (al))×Int×Nat)→(List (ax))×(List (al))
 | [],(dU,out,ids,yO,dF)=>(out,ids)
 | uu::rest,(dU,out,ids,yO,dF)=>bif !bJ uu then bif uu.2.2.2.2.2.2.2.2.2.2.2.2.1 == dU.1&&(uu.2.2.2.2.2.2.2.2.2.2.2.2.2.1 == dU.2.1&&(uu.2.2.2.2.2.2.2.2.2.2.2.2.2.2 == dU.2.2&&true))then kC rest (dU,(out.set (↑dF:Int).toNat (0,0,0,[],0,0,0,0,0,0,false,uu.2.2.2.2.2.2.2.2.2.2.2)).set (↑dF:Int).toNat (0,0,0,[],0,0,0,0,0,0,false,uu.2.2.2.2.2.2.2.2.2.2.2.1,0,0,0),ids++[(uu.1,uu.2.1,uu.2.2.1)],yO,dF+1)else kC rest (dU,out,ids,yO,dF+1)else kC rest (dU,out,ids,yO,dF+1)
noncomputable def nC:List (ax)→(al×(List (ax))×(List (al))×Int×Nat)→Bool
 | [],(dU,out,ids,yO,dF)=>true
 | uu::rest,(dU,out,ids,yO,dF)=>bif !bJ uu then bif uu.2.2.2.2.2.2.2.2.2.2.2.2.1 == dU.1&&(uu.2.2.2.2.2.2.2.2.2.2.2.2.2.1 == dU.2.1&&(uu.2.2.2.2.2.2.2.2.2.2.2.2.2.2 == dU.2.2&&true))then decide ((ids.length+1)*24≤140737488355328)&&nC rest (dU,(out.set (↑dF:Int).toNat (0,0,0,[],0,0,0,0,0,0,false,uu.2.2.2.2.2.2.2.2.2.2.2)).set (↑dF:Int).toNat (0,0,0,[],0,0,0,0,0,0,false,uu.2.2.2.2.2.2.2.2.2.2.2.1,0,0,0),ids++[(uu.1,uu.2.1,uu.2.2.1)],yO,dF+1)else nC rest (dU,out,ids,yO,dF+1)else nC rest (dU,out,ids,yO,dF+1)
theorem z7:∀(rest:List (ax)) (dU:al) (out:List (ax)) (ids:List (al)) (yO:Int) (dF:Nat) (hd:out.drop dF=rest) (hn:yO=((out.length:Nat):Int)) (hl:out.length≤1099511627776),cj (fun f=>iW f (dU,out,ids,yO,((dF:Nat):Int))) (nC rest (dU,out,ids,yO,dF)) (kC rest (dU,out,ids,yO,dF))
 | [],dU,out,ids,yO,dF,hd,hn,hl=>ah (fun f=>(BX f _ _ _ _ _).trans (by simp only[iR hn (aY hd),cB,aCw,aCu,aCn,aCq,aCx]<;>rfl)) ae
 | uu::rest,dU,out,ids,yO,dF,hd,hn,hl=>ah (fun f=>(BX f _ _ _ _ _).trans (by simp only[iO hn (ag hd),bl (ag hd),aI hd,aM (ag hd) hl,aR (ag hd),cB,aCw,aCu,aCn,aCq,aCx]<;>rfl)) (aw (aw (aE (z7 rest _ _ _ _ _ (by first | exact aq hd | exact drop_set hd | exact au (drop_set hd)) (by first | exact hn | simpa using hn) (by first | exact hl | simpa using hl))) (z7 rest _ _ _ _ _ (by first | exact aq hd | exact drop_set hd | exact au (drop_set hd)) (by first | exact hn | simpa using hn) (by first | exact hl | simpa using hl))) (z7 rest _ _ _ _ _ (by first | exact aq hd | exact drop_set hd | exact au (drop_set hd)) (by first | exact hn | simpa using hn) (by first | exact hl | simpa using hl)))
noncomputable def aez:((List (ax))×al)→(List (ax))×(List (al))
 | (l,gE)=>bif gE.1 == 0&&(gE.2.1 == 0&&(gE.2.2 == 0&&true))then(l,[])else kC l (gE,l,[],(↑l.length:Int),0)
noncomputable def acw:((List (ax))×al)→Bool
 | (l,gE)=>br l&&bif gE.1 == 0&&(gE.2.1 == 0&&(gE.2.2 == 0&&true))then true else decide (l.length≤1099511627776)&&nC l (gE,l,[],(↑l.length:Int),0)
theorem X6:∀a:(List (ax))×al,cj (fun f=>alE f a) (acw a) (aez a)
 | (l,gE)=>ah (fun f=>ac9 f _ _) (aE (aw ae (bC fun hh=>z7 _ _ _ _ _ _ rfl (by first | rfl | simp) (aCE hh))))
theorem Qn(n:Int)(gE:al)(Xl:gE ≠ (0,0,0)):∀(r out:List ax) (ids:List al) (k:Nat),out.drop k=r→ids.length+r.length≤68719476736→kC r (gE,out,ids,n,k)=(out.take k++r.map (iK gE),ids++(r.filter (kV gE)).map jl)∧nC r (gE,out,ids,n,k)=true
 | [],out,ids,k,h,hl=>by
  refine⟨?_,rfl⟩;simp only[kC,aDR,aCM,aEo];rw[aDz (by have:=aY h;omega)]
 | u::r,out,ids,k,h,hl=>by
  simp only[aCv]at hl;simp only[kC,nC,Yt];have h3:decide (gE=(0,0,0))=false:=aCz Xl;cases hb:kV gE u
  ·have ih:=Qn n gE Xl r out ids (k+1) (aq h) (by omega)
   rw[ih.1,ih.2,aDh,aEF,hb];simp only[kV]at hb;have e:iK gE u=u:=by simp only[iK,kV,hb,aCq]
   rw[e];have t1:=eX h;rw[t1];cases h1:bJ u<;>cases h2:decide (kR u=gE)<;>rw[h1,h2,h3]at hb<;>first | (cases hb;done) | (simp;done)
  ·have e:iK gE u=mkS z8 (sS u) (0,0,0):=by simp only[iK,hb,aCn]
   have ih:=Qn n gE Xl r (out.set (Int.toNat ((k:Nat):Int)) (iK gE u)) (ids++[jl u]) (k+1) (gS h).2 (by simp;omega);rw[(gS h).1]at ih;rw[aDh,aEF,hb];simp only[kV,aCs,aDe]at hb;obtain⟨h1,h2,_⟩:=hb;simp only[h1,h2,aEi,aCn,uq];rw[e]at ih;have hd:decide ((ids.length+1)*24≤140737488355328)=true:=aCm (by omega);rw[hd,aCu];refine⟨?_,ih.2⟩;refine Eq.trans ih.1 ?_;rw[e];simp
theorem Tq(l:List ax):kI (l,(0,0,0))=(l,[]):=by
 have h:∀s,kV (0,0,0) s=false:=fun s=>by simp[kV]
 have h2:iK (0,0,0)=id:=funext fun s=>by simp[iK,h]
 have h3:kV (0,0,0)=fun _=>false:=funext h
 simp only[kI,h2,h3,aDP];rw[aE2.2 (fun a _=>by simp)];rfl
theorem arF:∀a:List ax×al,br a.1=true→acw a=true:=fun a h=>by
 have:=dt h;simp only[acw,h,NA,aCu];by_cases hb:a.2=(0,0,0)
 ·simp[hb]
 ·simp only[aCz hb,aCq,(Qn _ a.2 hb a.1 a.1 [] 0 rfl (by simpa using this)).2,aCT]
  exact aCm (by omega)
theorem arG:∀a:List ax×al,br a.1=true→aez a=kI a:=by
 rintro⟨l,b⟩ h;simp only[aez,NA];by_cases hb:b=(0,0,0)
 ·subst hb;rw[Tq];rfl
 ·simp only[aCz hb,aCq]
  exact(Qn _ b hb l l [] 0 rfl (by simpa using dt h)).1
abbrev agX:=bm X6 arF arG
noncomputable def aum:db:=⟨54,[.rd aW,.g aH],[.o 64 15 aW,.o 48 3 aH],fun a=>(fun a=>br a.1:(List (ax))×al→Bool) a,fun a=>(kI:(List (ax))×al→(List (ax))×(List (al))) a⟩
theorem ae6:aum.Ok Tryz.prog:=eB (C:=afF) (Lt:=GO) (rs:=[.tmp 4,.tmp 5]) mixed apg Tryz.func54 rfl rfl rfl (by kernel_rfl) (by kernel_rfl) agX
def kF:ax:=zq2
open Go.Proofs
def Qi(s:ax):Bool:=decide (0≤sS s)&&(decide (sS s≤1073741824)&&bif bJ s then decide (snd s=z8)&&decide (kR s=(0,0,0))else ee (snd s)&&(decide (kR s=(0,0,0)) || (dY (kR s)&&decide ((kR s).2.2=0))))
theorem ahf(u:ax):(u.2.2.2.2.2.2.2.2.2.2.2.2.1 == 0&&(u.2.2.2.2.2.2.2.2.2.2.2.2.2.1 == 0&&(u.2.2.2.2.2.2.2.2.2.2.2.2.2.2 == 0&&true)))=decide (kR u=(0,0,0)):=id_eq (kR u) (0,0,0)
theorem ao7(a b:Int):decide (a≤b) = !decide (b<a):=by rw[← decide_not];exact aEc.2 (by omega)
def sZ:List ax→List ax→Bool
 | _,[]=>true
 | pre,u::r=>Qi u&&(!pre.any (dJ (jl u))&&sZ (pre++[u]) r)
def pb(l:List ax):Bool:=decide (l.length≤64)&&sZ [] l
theorem DU{α:Type}{p:α→Bool}(l:List α):decide (aL p l 0≥0)=l.any p:=by
 cases h:l.any p
 ·have:=(jz (p:=p) (l:=l) (k:=0) (by omega)).1 (any_false h)
  rw[this];rfl
 ·rcases abh (p:=p) (l:=l) (k:=0) (by omega)with h1 | h1
  ·exact aCm h1
  ·obtain⟨x,hx,hp⟩:=aEf.1 h
   have:=(jz (p:=p) (l:=l) (k:=0) (by omega)).2 h1 x hx;rw[hp]at this;cases this
theorem Bo{α:Type}{p:α→Bool}:∀(l:List α) (k0:Int) (k:Nat) (u:α) (r:List α),l.drop k=u::r→p u=true→(aL p l k0=k0+(k:Nat)↔(l.take k).any p=false)
 | [],k0,k,u,r,h,hp=>by simp at h
 | x::l,k0,0,u,r,h,hp=>by
  simp only[aED,aEa]at h;simp[aL,h.1,hp]
 | x::l,k0,k+1,u,r,h,hp=>by
  simp only[List.drop_succ_cons]at h;have ih:=Bo l (k0+1) k u r h hp;simp only[aL,List.take_succ_cons,List.any_cons];cases hx:p x
  ·simp only[aCq,Bool.false_or];rw[← ih];omega
  ·simp only[aCn,Bool.true_or];constructor
   ·intro h;omega
   ·intro h;cases h
theorem UN(s:ax):dJ (0,0,0) s=false:=by
 simp only[dJ,bJ];cases decide (jl s=(0,0,0))<;>rfl
theorem asm(n:Nat):decide (((n:Nat):Int)>64) = !decide (n≤64):=by rw[← decide_not];exact aEc.2 (by omega)
theorem ajE{s:ax}(h:bJ s=true):jl s=(0,0,0):=aCE h
open Go.Proofs
