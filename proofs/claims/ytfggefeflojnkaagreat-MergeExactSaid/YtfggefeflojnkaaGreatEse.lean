/- AI. -/
import Derived.Test.YtfggefeflojnkaaGreatEg7
import Derived.Test.YtfggefeflojnkaaGreatEst4
set_option linter.unusedVariables false
open Go.IntKind (i64 u64)
namespace Go.AL
open Go.Proofs
def aiE(core i:Int)(s:aL):ag:=(core,i,s.1,s.2.1,s.2.2.1,s.2.2.2.1,s.2.2.2.2.1,s.2.2.2.2.2.1,s.2.2.2.2.2.2.1,s.2.2.2.2.2.2.2.1,s.2.2.2.2.2.2.2.2.1,s.2.2.2.2.2.2.2.2.2.1,s.2.2.2.2.2.2.2.2.2.2.1)
def wZ(core:Int):List aL→Nat→List ag
 | [],_=>[]
 | s::r,i=>bif cB s then wZ core r (i+1)else aiE core ((i:Nat):Int) s::wZ core r (i+1)
def jQ(a:List aL×Int):List ag:=ca cj (wZ a.2 a.1 0)
def Ua(a:List aL×Int):Bool:=ct a.1&&decide (a.1.length≤19)
def auI(a:List aL×Int):Bool:=ct a.1&&decide (a.1.length≤1000000)
theorem KG(core:Int):∀(r:List aL) (i:Nat),(wZ core r i).length≤r.length
 | [],i=>azJ _
 | s::r,i=>by
  have:=KG core r (i+1);simp only[wZ,azL];grind
noncomputable def O1:cX:=⟨Tryz.prog,[E6,CY],dE [],31,[RW],[],[],[]⟩
def Ai:Nat→LD:=eO [(0,⟨[.c 1 (zI),.list 5 999 69 13 aF,.rd 8 bg,.c 9 (zI),.c 10 (zI)],[],0⟩)]
noncomputable def ab1(f:Nat)(a:(List aL)×Int):Option ((List ag)):=aG O1 Ai (zK [.tmp 4] [.o 69 13 aF]) f [.code (aB Tryz.f58)] (aQ [.rd bg,.c zI] a)
noncomputable def qH(f:Nat)(x:Int×(List ag)×(List aL)×Int×Int):Option ((List ag)):=aG O1 Ai (zK [.tmp 4] [.o 69 13 aF]) f (aV Tryz.f58 0) ((Ai 0).mk' x)
theorem Ve(f:Nat)(l:List aL)(core:Int):ab1 (f+1) (l,core) =
  qH f (core,[],l,(↑l.length:Int),0):=by kernel_rfl
theorem yz(f:Nat)(core:Int)(out:List ag)(x8:List aL)(x9:Int)(dB:Int):qH (f+1) (core,out,x8,x9,dB) =
  bif decide (dB<x9)then bif decide (0≤dB)&&decide (dB<(↑x8.length:Int))then bif !cB (x8.getD dB.toNat zq2)then bif af (x8.getD dB.toNat zq2).2.2.2.1 then bif decide ((out.length+[(core,dB,(x8.getD dB.toNat zq2).1,(x8.getD dB.toNat zq2).2.1,(x8.getD dB.toNat zq2).2.2.1,(x8.getD dB.toNat zq2).2.2.2.1,(x8.getD dB.toNat zq2).2.2.2.2.1,(x8.getD dB.toNat zq2).2.2.2.2.2.1,(x8.getD dB.toNat zq2).2.2.2.2.2.2.1,(x8.getD dB.toNat zq2).2.2.2.2.2.2.2.1,(x8.getD dB.toNat zq2).2.2.2.2.2.2.2.2.1,(x8.getD dB.toNat zq2).2.2.2.2.2.2.2.2.2.1,(x8.getD dB.toNat zq2).2.2.2.2.2.2.2.2.2.2.1)].length)*120≤140737488355328)then qH f (core,out++[(core,dB,(x8.getD dB.toNat zq2).1,(x8.getD dB.toNat zq2).2.1,(x8.getD dB.toNat zq2).2.2.1,(x8.getD dB.toNat zq2).2.2.2.1,(x8.getD dB.toNat zq2).2.2.2.2.1,(x8.getD dB.toNat zq2).2.2.2.2.2.1,(x8.getD dB.toNat zq2).2.2.2.2.2.2.1,(x8.getD dB.toNat zq2).2.2.2.2.2.2.2.1,(x8.getD dB.toNat zq2).2.2.2.2.2.2.2.2.1,(x8.getD dB.toNat zq2).2.2.2.2.2.2.2.2.2.1,(x8.getD dB.toNat zq2).2.2.2.2.2.2.2.2.2.2.1)],x8,x9,i64.wrap (dB+1))else none else none else qH f (core,out,x8,x9,i64.wrap (dB+1))else none else bif WX (out,())then some (SL (out,())).2 else none:=by kernel_rfl
noncomputable def j4:List aL→(Int×(List ag)×(List aL)×Int×Nat)→(List ag)
 | [],(core,out,x8,x9,dB)=>(SL (out,())).2
 | uu::rest,(core,out,x8,x9,dB)=>bif !cB uu then j4 rest (core,out++[(core,(↑dB:Int),uu.1,uu.2.1,uu.2.2.1,uu.2.2.2.1,uu.2.2.2.2.1,uu.2.2.2.2.2.1,uu.2.2.2.2.2.2.1,uu.2.2.2.2.2.2.2.1,uu.2.2.2.2.2.2.2.2.1,uu.2.2.2.2.2.2.2.2.2.1,uu.2.2.2.2.2.2.2.2.2.2.1)],x8,x9,dB+1)else j4 rest (core,out,x8,x9,dB+1)
noncomputable def jX:List aL→(Int×(List ag)×(List aL)×Int×Nat)→Bool
 | [],(core,out,x8,x9,dB)=>WX (out,())
 | uu::rest,(core,out,x8,x9,dB)=>bif !cB uu then af uu.2.2.2.1&&(decide ((out.length+1)*120≤140737488355328)&&jX rest (core,out++[(core,(↑dB:Int),uu.1,uu.2.1,uu.2.2.1,uu.2.2.2.1,uu.2.2.2.2.1,uu.2.2.2.2.2.1,uu.2.2.2.2.2.2.1,uu.2.2.2.2.2.2.2.1,uu.2.2.2.2.2.2.2.2.1,uu.2.2.2.2.2.2.2.2.2.1,uu.2.2.2.2.2.2.2.2.2.2.1)],x8,x9,dB+1))else jX rest (core,out,x8,x9,dB+1)
theorem C3:∀(rest:List aL) (core:Int) (out:List ag) (x8:List aL) (x9:Int) (dB:Nat) (hd:x8.drop dB=rest) (hn:x9=((x8.length:Nat):Int)) (hl:x8.length≤1099511627776),de (fun f=>qH f (core,out,x8,x9,((dB:Nat):Int))) (jX rest (core,out,x8,x9,dB)) (j4 rest (core,out,x8,x9,dB))
 | [],core,out,x8,x9,dB,hd,hn,hl=>ai (fun f=>(yz f _ _ _ _ _).trans (by simp only[iZ hn (bT hd),fW,azP,azI]<;>rfl)) (cS ae)
 | uu::rest,core,out,x8,x9,dB,hd,hn,hl=>ai (fun f=>(yz f _ _ _ _ _).trans (by simp only[iW hn (ak hd),cK (ak hd),bC hd,bk (ak hd) hl,fW,azQ,azH]<;>rfl)) (ao (aI (aI (C3 rest _ _ _ _ _ (aH hd) (by grind) hl))) (C3 rest _ _ _ _ _ (aH hd) (by grind) hl))
noncomputable def Hg:((List aL)×Int)→(List ag)
 | (l,core)=>j4 l (core,[],l,(↑l.length:Int),0)
noncomputable def GW:((List aL)×Int)→Bool
 | (l,core)=>decide (l.length≤1099511627776)&&jX l (core,[],l,(↑l.length:Int),0)
theorem T9:∀a:(List aL)×Int,de (fun f=>ab1 f a) (GW a) (Hg a)
 | (l,core)=>ai (fun f=>Ve f _ _) (bL fun hh=>C3 _ _ _ _ _ _ rfl (by grind) (azZ hh))
theorem NI(core:Int)(x8:List aL)(x9:Int):∀(r:List aL) (out:List ag) (i:Nat),(∀s∈r,af s.2.2.2.1=true)→out.length+r.length≤19→j4 r (core,out,x8,x9,i)=ca cj (out++wZ core r i)∧jX r (core,out,x8,x9,i)=true
 | [],out,i,h,hl=>by
  simp only[az2]at hl;refine⟨by simp[j4,wZ,SL],?_⟩;simp only[jX];exact azC (show out.length<20 by omega)
 | s::r,out,i,h,hl=>by
  simp only[azL]at hl;have hs:=h s (az1 ..);obtain⟨i1,i2⟩:=NI core x8 x9 r out (i+1) (fun e he=>h e (az6 _ he)) (by omega);obtain⟨j1,j2⟩:=NI core x8 x9 r (out++[aiE core ((i:Nat):Int) s]) (i+1) (fun e he=>h e (az6 _ he)) (by simp;omega);simp only[j4,jX,wZ];cases cB s
  ·refine⟨j1.trans (by simp),?_⟩
   simp only[aBh,azH,hs,azP,azF,azM];exact⟨by first | omega | (simp only[azL,az2];omega),j2⟩
  grind
theorem Ex:∀a:List aL×Int,Ua a=true→GW a=true∧Hg a=jQ a:=by
 rintro⟨l,core⟩ h;obtain⟨h1,h2⟩:=aAk.1 h;have h2:l.length≤19:=azZ h2;obtain⟨i1,i2⟩:=NI core l ((l.length:Nat):Int) l [] 0 (fun s hs=>gk h1 hs) (by grind);simp only[GW,Hg,i1,i2,aAt];exact⟨azC (by omega),rfl⟩
theorem amH:∀a,Ua a=true→GW a=true:=fun a h=>(Ex a h).1
theorem amI:∀a,Ua a=true→Hg a=jQ a:=fun a h=>(Ex a h).2
noncomputable def ant:dn:=⟨58,[.rd bg,.c zI],[.o 69 13 aF],Ua,jQ⟩
theorem VL:zO ant:=fl O1 Ai [.tmp 4] mixed (gu ac8 (ah wh (ah xA (aC)))) Tryz.func58 (bp T9 amH amI)
noncomputable def aqx:cX:=zC [Hp,Hq,R7,R7,ni] (dE [(7,([(0,[]),(1,[]),(2,[]),(3,[]),(4,[]),(5,[]),(6,[]),(7,[]),(8,[]),(9,[]),(10,[]),(11,[]),(12,[]),(13,[]),(14,[]),(15,[]),(16,[]),(17,[])],[(22,39)])),(9,([(0,[]),(1,[]),(2,[]),(4,[]),(5,[]),(6,[]),(7,[]),(8,[]),(9,[]),(10,[]),(3,[]),(11,[]),(12,[]),(13,[]),(14,[]),(15,[])],[(8,8),(42,56)]))]) 64
def aiu:Nat→LD:=eO [(0,⟨[.rd 0 bg,.c 1 (zI),.c 5 (.sl aF),.c 6 (zI)],[],0⟩),(2,⟨[.rd 0 bg,.c 1 (zI),.c 5 (.sl aF),.c 6 (zI),.c 7 (zI)],[],0⟩)]
noncomputable def avb(f:Nat)(a:(List aL)×Int):Option ((List ag)):=aG aqx aiu (zK [.tmp 4] [.v (.sl aF)]) f [.code (aB Tryz.f110)] (aQ [.rd bg,.c zI] a)
noncomputable def aeE(f:Nat)(x:(List aL)×Int×(List ag)×Int):Option ((List ag)):=aG aqx aiu (zK [.tmp 4] [.v (.sl aF)]) f (aV Tryz.f110 0) ((aiu 0).mk' x)
noncomputable def alI(f:Nat)(x:(List aL)×Int×(List ag)×Int×Int):Option ((List ag)):=aG aqx aiu (zK [.tmp 4] [.v (.sl aF)]) f (aV Tryz.f110 2) ((aiu 2).mk' x)
theorem as4(f:Nat)(l:List aL)(core:Int):avb (f+1) (l,core) =
  aeE f (l,core,[],0):=by kernel_rfl
theorem ahW(f:Nat)(l:List aL)(core:Int)(out:List ag)(i:Int):aeE (f+1) (l,core,out,i) =
  bif decide (i<(↑l.length:Int))then bif decide (0≤i)&&decide (i<(↑l.length:Int))then bif cB (l.getD i.toNat zq2)then aeE f (l,core,out,i64.wrap (i+1))else alI f (l,core,out,i,(↑out.length:Int))else none else some out:=by kernel_rfl
theorem ahV(f:Nat)(l:List aL)(core:Int)(out:List ag)(i:Int)(k:Int):alI (f+1) (l,core,out,i,k) =
  bif decide (k>0)then bif decide (0≤i)&&decide (i<(↑l.length:Int))then bif decide (0≤i64.wrap (k-1))&&decide (i64.wrap (k-1)<(↑out.length:Int))then bif cw (((l.getD i.toNat zq2).1,(l.getD i.toNat zq2).2.1,(l.getD i.toNat zq2).2.2.1),(out.getD (i64.wrap (k-1)).toNat zq1).2.2.1,(out.getD (i64.wrap (k-1)).toNat zq1).2.2.2.1,(out.getD (i64.wrap (k-1)).toNat zq1).2.2.2.2.1)then alI f (l,core,out,i,i64.wrap (k-1))else bif decide (0≤k)&&decide (k≤(↑out.length:Int))then bif decide (0≤i)&&decide (i<(↑l.length:Int))then bif wL (List.take k.toNat out)then bif af (l.getD i.toNat zq2).2.2.2.1 then bif decide (((List.take k.toNat out).length+[(core,i,(l.getD i.toNat zq2).1,(l.getD i.toNat zq2).2.1,(l.getD i.toNat zq2).2.2.1,(l.getD i.toNat zq2).2.2.2.1,(l.getD i.toNat zq2).2.2.2.2.1,(l.getD i.toNat zq2).2.2.2.2.2.1,(l.getD i.toNat zq2).2.2.2.2.2.2.1,(l.getD i.toNat zq2).2.2.2.2.2.2.2.1,(l.getD i.toNat zq2).2.2.2.2.2.2.2.2.1,(l.getD i.toNat zq2).2.2.2.2.2.2.2.2.2.1,(l.getD i.toNat zq2).2.2.2.2.2.2.2.2.2.2.1)].length)*120≤140737488355328)then bif decide (0≤k)&&decide (k≤(↑out.length:Int))then bif decide (((List.take k.toNat out++[(core,i,(l.getD i.toNat zq2).1,(l.getD i.toNat zq2).2.1,(l.getD i.toNat zq2).2.2.1,(l.getD i.toNat zq2).2.2.2.1,(l.getD i.toNat zq2).2.2.2.2.1,(l.getD i.toNat zq2).2.2.2.2.2.1,(l.getD i.toNat zq2).2.2.2.2.2.2.1,(l.getD i.toNat zq2).2.2.2.2.2.2.2.1,(l.getD i.toNat zq2).2.2.2.2.2.2.2.2.1,(l.getD i.toNat zq2).2.2.2.2.2.2.2.2.2.1,(l.getD i.toNat zq2).2.2.2.2.2.2.2.2.2.2.1)]).length+(List.drop k.toNat out).length)*120≤140737488355328)then aeE f (l,core,List.take k.toNat out++[(core,i,(l.getD i.toNat zq2).1,(l.getD i.toNat zq2).2.1,(l.getD i.toNat zq2).2.2.1,(l.getD i.toNat zq2).2.2.2.1,(l.getD i.toNat zq2).2.2.2.2.1,(l.getD i.toNat zq2).2.2.2.2.2.1,(l.getD i.toNat zq2).2.2.2.2.2.2.1,(l.getD i.toNat zq2).2.2.2.2.2.2.2.1,(l.getD i.toNat zq2).2.2.2.2.2.2.2.2.1,(l.getD i.toNat zq2).2.2.2.2.2.2.2.2.2.1,(l.getD i.toNat zq2).2.2.2.2.2.2.2.2.2.2.1)]++List.drop k.toNat out,i64.wrap (i+1))else none else none else none else none else none else none else none else none else none else bif decide (0≤k)&&decide (k≤(↑out.length:Int))then bif decide (0≤i)&&decide (i<(↑l.length:Int))then bif wL (List.take k.toNat out)then bif af (l.getD i.toNat zq2).2.2.2.1 then bif decide (((List.take k.toNat out).length+[(core,i,(l.getD i.toNat zq2).1,(l.getD i.toNat zq2).2.1,(l.getD i.toNat zq2).2.2.1,(l.getD i.toNat zq2).2.2.2.1,(l.getD i.toNat zq2).2.2.2.2.1,(l.getD i.toNat zq2).2.2.2.2.2.1,(l.getD i.toNat zq2).2.2.2.2.2.2.1,(l.getD i.toNat zq2).2.2.2.2.2.2.2.1,(l.getD i.toNat zq2).2.2.2.2.2.2.2.2.1,(l.getD i.toNat zq2).2.2.2.2.2.2.2.2.2.1,(l.getD i.toNat zq2).2.2.2.2.2.2.2.2.2.2.1)].length)*120≤140737488355328)then bif decide (0≤k)&&decide (k≤(↑out.length:Int))then bif decide (((List.take k.toNat out++[(core,i,(l.getD i.toNat zq2).1,(l.getD i.toNat zq2).2.1,(l.getD i.toNat zq2).2.2.1,(l.getD i.toNat zq2).2.2.2.1,(l.getD i.toNat zq2).2.2.2.2.1,(l.getD i.toNat zq2).2.2.2.2.2.1,(l.getD i.toNat zq2).2.2.2.2.2.2.1,(l.getD i.toNat zq2).2.2.2.2.2.2.2.1,(l.getD i.toNat zq2).2.2.2.2.2.2.2.2.1,(l.getD i.toNat zq2).2.2.2.2.2.2.2.2.2.1,(l.getD i.toNat zq2).2.2.2.2.2.2.2.2.2.2.1)]).length+(List.drop k.toNat out).length)*120≤140737488355328)then aeE f (l,core,List.take k.toNat out++[(core,i,(l.getD i.toNat zq2).1,(l.getD i.toNat zq2).2.1,(l.getD i.toNat zq2).2.2.1,(l.getD i.toNat zq2).2.2.2.1,(l.getD i.toNat zq2).2.2.2.2.1,(l.getD i.toNat zq2).2.2.2.2.2.1,(l.getD i.toNat zq2).2.2.2.2.2.2.1,(l.getD i.toNat zq2).2.2.2.2.2.2.2.1,(l.getD i.toNat zq2).2.2.2.2.2.2.2.2.1,(l.getD i.toNat zq2).2.2.2.2.2.2.2.2.2.1,(l.getD i.toNat zq2).2.2.2.2.2.2.2.2.2.2.1)]++List.drop k.toNat out,i64.wrap (i+1))else none else none else none else none else none else none else none:=by kernel_rfl
theorem aqI(a b:ag):cw ((a.2.2.1,a.2.2.2.1,a.2.2.2.2.1),b.2.2.1,b.2.2.2.1,b.2.2.2.2.1)=cj a b:=by
 rw[aBM,wO,P0];exact Iff.rfl
theorem axZ{l p q:List aL}{s:aL}{core:Int}{R:List ag}(hl:l=p++s::q)(hp:p.length≤1000000)(hs:af s.2.2.2.1=true):∀(n:Nat) (a b:List ag),a.length=n→dD cj (a++b)→(∀z∈b,cj (aiE core ((p.length:Nat):Int) s) z=true)→a.length+b.length≤1000000→wL (a++b)=true→
  (∃f,aeE f (l,core,cA cj (aiE core ((p.length:Nat):Int) s) (a++b),((p.length+1:Nat):Int))=some R)→∃f,alI f (l,core,a++b,((p.length:Nat):Int),((a.length:Nat):Int))=some R:=by
 subst hl;intro n;have w1:i64.wrap (((p.length:Nat):Int)+1)=((p.length+1:Nat):Int):=by grind[az]
 induction n with
 | zero=>
  intro a b hn hsr hb hlen aO ⟨f,hf⟩;obtain rfl:=aAf hn;refine⟨f+1,(ahV f _ _ _ _ _).trans ?_⟩;have e1:cA cj (aiE core ((p.length:Nat):Int) s) ([]++b)=[]++[aiE core ((p.length:Nat):Int) s]++b:=by
   cases b with
   | nil=>rfl
   | cons z b=>simp only[aAs,cA,hb z (az1 ..),azH];rfl
  rw[e1]at hf;rw[show((([]:List ag).length:Nat):Int)=0 from rfl,show decide ((0:Int)>0)=false from rfl,azI,M9,ZH,fW,w1];simp only[show(0:Int).toNat=0 from rfl,aBb,List.drop_zero,aAs,hs];have d0:decide ((0:Int)≤0)=true:=rfl;have d1:decide ((0:Int)≤((b.length:Nat):Int))=true:=fW _;have d2:wL []=true:=rfl;simp only[d0,d2,azQ,azH];have d3:∀x:ag,decide ((([]:List ag).length+[x].length)*120≤140737488355328)=true:=fun x=>azC (by simp)
  have d4:∀x:ag,decide (([x].length+b.length)*120≤140737488355328)=true:=fun x=>azC (by grind)
  simp only[d3,d4,azH];exact hf
 | succ n ih=>
  intro a b hn hsr hb hlen aO hR;obtain⟨a,z,rfl⟩:∃a' z,a=a'++[z]:=⟨a.dropLast,a.getLast (by grind),(aBV _).symm⟩;have han:a.length=n:=by grind
  simp only[azG,azL,az2]at hlen;have wk:i64.wrap ((((a++[z]).length:Nat):Int)-1)=((a.length:Nat):Int):=by
   rw[az (by simp) (by grind)];grind
  have gz:(a++[z]++b).getD ((a.length:Nat):Int).toNat zq1=z:=by
   simp_all
  have hk:decide ((((a++[z]).length:Nat):Int)>0)=true:=azC (by grind);have Dv:decide (((a.length:Nat):Int)<(((a++[z]++b).length:Nat):Int))=true:=azC (by grind);have hle:=aqI (aiE core ((p.length:Nat):Int) s) z;cases hc:cj (aiE core ((p.length:Nat):Int) s) z
  ·obtain⟨f,hf⟩:=hR
   refine⟨f+1,(ahV f _ _ _ _ _).trans ?_⟩;have Kj:∀y∈a++[z],cj (aiE core ((p.length:Nat):Int) s) y=false:=fun y hy=>by
    have hsa:=(aAI.1 hsr).1;rcases aAp.1 hy with hy | hy
    ·exact gE.ntrans y z _ ((aAI.1 hsa).2.2 y hy z (aAD.2 rfl)) hc
    grind
   have e1:cA cj (aiE core ((p.length:Nat):Int) s) (a++[z]++b)=a++[z]++[aiE core ((p.length:Nat):Int) s]++b:=by
    cases b with
    | nil=>rw[aAc,gL gE Kj,aAc]
    | cons y b=>
     have hsb:dD cj (a++[z]++[y]):=hsr.sublist (aCo (by simp) _);rw[mu gE (s:=a++[z]) hsb (hb y (az1 ..)),gL gE Kj]
   rw[e1]at hf;rw[hc]at hle;have hle:cw ((s.1,s.2.1,s.2.2.1),z.2.2.1,z.2.2.2.1,z.2.2.2.2.1)=false:=hle;rw[hk,azH,M9,ZH,fW,fW,wk,Dv,gz,hle,w1,fW];have d1:decide ((((a++[z]).length:Nat):Int)≤(((a++[z]++b).length:Nat):Int))=true:=azC (by grind);have d2:wL (a++[z])=true:=FM (by grind) fun e he=>zj aO (aBd _ he)
   have d3:∀x:ag,decide (((a++[z]).length+[x].length)*120≤140737488355328)=true:=fun x=>azC (by grind)
   have d4:∀x:ag,decide (((a++[z]++[x]).length+b.length)*120≤140737488355328)=true:=fun x=>azC (by grind)
   have t1:List.take ((((a++[z]).length:Nat):Int)).toNat (a++[z]++b)=a++[z]:=by grind
   have t2:List.drop ((((a++[z]).length:Nat):Int)).toNat (a++[z]++b)=b:=by grind
   simp only[t1,t2,d1,d2,d3,d4,hs,azQ,azH,azI];exact hf
  ·obtain⟨f,hf⟩:=ih a (z::b) han (by simpa using hsr) (fun y hy=>by
    grind) (by grind) (by grind) (by grind)
   refine⟨f+1,(ahV f _ _ _ _ _).trans ?_⟩;rw[hc]at hle;have hle:cw ((s.1,s.2.1,s.2.2.1),z.2.2.1,z.2.2.2.1,z.2.2.2.2.1)=true:=hle;rw[hk,azH,M9,ZH,fW,fW,wk,Dv,gz,hle];grind
theorem asK{core i:Int}{s:aL}(h:af s.2.2.2.1=true):af (aiE core i s).2.2.2.2.2.1=true:=h
theorem arE{core:Int}:∀(r p:List aL) (out:List ag),(∀s∈r,af s.2.2.2.1=true)→p.length+r.length≤1000000→out.length≤p.length→dD cj out→wL out=true→
  ∃f,aeE f (p++r,core,out,((p.length:Nat):Int))=some ((wZ core r p.length).foldl (fun s x=>cA cj x s) out)
 | [],p,out,h,hl,ho,hs,aO=>⟨1,(ahW 0 _ _ _ _).trans (by rw[alp];rfl)⟩
 | s::r,p,out,h,hl,ho,hs,aO=>by
  simp only[azL]at hl;have e1:i64.wrap (((p.length:Nat):Int)+1)=((p.length+1:Nat):Int):=by grind[az]
  have el:(p++[s]).length=p.length+1:=by simp
  have h1:=h s (az1 ..);cases he:cB s
  ·have hi:=oJ (lt:=cj) (aiE core ((p.length:Nat):Int) s) out
   obtain⟨f,hf⟩:=arE (core:=core) r (p++[s]) (cA cj (aiE core ((p.length:Nat):Int) s) out) (fun e he=>h e (az6 _ he)) (by rw[el];omega) (by rw[el,hi];omega) (kP gE hs) (FM (by rw[hi];omega) fun e he=>by
    rcases Bn.1 he with rfl | he
    all_goals grind[asK,zj])
   rw[el,aAB,aCf]at hf;obtain⟨g,hg⟩:=axZ (core:=core) (R:=(wZ core r (p.length+1)).foldl (fun s x=>cA cj x s) (cA cj (aiE core ((p.length:Nat):Int) s) out)) (p:=p) (q:=r) (s:=s) rfl (by omega) h1 out.length out [] rfl (by grind) (fun z hz=>by cases hz) (by grind) (by grind) ⟨f,by rw[aAc];exact hf⟩;refine⟨g+1,(ahW g _ _ _ _).trans ?_⟩;rw[M9,ZH,fW,he];simp only[azQ,azH,azI,wZ,he,aAN];grind
  ·obtain⟨f,hf⟩:=arE (core:=core) r (p++[s]) out (fun e he=>h e (az6 _ he)) (by grind) (by grind) hs aO
   rw[el,aAB,aCf]at hf;refine⟨f+1,(ahW f _ _ _ _).trans ?_⟩;rw[M9,ZH,fW,he,e1];simp only[azQ,azH,wZ,he];exact hf
theorem auh:∀a,auI a=true→∃f,avb f a=some (jQ a):=by
 rintro⟨l,core⟩ h;obtain⟨h1,h2⟩:=aAk.1 h;have h2:l.length≤1000000:=azZ h2;obtain⟨f,hf⟩:=arE (core:=core) l [] [] (fun s hs=>gk h1 hs) (by grind) (azJ _) .nil rfl;exact⟨f+1,(as4 f _ _).trans hf⟩
noncomputable def avK:dn:=⟨110,[.rd bg,.c zI],[.v (.sl aF)],auI,jQ⟩
theorem atD:zO avK:=fl aqx aiu [.tmp 4] mixed (ah E3 (ah E5 (ah ON (ah ON (ah gR (aC)))))) Tryz.func110 auh
noncomputable def ar5:cX:=zC [Hm] (dE [(6,([(0,[]),(1,[]),(2,[]),(3,[]),(4,[]),(5,[]),(6,[]),(7,[]),(8,[]),(9,[]),(10,[]),(11,[]),(12,[]),(13,[]),(14,[]),(15,[]),(16,[]),(17,[]),(18,[]),(19,[]),(20,[]),(21,[]),(22,[]),(23,[]),(24,[]),(25,[]),(26,[]),(27,[]),(28,[]),(29,[]),(30,[]),(31,[]),(32,[]),(33,[]),(34,[]),(35,[]),(36,[]),(37,[])],[(17,54)]))]) 55
theorem awM:jh Tryz.prog [Hm] [] []:=ah OC (aC)
def anG:Nat→LD:=eO [(0,⟨[.rd 0 aF,.rd 1 aF,.c 5 (zI)],[],0⟩)]
noncomputable def au8(f:Nat)(a:(List ag)×(List ag)):Option Bool:=aG ar5 anG (zK [.tmp 4] [.v .bool]) f [.code (aB Tryz.f30)] (aQ [.rd aF,.rd aF] a)
noncomputable def alG(f:Nat)(x:(List ag)×(List ag)×Int):Option Bool:=aG ar5 anG (zK [.tmp 4] [.v .bool]) f (aV Tryz.f30 0) ((anG 0).mk' x)
theorem asY(f:Nat)(a:List ag)(b:List ag):au8 (f+1) (a,b) =
  bif(↑a.length:Int) != (↑b.length:Int)then some false else alG f (a,b,0):=by kernel_rfl
theorem amj(f:Nat)(a:List ag)(b:List ag)(i:Int):alG (f+1) (a,b,i) =
  bif decide (i<(↑a.length:Int))then bif decide (0≤i)&&decide (i<(↑a.length:Int))then bif decide (0≤i)&&decide (i<(↑b.length:Int))then bif(a.getD i.toNat zq1).1 != (b.getD i.toNat zq1).1 then some false else bif decide (0≤i)&&decide (i<(↑a.length:Int))then bif decide (0≤i)&&decide (i<(↑b.length:Int))then bif(a.getD i.toNat zq1).2.1 != (b.getD i.toNat zq1).2.1 then some false else bif decide (0≤i)&&decide (i<(↑a.length:Int))then bif decide (0≤i)&&decide (i<(↑b.length:Int))then bif af (a.getD i.toNat zq1).2.2.2.2.2.1 then bif !decide ((a.getD i.toNat zq1).2.2=(b.getD i.toNat zq1).2.2)then some false else alG f (a,b,i64.wrap (i+1))else none else none else none else none else none else none else none else some true:=by kernel_rfl
noncomputable def aik:List ag→((List ag)×(List ag)×Nat)→Bool
 | [],(a,b,i)=>true
 | uu::rest,(a,b,i)=>bif uu.1 != (b.getD (↑i:Int).toNat zq1).1 then false else bif uu.2.1 != (b.getD (↑i:Int).toNat zq1).2.1 then false else bif !decide (uu.2.2=(b.getD (↑i:Int).toNat zq1).2.2)then false else aik rest (a,b,i+1)
noncomputable def ahH:List ag→((List ag)×(List ag)×Nat)→Bool
 | [],(a,b,i)=>true
 | uu::rest,(a,b,i)=>decide ((↑i:Int)<(↑b.length:Int))&&bif uu.1 != (b.getD (↑i:Int).toNat zq1).1 then true else decide ((↑i:Int)<(↑b.length:Int))&&bif uu.2.1 != (b.getD (↑i:Int).toNat zq1).2.1 then true else decide ((↑i:Int)<(↑b.length:Int))&&(af uu.2.2.2.2.2.1&&bif !decide (uu.2.2=(b.getD (↑i:Int).toNat zq1).2.2)then true else ahH rest (a,b,i+1))
theorem arl:∀(rest:List ag) (a:List ag) (b:List ag) (i:Nat) (hd:a.drop i=rest) (hl:a.length≤1099511627776),de (fun f=>alG f (a,b,((i:Nat):Int))) (ahH rest (a,b,i)) (aik rest (a,b,i))
 | [],a,b,i,hd,hl=>ai (fun f=>(amj f _ _ _).trans (by simp only[fA (bT hd),fW,azP,azI]<;>rfl)) ae
 | uu::rest,a,b,i,hd,hl=>ai (fun f=>(amj f _ _ _).trans (by simp only[cK (ak hd),bC hd,bk (ak hd) hl,fW,azQ,azP,azH]<;>rfl)) (aI (ao ae (aI (ao ae (aI (aI (ao ae (arl rest _ _ _ (aH hd) hl))))))))
noncomputable def an0:((List ag)×(List ag))→Bool
 | (a,b)=>bif(↑a.length:Int) != (↑b.length:Int)then false else aik a (a,b,0)
noncomputable def anV:((List ag)×(List ag))→Bool
 | (a,b)=>bif(↑a.length:Int) != (↑b.length:Int)then true else decide (a.length≤1099511627776)&&ahH a (a,b,0)
theorem aso:∀a:(List ag)×(List ag),de (fun f=>au8 f a) (anV a) (an0 a)
 | (a,b)=>ai (fun f=>asY f _ _) (ao ae (bL fun hh=>arl _ _ _ _ rfl (azZ hh)))
theorem aue(a b:List ag)(hab:a.length=b.length):∀(r q p:List ag),b=p++q→r.length=q.length→(∀e∈r,af e.2.2.2.2.2.1=true)→aik r (a,b,p.length)=decide (r=q)∧ahH r (a,b,p.length)=true
 | [],[],p,hb,h,ho=>⟨rfl,rfl⟩
 | [],u::q,p,hb,h,ho=>by simp at h
 | u::r,[],p,hb,h,ho=>by simp at h
 | u::r,v::q,p,hb,h,ho=>by
  simp only[azL]at h;obtain⟨i1,i2⟩:=aue a b hab r q (p++[v]) (by grind) (by omega) (fun e he=>ho e (az6 _ he));rw[show(p++[v]).length=p.length+1 by simp]at i1 i2;have hu:=ho u (az1 ..);have hg:b.getD (((p.length:Nat):Int)).toNat zq1=v:=by grind[ZH]
  have bO:decide (((p.length:Nat):Int)<((b.length:Nat):Int))=true:=by grind
  simp only[aik,ahH,hg,bO,hu,i1,i2,azP];grind
theorem apq:∀a:List ag×List ag,(fun a:List ag×List ag=>wL a.1) a=true→anV a=true∧an0 a=(fun a:List ag×List ag=>decide (a.1=a.2)) a:=by
 rintro⟨a,b⟩ h;have h:wL a=true:=h;by_cases hl:a.length=b.length
 ·obtain⟨i1,i2⟩:=aue a b hl a b [] rfl hl (fun e he=>zj h he)
  have e:(((a.length:Nat):Int) != ((b.length:Nat):Int))=false:=by grind
  simp only[az2]at i1 i2;simp only[anV,an0,e,i1,i2,azI,aAt];exact⟨azC (ki h),trivial⟩
 ·have e:(((a.length:Nat):Int) != ((b.length:Nat):Int))=true:=by
   grind
  simp only[anV,an0,e,azH];grind
theorem axT:∀a,(fun a:List ag×List ag=>wL a.1) a=true→anV a=true:=fun a h=>(apq a h).1
theorem axU:∀a,(fun a:List ag×List ag=>wL a.1) a=true→an0 a=(fun a:List ag×List ag=>decide (a.1=a.2)) a:=fun a h=>(apq a h).2
abbrev aud:=bp aso axT axU
noncomputable def avG:dn:=⟨30,[.rd aF,.rd aF],[.v .bool],fun a:(List ag)×(List ag)=>wL a.1,fun a:(List ag)×(List ag)=>decide (a.1=a.2)⟩
theorem atx:avG.Ok Tryz.prog:=fun a hp vs hv=>(aud a hp).elim fun f h=>iI (C:=ar5) (Lt:=anG) (fn:=Tryz.f30) (rs:=[.tmp 4]) [.rd aF,.rd aF] [.v .bool] mixed awM Tryz.func30 rfl rfl rfl (by kernel_rfl) (by kernel_rfl) f h vs hv
