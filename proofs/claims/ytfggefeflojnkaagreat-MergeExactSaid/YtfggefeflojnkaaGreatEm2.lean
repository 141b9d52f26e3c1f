/- AI. -/
import Derived.Test.YtfggefeflojnkaaGreatEm1
set_option linter.unusedVariables false
open Go.IntKind (i64 u64)
namespace Go.AL
open Go.Proofs
noncomputable def bj(p0:(List ag)×Int×Int×Int×Unit→Bool):dW:=⟨132,false,false,69,13,aF,[.c zI,.c zI,.c zI,.fn 62 []],[],fun l l2 a=>(p0:(List ag)×Int×Int×Int×Unit→Bool) (l,a.1,a.2.1,a.2.2.1,a.2.2.2),fun l l2 a=>(Dn:(List ag)×Int×Int×Int×Unit→Unit×(List ag)) (l,a.1,a.2.1,a.2.2.1,a.2.2.2)⟩
noncomputable def tI(p0:(List ag)×Int×Int×Int×Unit→Bool):cX:=⟨Tryz.prog,[al5],dE [(5,([(0,[]),(1,[]),(2,[]),(3,[]),(4,[]),(5,[]),(6,[]),(7,[]),(8,[]),(9,[]),(10,[])],[(40,50)])),(11,([(0,[]),(1,[]),(2,[]),(3,[]),(4,[]),(5,[]),(6,[]),(7,[]),(8,[]),(9,[]),(10,[]),(11,[]),(12,[]),(13,[]),(14,[]),(15,[]),(16,[]),(17,[])],[(61,76)])),(17,([(0,[]),(1,[]),(2,[]),(3,[]),(4,[]),(5,[]),(6,[]),(7,[]),(8,[]),(9,[]),(10,[]),(11,[])],[(92,103)])),(23,([(0,[]),(1,[]),(2,[]),(3,[]),(4,[]),(5,[]),(6,[]),(7,[]),(8,[]),(9,[]),(10,[]),(11,[]),(12,[]),(13,[]),(14,[]),(15,[]),(16,[]),(17,[])],[(113,128)])),(35,([(0,[]),(1,[]),(2,[]),(3,[]),(4,[]),(5,[]),(6,[]),(7,[]),(8,[]),(9,[]),(10,[]),(11,[]),(12,[]),(13,[])],[(158,171)]))],220,[R5,bj p0],[],[],[]⟩
theorem agU{p0:(List ag)×Int×Int×Int×Unit→Bool}(h0:(bj p0).Ok Tryz.prog):jh Tryz.prog [al5] [R5,bj p0] []:=gu adg (ah wj ((gu h0 aC)))
def fK:Nat→LD:=sY 1 [(0,⟨[.list 0 500 69 13 aF,.c 1 (zI),.fn 4 62 [],.c 10 (zI),.c 11 (zI)],[],1⟩),(2,⟨[.list 0 500 69 13 aF,.c 10 (zI),.c 13 (zI)],[],1⟩),(4,⟨[.list 0 500 69 13 aF,.c 2 (zI),.fn 4 62 [],.c 14 (zI),.c 15 (zI)],[],1⟩),(6,⟨[.list 0 500 69 13 aF,.c 14 (zI),.c 17 (zI)],[],1⟩),(8,⟨[.list 0 500 69 13 aF,.c 1 (zI),.c 2 (zI),.c 3 (zI),.fn 4 62 [],.c 18 (zI),.c 19 (zI),.c 20 (zI),.c 21 (zI),.c 22 (zI)],[],1⟩)]
noncomputable def abg(p0:(List ag)×Int×Int×Int×Unit→Bool)(f:Nat)(a:(List ag)×Int×Int×Int×Unit):Option (Unit×(List ag)):=aG (tI p0) fK (cO Tryz.prog 69 13 aF [] []) f [.code (aB Tryz.f132)] (dR false 69 13 aF [.c zI,.c zI,.c zI,.fn 62 []] a.1 [] (a.2.1,a.2.2.1,a.2.2.2.1,a.2.2.2.2))
noncomputable def qA(p0:(List ag)×Int×Int×Int×Unit→Bool)(f:Nat)(x:(List ag)×Int×Unit×Int×Int):Option (Unit×(List ag)):=aG (tI p0) fK (cO Tryz.prog 69 13 aF [] []) f (aV Tryz.f132 0) ((fK 0).mk' x)
noncomputable def vI(p0:(List ag)×Int×Int×Int×Unit→Bool)(f:Nat)(x:(List ag)×Int×Int):Option (Unit×(List ag)):=aG (tI p0) fK (cO Tryz.prog 69 13 aF [] []) f (aV Tryz.f132 2) ((fK 2).mk' x)
noncomputable def qy(p0:(List ag)×Int×Int×Int×Unit→Bool)(f:Nat)(x:(List ag)×Int×Unit×Int×Int):Option (Unit×(List ag)):=aG (tI p0) fK (cO Tryz.prog 69 13 aF [] []) f (aV Tryz.f132 4) ((fK 4).mk' x)
noncomputable def vH(p0:(List ag)×Int×Int×Int×Unit→Bool)(f:Nat)(x:(List ag)×Int×Int):Option (Unit×(List ag)):=aG (tI p0) fK (cO Tryz.prog 69 13 aF [] []) f (aV Tryz.f132 6) ((fK 6).mk' x)
noncomputable def iB(p0:(List ag)×Int×Int×Int×Unit→Bool)(f:Nat)(x:(List ag)×Int×Int×Int×Unit×Int×Int×Int×Int×Int):Option (Unit×(List ag)):=aG (tI p0) fK (cO Tryz.prog 69 13 aF [] []) f (aV Tryz.f132 8) ((fK 8).mk' x)
theorem rB(p0:(List ag)×Int×Int×Int×Unit→Bool)(f:Nat)(data:List ag)(a m b:Int)(cmp:Unit):abg p0 (f+1) (data,a,m,b,cmp) =
  bif i64.wrap (m-a) == 1 then qA p0 f (data,a,(),m,b)else bif i64.wrap (b-m) == 1 then qy p0 f (data,m,(),a,m)else bif decide (m>i64.wrap ((u64.wrap (i64.wrap (a+b))).fdiv (2 ^ min (Int.toNat 1) u64.bits)))then iB p0 f (data,a,m,b,(),i64.wrap ((u64.wrap (i64.wrap (a+b))).fdiv (2 ^ min (Int.toNat 1) u64.bits)),i64.wrap (i64.wrap ((u64.wrap (i64.wrap (a+b))).fdiv (2 ^ min (Int.toNat 1) u64.bits))+m),i64.wrap (i64.wrap (i64.wrap ((u64.wrap (i64.wrap (a+b))).fdiv (2 ^ min (Int.toNat 1) u64.bits))+m)-b),i64.wrap ((u64.wrap (i64.wrap (a+b))).fdiv (2 ^ min (Int.toNat 1) u64.bits)),i64.wrap (i64.wrap (i64.wrap ((u64.wrap (i64.wrap (a+b))).fdiv (2 ^ min (Int.toNat 1) u64.bits))+m)-1))else iB p0 f (data,a,m,b,(),i64.wrap ((u64.wrap (i64.wrap (a+b))).fdiv (2 ^ min (Int.toNat 1) u64.bits)),i64.wrap (i64.wrap ((u64.wrap (i64.wrap (a+b))).fdiv (2 ^ min (Int.toNat 1) u64.bits))+m),a,m,i64.wrap (i64.wrap (i64.wrap ((u64.wrap (i64.wrap (a+b))).fdiv (2 ^ min (Int.toNat 1) u64.bits))+m)-1)):=by kernel_rfl
theorem qz(p0:(List ag)×Int×Int×Int×Unit→Bool)(f:Nat)(data:List ag)(a:Int)(cmp:Unit)(i j:Int):qA p0 (f+1) (data,a,cmp,i,j) =
  bif decide (i<j)then bif decide (0≤i64.wrap ((u64.wrap (i64.wrap (i+j))).fdiv (2 ^ min (Int.toNat 1) u64.bits)))&&decide (i64.wrap ((u64.wrap (i64.wrap (i+j))).fdiv (2 ^ min (Int.toNat 1) u64.bits))<(↑data.length:Int))then bif decide (0≤a)&&decide (a<(↑data.length:Int))then bif decide (fI (data.getD (i64.wrap ((u64.wrap (i64.wrap (i+j))).fdiv (2 ^ min (Int.toNat 1) u64.bits))).toNat zq1,data.getD a.toNat zq1)<0)then qA p0 f (data,a,(),i64.wrap (i64.wrap ((u64.wrap (i64.wrap (i+j))).fdiv (2 ^ min (Int.toNat 1) u64.bits))+1),j)else qA p0 f (data,a,(),i,i64.wrap ((u64.wrap (i64.wrap (i+j))).fdiv (2 ^ min (Int.toNat 1) u64.bits)))else none else none else vI p0 f (data,i,a):=by kernel_rfl
theorem yh(p0:(List ag)×Int×Int×Int×Unit→Bool)(f:Nat)(data:List ag)(i k:Int):vI p0 (f+1) (data,i,k) =
  bif decide (k<i64.wrap (i-1))then bif decide (0≤i64.wrap (k+1))&&decide (i64.wrap (k+1)<(↑data.length:Int))then bif decide (0≤k)&&decide (k<(↑data.length:Int))then bif decide (0≤k)&&decide (k<(↑data.length:Int))then bif decide (0≤i64.wrap (k+1))&&decide (i64.wrap (k+1)<(↑(data.set k.toNat (data.getD (i64.wrap (k+1)).toNat zq1)).length:Int))then vI p0 f ((data.set k.toNat (data.getD (i64.wrap (k+1)).toNat zq1)).set (i64.wrap (k+1)).toNat (data.getD k.toNat zq1),i,i64.wrap (k+1))else none else none else none else none else some ((),data):=by kernel_rfl
theorem qx(p0:(List ag)×Int×Int×Int×Unit→Bool)(f:Nat)(data:List ag)(m:Int)(cmp:Unit)(i j:Int):qy p0 (f+1) (data,m,cmp,i,j) =
  bif decide (i<j)then bif decide (0≤m)&&decide (m<(↑data.length:Int))then bif decide (0≤i64.wrap ((u64.wrap (i64.wrap (i+j))).fdiv (2 ^ min (Int.toNat 1) u64.bits)))&&decide (i64.wrap ((u64.wrap (i64.wrap (i+j))).fdiv (2 ^ min (Int.toNat 1) u64.bits))<(↑data.length:Int))then bif !decide (fI (data.getD m.toNat zq1,data.getD (i64.wrap ((u64.wrap (i64.wrap (i+j))).fdiv (2 ^ min (Int.toNat 1) u64.bits))).toNat zq1)<0)then qy p0 f (data,m,(),i64.wrap (i64.wrap ((u64.wrap (i64.wrap (i+j))).fdiv (2 ^ min (Int.toNat 1) u64.bits))+1),j)else qy p0 f (data,m,(),i,i64.wrap ((u64.wrap (i64.wrap (i+j))).fdiv (2 ^ min (Int.toNat 1) u64.bits)))else none else none else vH p0 f (data,i,m):=by kernel_rfl
theorem yg(p0:(List ag)×Int×Int×Int×Unit→Bool)(f:Nat)(data:List ag)(i k:Int):vH p0 (f+1) (data,i,k) =
  bif decide (k>i)then bif decide (0≤i64.wrap (k-1))&&decide (i64.wrap (k-1)<(↑data.length:Int))then bif decide (0≤k)&&decide (k<(↑data.length:Int))then bif decide (0≤k)&&decide (k<(↑data.length:Int))then bif decide (0≤i64.wrap (k-1))&&decide (i64.wrap (k-1)<(↑(data.set k.toNat (data.getD (i64.wrap (k-1)).toNat zq1)).length:Int))then vH p0 f ((data.set k.toNat (data.getD (i64.wrap (k-1)).toNat zq1)).set (i64.wrap (k-1)).toNat (data.getD k.toNat zq1),i,i64.wrap (k-1))else none else none else none else none else some ((),data):=by kernel_rfl
theorem qw(p0:(List ag)×Int×Int×Int×Unit→Bool)(f:Nat)(data:List ag)(a m b:Int)(cmp:Unit)(eF n start r p:Int):iB p0 (f+1) (data,a,m,b,cmp,eF,n,start,r,p) =
  bif decide (start<r)then bif decide (0≤i64.wrap (p-i64.wrap ((u64.wrap (i64.wrap (start+r))).fdiv (2 ^ min (Int.toNat 1) u64.bits))))&&decide (i64.wrap (p-i64.wrap ((u64.wrap (i64.wrap (start+r))).fdiv (2 ^ min (Int.toNat 1) u64.bits)))<(↑data.length:Int))then bif decide (0≤i64.wrap ((u64.wrap (i64.wrap (start+r))).fdiv (2 ^ min (Int.toNat 1) u64.bits)))&&decide (i64.wrap ((u64.wrap (i64.wrap (start+r))).fdiv (2 ^ min (Int.toNat 1) u64.bits))<(↑data.length:Int))then bif !decide (fI (data.getD (i64.wrap (p-i64.wrap ((u64.wrap (i64.wrap (start+r))).fdiv (2 ^ min (Int.toNat 1) u64.bits)))).toNat zq1,data.getD (i64.wrap ((u64.wrap (i64.wrap (start+r))).fdiv (2 ^ min (Int.toNat 1) u64.bits))).toNat zq1)<0)then iB p0 f (data,a,m,b,(),eF,n,i64.wrap (i64.wrap ((u64.wrap (i64.wrap (start+r))).fdiv (2 ^ min (Int.toNat 1) u64.bits))+1),r,p)else iB p0 f (data,a,m,b,(),eF,n,start,i64.wrap ((u64.wrap (i64.wrap (start+r))).fdiv (2 ^ min (Int.toNat 1) u64.bits)),p)else none else none else bif decide (start<m)then bif decide (m<i64.wrap (n-start))then bif yG data start m (i64.wrap (n-start))then bif decide (a<start)then bif decide (start<eF)then bif(bj p0).pre (ag2 (data,start,m,i64.wrap (n-start),())).2 [] (a,start,eF,())then bif decide (eF<i64.wrap (n-start))then bif decide (i64.wrap (n-start)<b)then bif(bj p0).pre ((bj p0).fn (ag2 (data,start,m,i64.wrap (n-start),())).2 [] (a,start,eF,())).2 [] (eF,i64.wrap (n-start),b,())then some ((),((bj p0).fn ((bj p0).fn (ag2 (data,start,m,i64.wrap (n-start),())).2 [] (a,start,eF,())).2 [] (eF,i64.wrap (n-start),b,())).2)else none else some ((),((bj p0).fn (ag2 (data,start,m,i64.wrap (n-start),())).2 [] (a,start,eF,())).2)else some ((),((bj p0).fn (ag2 (data,start,m,i64.wrap (n-start),())).2 [] (a,start,eF,())).2)else none else bif decide (eF<i64.wrap (n-start))then bif decide (i64.wrap (n-start)<b)then bif(bj p0).pre (ag2 (data,start,m,i64.wrap (n-start),())).2 [] (eF,i64.wrap (n-start),b,())then some ((),((bj p0).fn (ag2 (data,start,m,i64.wrap (n-start),())).2 [] (eF,i64.wrap (n-start),b,())).2)else none else some ((),(ag2 (data,start,m,i64.wrap (n-start),())).2)else some ((),(ag2 (data,start,m,i64.wrap (n-start),())).2)else bif decide (eF<i64.wrap (n-start))then bif decide (i64.wrap (n-start)<b)then bif(bj p0).pre (ag2 (data,start,m,i64.wrap (n-start),())).2 [] (eF,i64.wrap (n-start),b,())then some ((),((bj p0).fn (ag2 (data,start,m,i64.wrap (n-start),())).2 [] (eF,i64.wrap (n-start),b,())).2)else none else some ((),(ag2 (data,start,m,i64.wrap (n-start),())).2)else some ((),(ag2 (data,start,m,i64.wrap (n-start),())).2)else none else bif decide (a<start)then bif decide (start<eF)then bif(bj p0).pre data [] (a,start,eF,())then bif decide (eF<i64.wrap (n-start))then bif decide (i64.wrap (n-start)<b)then bif(bj p0).pre ((bj p0).fn data [] (a,start,eF,())).2 [] (eF,i64.wrap (n-start),b,())then some ((),((bj p0).fn ((bj p0).fn data [] (a,start,eF,())).2 [] (eF,i64.wrap (n-start),b,())).2)else none else some ((),((bj p0).fn data [] (a,start,eF,())).2)else some ((),((bj p0).fn data [] (a,start,eF,())).2)else none else bif decide (eF<i64.wrap (n-start))then bif decide (i64.wrap (n-start)<b)then bif(bj p0).pre data [] (eF,i64.wrap (n-start),b,())then some ((),((bj p0).fn data [] (eF,i64.wrap (n-start),b,())).2)else none else some ((),data)else some ((),data)else bif decide (eF<i64.wrap (n-start))then bif decide (i64.wrap (n-start)<b)then bif(bj p0).pre data [] (eF,i64.wrap (n-start),b,())then some ((),((bj p0).fn data [] (eF,i64.wrap (n-start),b,())).2)else none else some ((),data)else some ((),data)else bif decide (a<start)then bif decide (start<eF)then bif(bj p0).pre data [] (a,start,eF,())then bif decide (eF<i64.wrap (n-start))then bif decide (i64.wrap (n-start)<b)then bif(bj p0).pre ((bj p0).fn data [] (a,start,eF,())).2 [] (eF,i64.wrap (n-start),b,())then some ((),((bj p0).fn ((bj p0).fn data [] (a,start,eF,())).2 [] (eF,i64.wrap (n-start),b,())).2)else none else some ((),((bj p0).fn data [] (a,start,eF,())).2)else some ((),((bj p0).fn data [] (a,start,eF,())).2)else none else bif decide (eF<i64.wrap (n-start))then bif decide (i64.wrap (n-start)<b)then bif(bj p0).pre data [] (eF,i64.wrap (n-start),b,())then some ((),((bj p0).fn data [] (eF,i64.wrap (n-start),b,())).2)else none else some ((),data)else some ((),data)else bif decide (eF<i64.wrap (n-start))then bif decide (i64.wrap (n-start)<b)then bif(bj p0).pre data [] (eF,i64.wrap (n-start),b,())then some ((),((bj p0).fn data [] (eF,i64.wrap (n-start),b,())).2)else none else some ((),data)else some ((),data):=by kernel_rfl
section
variable (p0:List ag×Int×Int×Int×Unit→Bool)
theorem WM:∀(v x y:List ag) (p:ag) (i k:Int),k=(x.length:Nat)→i=((x.length+v.length+1:Nat):Int)→(x++(p::(v++y))).length≤1099511627776→∃f,vI p0 f (x++(p::(v++y)),i,k)=some ((),x++(v++(p::y)))
 | [],x,y,p,i,k,hk,hi,hl=>by
  refine⟨1,(yh p0 0 _ _ _).trans ?_⟩;simp only[azG,azL,az2]at hl hi;rw[az (by omega) (by omega),azK (by omega)];rfl
 | c::v,x,y,p,i,k,hk,hi,hl=>by
  simp only[azG,azL]at hl hi;obtain⟨f,hf⟩:=WM v (x++[c]) y p i (k+1) (by grind) (by grind) (by grind);refine⟨f+1,(yh p0 f _ _ _).trans ?_⟩;have w1:i64.wrap (i-1)=i-1:=az (by omega) (by omega);have w2:i64.wrap (k+1)=k+1:=az (by omega) (by omega);have n1:(k+1).toNat=x.length+1+([]:List ag).length:=by grind
  have n2:k.toNat=x.length:=by omega
  have eD:x++(p::(c::v++y))=x++p::([]++c::(v++y)):=rfl;have g1:=jN (x:=x) (q:=[]) (r:=p) (y:=[]++c::(v++y)) (p:=p) (z:=zE) rfl;have g2:=lC (x:=x) (q:=[]) (y:=v++y) (p:=p) (r:=c) (z:=zE) rfl;simp only[zE]at g1 g2;have s2:=Fz (x:=x) (q:=[]) (y:=v++y) (p:=p) (r:=c) rfl rfl;have hL:((x++p::([]++c::(v++y))).length:Nat)=x.length+2+v.length+y.length:=by simp;omega
  rw[w1,w2,eD];simp only[n1,n2,g1,g2,s2,azX,hL,azC (show k<i-1 by omega),azC (show 0≤k by omega),azC (show 0≤k+1 by omega),azC (show k<((x.length+2+v.length+y.length:Nat):Int)by omega),azC (show k+1<((x.length+2+v.length+y.length:Nat):Int)by omega),azQ,azH];grind
theorem WL:∀(n:Nat) (u x y:List ag) (q:ag) (i k:Int),u.length=n→i=(x.length:Nat)→k=((x.length+u.length:Nat):Int)→(x++(u++(q::y))).length≤1099511627776→∃f,vH p0 f (x++(u++(q::y)),i,k)=some ((),x++(q::(u++y)))
 | 0,u,x,y,q,i,k,hn,hi,hk,hl=>by
  obtain rfl:=aAf hn;refine⟨1,(yg p0 0 _ _ _).trans ?_⟩;grind
 | n+1,u,x,y,q,i,k,hn,hi,hk,hl=>by
  obtain⟨u,c,rfl⟩:∃u' c,u=u'++[c]:=⟨u.dropLast,u.getLast (by grind),(aBV _).symm⟩;have Ke:u.length=n:=by grind
  simp only[azG,az2,azL]at hl hk;obtain⟨f,hf⟩:=WL n u x (c::y) q i (k-1) Ke hi (by omega) (by grind);refine⟨f+1,(yg p0 f _ _ _).trans ?_⟩;have w2:i64.wrap (k-1)=k-1:=az (by omega) (by omega);have n1:k.toNat=(x++u).length+1+([]:List ag).length:=by grind
  have n2:(k-1).toNat=(x++u).length:=by grind
  have eD:x++(u++[c]++(q::y))=(x++u)++c::([]++q::y):=by simp
  have g1:=jN (x:=x++u) (q:=[]) (r:=c) (y:=[]++q::y) (p:=c) (z:=zE) rfl;have g2:=lC (x:=x++u) (q:=[]) (y:=y) (p:=c) (r:=q) (z:=zE) rfl;simp only[zE]at g1 g2;have s2:=tU (x:=x++u) (q:=[]) (y:=y) (p:=c) (r:=q) rfl rfl;have hL:(((x++u)++c::([]++q::y)).length:Nat)=x.length+u.length+2+y.length:=by simp;omega
  rw[w2,eD];simp only[n1,n2,g1,g2,s2,azX,hL,azC (show k>i by omega),azC (show 0≤k by omega),azC (show 0≤k-1 by omega),azC (show k<((x.length+u.length+2+y.length:Nat):Int)by omega),azC (show k-1<((x.length+u.length+2+y.length:Nat):Int)by omega),azQ,azH];grind
theorem ake:∀(n:Nat) (w x v1 v2 y:List ag) (p:ag) (a i j:Int),w.length=n→a=(x.length:Nat)→i=((x.length+1+v1.length:Nat):Int)→j=((x.length+1+v1.length+w.length:Nat):Int)→dD cj (v1++(w++v2))→(∀q∈v1,cj q p=true)→(∀q∈v2,cj q p=false)→(x++(p::((v1++(w++v2))++y))).length≤1099511627776→
  ∃f,qA p0 f (x++(p::((v1++(w++v2))++y)),a,(),i,j)=some ((),x++(fN cj [p] (v1++(w++v2))++y)):=by
 intro n;induction n using Nat.strongRecOn with
 | _ n ih=>
 intro w x v1 v2 y p a i j hn ha hi hj hs h1 h2 hl;have Du:=hl;simp only[azG,azL]at Du;by_cases hw:w.length=0
 ·obtain rfl:=aAf hw
  obtain⟨f,hf⟩:=WM p0 v1 x (v2++y) p i a ha (by grind) (by grind);refine⟨f+1,(qz p0 f _ _ _ _ _).trans ?_⟩;rw[azK (by grind),azI];have e1:fN cj [p] (v1++([]++v2))=v1++(p::v2):=by
   have:=er (lt:=cj) [] v1 [p] v2 (fun z hz q hq=>by rw[aAD.1 hz];exact h1 q hq) (fun z hz=>by cases hz);have t:=er (lt:=cj) [p] [] [] v2 (fun z hz=>by cases hz) (fun z hz q hq=>by rw[aAD.1 hz];exact h2 q hq);simp only[aAs,aAc,fp,fb]at this t ⊢;grind
  grind
 ·have hh:(i+j) / 2=((x.length+(p::(v1++w.take (w.length / 2))).length:Nat):Int):=by grind
  obtain⟨w1,c,w2,rfl,hw1⟩:=Z2 (w:=w) (n:=w.length / 2) (by omega);have ew:(w1++c::w2).take ((w1++c::w2).length / 2)=w1:=by grind
  rw[ew]at hh;simp only[azG,azL]at hw1 hj Du hn hh;have w0:=hlf (i:=i) (j:=j) (by omega) (by omega);have eD:x++(p::((v1++(w1++c::w2++v2))++y))=x++((p::(v1++w1))++(c::(w2++(v2++y)))):=by simp
  have g1:(x++((p::(v1++w1))++(c::(w2++(v2++y))))).getD ((i+j) / 2).toNat zE=c:=gM (by simp only[azL,azG];omega);have g2:(x++((p::(v1++w1))++(c::(w2++(v2++y))))).getD a.toNat zE=p:=jN (q:=[]) (r:=p) (by omega);simp only[zE]at g1 g2;have hL:((x++((p::(v1++w1))++(c::(w2++(v2++y))))).length:Nat)=x.length+(v1.length+w1.length+1)+(w2.length+(v2.length+y.length)+1):=by grind
  have F2:=aAI.1 hs;have hsw:=aAI.1 F2.2.1;have hsc:=aAI.1 hsw.1;have rX:=aAq.1 hsc.2.1;cases hc:cj c p
  ·obtain⟨f,hf⟩:=ih w1.length (by omega) w1 x v1 (c::(w2++v2)) y p a i ((i+j) / 2) rfl ha hi (by omega) (by simpa using hs) h1 (fun q hq=>by
    rcases azW.1 hq with rfl | hq
    ·exact hc
    ·rcases aAp.1 hq with hq | hq
     ·exact gE.ntrans p c q hc (rX.1 q hq)
     grind) (by grind)
   refine⟨f+1,(qz p0 f _ _ _ _ _).trans ?_⟩;have xO:decide (fI (c,p)<0)=false:=hc;rw[w0,eD];simp only[g1,g2,xO,hL,azC (show i<j by omega),azC (show 0≤(i+j) / 2 by omega),azC (show 0≤a by omega),azC (show(i+j) / 2<((x.length+(v1.length+w1.length+1)+(w2.length+(v2.length+y.length)+1):Nat):Int)by omega),azC (show a<((x.length+(v1.length+w1.length+1)+(w2.length+(v2.length+y.length)+1):Nat):Int)by omega),azQ,azH,azI];grind
  ·have w3:i64.wrap ((i+j) / 2+1)=(i+j) / 2+1:=az (by omega) (by omega)
   obtain⟨f,hf⟩:=ih w2.length (by omega) w2 x (v1++(w1++[c])) v2 y p a ((i+j) / 2+1) j rfl ha (by simp only[azG,aAl];omega) (by simp only[azG,aAl];omega) (by simpa using hs) (fun q hq=>by
    rcases aAp.1 hq with hq | hq
    ·grind
    ·rcases aAp.1 hq with hq | hq
     ·exact gE.ah1 (hsc.2.2 q hq c (az1 ..)) hc
     grind) h2 (by simpa using hl)
   refine⟨f+1,(qz p0 f _ _ _ _ _).trans ?_⟩;have xO:decide (fI (c,p)<0)=true:=hc;rw[w0,eD];simp only[g1,g2,xO,hL,w3,azC (show i<j by omega),azC (show 0≤(i+j) / 2 by omega),azC (show 0≤a by omega),azC (show(i+j) / 2<((x.length+(v1.length+w1.length+1)+(w2.length+(v2.length+y.length)+1):Nat):Int)by omega),azC (show a<((x.length+(v1.length+w1.length+1)+(w2.length+(v2.length+y.length)+1):Nat):Int)by omega),azQ,azH];simpa using hf
theorem akd:∀(n:Nat) (w x u1 u2 y:List ag) (q:ag) (m i j:Int),w.length=n→m=((x.length+(u1++(w++u2)).length:Nat):Int)→i=((x.length+u1.length:Nat):Int)→j=((x.length+u1.length+w.length:Nat):Int)→dD cj (u1++(w++u2))→(∀z∈u1,cj q z=false)→(∀z∈u2,cj q z=true)→(x++((u1++(w++u2))++(q::y))).length≤1099511627776→
  ∃f,qy p0 f (x++((u1++(w++u2))++(q::y)),m,(),i,j)=some ((),x++(fN cj (u1++(w++u2)) [q]++y)):=by
 intro n;induction n using Nat.strongRecOn with
 | _ n ih=>
 intro w x u1 u2 y q m i j hn hm hi hj hs h1 h2 hl;have Du:=hl;simp only[azG,azL]at Du hm;by_cases hw:w.length=0
 ·obtain rfl:=aAf hw
  obtain⟨f,hf⟩:=WL p0 u2.length u2 (x++u1) y q i m rfl (by grind) (by grind) (by grind);refine⟨f+1,(qx p0 f _ _ _ _ _).trans ?_⟩;rw[azK (by grind),azI];have e1:fN cj (u1++([]++u2)) [q]=u1++(q::u2):=by
   have:=er (lt:=cj) u1 [] u2 [q] (fun z hz p hp=>by cases hp) (fun z hz p hp=>by rw[aAD.1 hp];exact h1 z hz);have t:=er (lt:=cj) [] [q] u2 [] (fun z hz p hp=>by rw[aAD.1 hp];exact h2 z hz) (fun z hz=>by cases hz);simp only[aAs,aAc,fp,fb]at this t ⊢;grind
  grind
 ·obtain⟨w1,c,w2,rfl,hw1⟩:=Z2 (w:=w) (n:=w.length / 2) (by omega)
  simp only[azG,azL]at hw1 hj Du hn hm;have hh:(i+j) / 2=((x.length+(u1++w1).length:Nat):Int):=by grind
  simp only[azG]at hh;have w0:=hlf (i:=i) (j:=j) (by omega) (by omega);have eD:x++((u1++(w1++c::w2++u2))++(q::y))=x++((u1++w1)++(c::(w2++(u2++(q::y))))):=by simp
  have g1:(x++((u1++w1)++(c::(w2++(u2++(q::y)))))).getD ((i+j) / 2).toNat zE=c:=gM (by simp only[azG];omega);have g2:(x++((u1++w1)++(c::(w2++(u2++(q::y)))))).getD m.toNat zE=q:=by
   have:=gM (x:=x) (u:=u1++(w1++c::(w2++u2))) (c:=q) (y:=y) (z:=zE) (j:=m.toNat) (by simp only[azG,azL];omega);grind
  simp only[zE]at g1 g2;have hL:((x++((u1++w1)++(c::(w2++(u2++(q::y)))))).length:Nat)=x.length+(u1.length+w1.length)+(w2.length+(u2.length+(y.length+1))+1):=by simp only[azG,azL];omega
  have F2:=aAI.1 hs;have hsw:=aAI.1 F2.2.1;have hsc:=aAI.1 hsw.1;have rX:=aAq.1 hsc.2.1;cases hc:cj q c
  ·have w3:i64.wrap ((i+j) / 2+1)=(i+j) / 2+1:=az (by omega) (by omega)
   obtain⟨f,hf⟩:=ih w2.length (by omega) w2 x (u1++(w1++[c])) u2 y q m ((i+j) / 2+1) j rfl (by simp only[azG,aAl];omega) (by simp only[azG,aAl];omega) (by simp only[azG,aAl];omega) (by simpa using hs) (fun z hz=>by
    rcases aAp.1 hz with hz | hz
    ·grind
    ·rcases aAp.1 hz with hz | hz
     ·exact gE.ntrans z c q (hsc.2.2 z hz c (az1 ..)) hc
     grind) h2 (by simpa using hl)
   refine⟨f+1,(qx p0 f _ _ _ _ _).trans ?_⟩;have xO:decide (fI (q,c)<0)=false:=hc;rw[w0,eD];simp only[g1,g2,xO,hL,w3,azC (show i<j by omega),azC (show 0≤(i+j) / 2 by omega),azC (show 0≤m by omega),azC (show(i+j) / 2<((x.length+(u1.length+w1.length)+(w2.length+(u2.length+(y.length+1))+1):Nat):Int)by omega),azC (show m<((x.length+(u1.length+w1.length)+(w2.length+(u2.length+(y.length+1))+1):Nat):Int)by omega),azQ,aBh,azH];simpa using hf
  ·obtain⟨f,hf⟩:=ih w1.length (by omega) w1 x u1 (c::(w2++u2)) y q m i ((i+j) / 2) rfl (by simp only[azG,azL];omega) hi (by omega) (by simpa using hs) h1 (fun z hz=>by
    rcases azW.1 hz with rfl | hz
    ·exact hc
    ·rcases aAp.1 hz with hz | hz
     ·exact gE.ahZ hc (rX.1 z hz)
     grind) (by grind)
   refine⟨f+1,(qx p0 f _ _ _ _ _).trans ?_⟩;have xO:decide (fI (q,c)<0)=true:=hc;rw[w0,eD];simp only[g1,g2,xO,hL,azC (show i<j by omega),azC (show 0≤(i+j) / 2 by omega),azC (show 0≤m by omega),azC (show(i+j) / 2<((x.length+(u1.length+w1.length)+(w2.length+(u2.length+(y.length+1))+1):Nat):Int)by omega),azC (show m<((x.length+(u1.length+w1.length)+(w2.length+(u2.length+(y.length+1))+1):Nat):Int)by omega),azQ,aBr,azH,azI];grind
theorem aeV(f:Nat)(data:List ag)(a m b:Int)(u:Unit)(md n start r p:Int)(h:¬ start<r):iB p0 (f+1) (data,a,m,b,u,md,n,start,r,p)=bif decide (start<m)then(bif decide (m<i64.wrap (n-start))then(bif yG data start m (i64.wrap (n-start))then K1S p0 (ag2 (data,start,m,i64.wrap (n-start),())).2 a start md (i64.wrap (n-start)) b else none)else K1S p0 data a start md (i64.wrap (n-start)) b)else K1S p0 data a start md (i64.wrap (n-start)) b:=
 (qw p0 f data a m b u md n start r p).trans (by rw[azK h];rfl)
end
section
variable {p0:List ag×Int×Int×Int×Unit→Bool}
theorem WK{x u1 u2 v1 v2 y:List ag}{a m b md n s r p:Int}(f:Nat)(hu:dD cj (u1++u2))(hv:dD cj (v1++v2))(ha:a=(x.length:Nat))(hs:s=((x.length+u1.length:Nat):Int))(hm:m=((x.length+u1.length+u2.length:Nat):Int))(hmd:md=s+(v1.length:Nat))(hb:b=m+((v1.length+v2.length:Nat):Int))(hn:n=md+m)
  (hl:(x++((u1++u2)++((v1++v2)++y))).length≤1099511627776) (h1:∀p∈u2,∀q∈v1,cj q p=true) (h2:∀p∈u1,∀q∈v2,cj q p=false) (hr:¬ s<r)
  (hp:∀(x u v y:List ag) (a' m' b':Int),a'=(x.length:Nat)→m'=((x.length+u.length:Nat):Int)→b'=((x.length+u.length+v.length:Nat):Int)→dD cj u→dD cj v→0<u.length→0<v.length→(x++(u++(v++y))).length≤1099511627776→((a'=md∧b'=b)∨(a'=a∧b'=md))→p0 (x++(u++(v++y)),a',m',b',())=true) :
  iB p0 (f+1) (x++((u1++u2)++((v1++v2)++y)),a,m,b,(),md,n,s,r,p)=some ((),x++(fN cj (u1++u2) (v1++v2)++y)):=by
 have Du:=hl;simp only[azG]at Du;rw[aeV p0 f _ _ _ _ _ _ _ _ _ _ hr];have w:i64.wrap (n-s)=n-s:=az (by omega) (by omega);have fin:K1S p0 (x++(u1++(v1++(u2++(v2++y))))) a s md (n-s) b=some ((),x++(fN cj (u1++u2) (v1++v2)++y)):=by
  have hu':=aAI.1 hu;have TO:=aAI.1 hv;have lm:=uC (lt:=cj) u1 v1;have k2:K2S p0 ((x++fN cj u1 v1)++(u2++(v2++y))) md (n-s) b=some ((),x++(fN cj (u1++u2) (v1++v2)++y)):=by
   rw[ano (fun x u v y a' m' b' q1 q2 q3 q4 q5 q6 q7 q8 q9 q10=>hp x u v y a' m' b' q1 q2 q3 q4 q5 q6 q7 q8 (.inl ⟨q9,q10⟩)) (by grind) (by grind) (by grind) hu'.2.1 TO.2.1 (by simp only[azG];omega),er u1 v1 u2 v2 h1 h2];simp
  unfold K1S;by_cases g1:a<s
  ·by_cases g2:s<md
   ·rw[azC g1,azC g2,hp x u1 v1 (u2++(v2++y)) a s md ha hs (by omega) hu'.1 TO.1 (by omega) (by omega) (by simp only[azG];omega) (.inr ⟨rfl,rfl⟩),kN ha hs (by omega)]
    grind
   ·have:v1=[]:=aAf (by omega)
    subst this;rw[azC g1,azK g2];grind[fb]
  ·have:u1=[]:=aAf (by omega)
   subst this;rw[azK g1];grind[fp]
 rw[w];by_cases g1:s<m
 ·by_cases g2:m<n-s
  ·have e:=A6 (x:=x++u1) (u:=u2) (v:=v1) (y:=v2++y) (a:=s) (m:=m) (b:=n-s) (c:=()) (by grind) (by grind) (by grind)
   have eD:x++((u1++u2)++((v1++v2)++y))=(x++u1)++(u2++(v1++(v2++y))):=by simp
   rw[eD,e,azC g1,azC g2,kT.2 ⟨by omega,g1,g2,by simp only[azG];omega,by simp only[azG];omega⟩];grind
  ·have:v1=[]:=aAf (by omega)
   grind
 ·have:u2=[]:=aAf (by omega)
  grind
theorem akc{x u v y:List ag}{a m b md n p:Int}(hu:dD cj u)(hv:dD cj v)(ha:a=(x.length:Nat))(hm:m=((x.length+u.length:Nat):Int))(hb:b=((x.length+u.length+v.length:Nat):Int))(hmd:md=(a+b) / 2)(hn:n=md+m)(hpe:p=n-1)(hlu:0<u.length)(hlv:0<v.length)
  (hl:(x++(u++(v++y))).length≤1099511627776)
  (hp:∀(x u v y:List ag) (a' m' b':Int),a'=(x.length:Nat)→m'=((x.length+u.length:Nat):Int)→b'=((x.length+u.length+v.length:Nat):Int)→dD cj u→dD cj v→0<u.length→0<v.length→(x++(u++(v++y))).length≤1099511627776→((a'=md∧b'=b)∨(a'=a∧b'=md))→p0 (x++(u++(v++y)),a',m',b',())=true) :
  ∀(k:Nat) (s r:Int),(r-s).toNat=k→a≤s→s≤r→r≤m→r≤md→n-b≤s→(a<s→n-b<s→cj ((x++(u++(v++y))).getD (n-s).toNat zE) ((x++(u++(v++y))).getD (s-1).toNat zE)=false)→(r<m→r<md→cj ((x++(u++(v++y))).getD (p-r).toNat zE) ((x++(u++(v++y))).getD r.toNat zE)=true)→
  ∃f,iB p0 f (x++(u++(v++y)),a,m,b,(),md,n,s,r,p)=some ((),x++(fN cj u v++y)):=by
 intro k;induction k using Nat.strongRecOn with
 | _ k ih=>
 intro s r hk h1 h2 h3 h4 h5 i1 i2;have Du:=hl;simp only[azG]at Du;by_cases hsr:s<r
 ·have w0:=hlf (i:=s) (j:=r) (by omega) (by omega)
  have w1:i64.wrap (p-(s+r) / 2)=p-(s+r) / 2:=az (by omega) (by omega);have w2:i64.wrap ((s+r) / 2+1)=(s+r) / 2+1:=az (by omega) (by omega);have hL:(((x++(u++(v++y))).length:Nat):Int)=((x.length+(u.length+(v.length+y.length)):Nat):Int):=by simp only[azG]
  cases hc:cj ((x++(u++(v++y))).getD (p-(s+r) / 2).toNat zE) ((x++(u++(v++y))).getD ((s+r) / 2).toNat zE)
  ·obtain⟨f,hf⟩:=ih (r-((s+r) / 2+1)).toNat (by omega) ((s+r) / 2+1) r rfl (by omega) (by omega) h3 h4 (by omega) (fun _ _=>by rw[show n-((s+r) / 2+1)=p-(s+r) / 2 by omega,show(s+r) / 2+1-1=(s+r) / 2 by omega];exact hc) i2
   refine⟨f+1,(qw p0 f _ _ _ _ _ _ _ _ _ _).trans ?_⟩;have xO:decide (fI ((x++(u++(v++y))).getD (p-(s+r) / 2).toNat zq1,(x++(u++(v++y))).getD ((s+r) / 2).toNat zq1)<0)=false:=hc;rw[azC hsr,azH,w0,w1,w2,hL,xO,azC (show 0≤p-(s+r) / 2 by omega),azC (show 0≤(s+r) / 2 by omega),azC (show p-(s+r) / 2<((x.length+(u.length+(v.length+y.length)):Nat):Int)by omega),azC (show(s+r) / 2<((x.length+(u.length+(v.length+y.length)):Nat):Int)by omega)];exact hf
  ·obtain⟨f,hf⟩:=ih ((s+r) / 2-s).toNat (by omega) s ((s+r) / 2) rfl h1 (by omega) (by omega) (by omega) h5 i1 (fun _ _=>hc)
   refine⟨f+1,(qw p0 f _ _ _ _ _ _ _ _ _ _).trans ?_⟩;have xO:decide (fI ((x++(u++(v++y))).getD (p-(s+r) / 2).toNat zq1,(x++(u++(v++y))).getD ((s+r) / 2).toNat zq1)<0)=true:=hc;rw[azC hsr,azH,w0,w1,w2,hL,xO,azC (show 0≤p-(s+r) / 2 by omega),azC (show 0≤(s+r) / 2 by omega),azC (show p-(s+r) / 2<((x.length+(u.length+(v.length+y.length)):Nat):Int)by omega),azC (show(s+r) / 2<((x.length+(u.length+(v.length+y.length)):Nat):Int)by omega)];exact hf
 ·obtain rfl:s=r:=by omega
  obtain⟨u1,u2,rfl,e1⟩:∃u1 u2,u=u1++u2∧s=((x.length+u1.length:Nat):Int):=⟨u.take (s-a).toNat,u.drop (s-a).toNat,(aAT _ _).symm,by rw[az5];omega⟩;obtain⟨v1,v2,rfl,e2⟩:∃v1 v2,v=v1++v2∧md=s+(v1.length:Nat):=⟨v.take (md-s).toNat,v.drop (md-s).toNat,(aAT _ _).symm,by rw[az5];omega⟩;have hu':=aAI.1 hu;have TO:=aAI.1 hv;simp only[azG]at hm hb Du hlu hlv;refine⟨1,WK 0 hu hv ha e1 (by omega) e2 (by omega) hn hl (fun z hz q hq=>?_) (fun z hz q hq=>?_) (by omega) hp⟩
  ·
   cases u2 with
   | nil=>cases hz
   | cons z0 u2=>
    obtain⟨v1,q0,rfl⟩:∃v' c,v1=v'++[c]:=⟨v1.dropLast,v1.getLast (by rintro rfl;cases hq),(aBV _).symm⟩;simp only[azG,azL,az2]at hm hb Du e2;have g:=i2 (by omega) (by omega);have g1:(x++((u1++z0::u2)++((v1++[q0]++v2)++y))).getD s.toNat zE=z0:=by
     have:=gM (x:=x) (u:=u1) (c:=z0) (y:=u2++((v1++[q0]++v2)++y)) (z:=zE) (j:=s.toNat) (by omega);simpa using this
    have g2:(x++((u1++z0::u2)++((v1++[q0]++v2)++y))).getD (p-s).toNat zE=q0:=by
     have:=gM (x:=x) (u:=u1++(z0::(u2++v1))) (c:=q0) (y:=v2++y) (z:=zE) (j:=(p-s).toNat) (by simp only[azG,azL];omega);simpa using this
    rw[g1,g2]at g;have hz0:cj z z0=false:=by
     rcases azW.1 hz with rfl | hz
     ·exact gE.irrefl _
     ·exact(aAq.1 hu'.2.1).1 z hz
    have hq0:cj q0 q=false:=by
     rcases aAp.1 hq with hq | hq
     ·exact(aAI.1 TO.1).2.2 q hq q0 (aAD.2 rfl)
     ·rw[aAD.1 hq];exact gE.irrefl _
    exact gE.ahZ (gE.ah1 hq0 g) hz0
  ·cases v2 with
   | nil=>cases hq
   | cons q1 v2=>
    obtain⟨u1,z1,rfl⟩:∃u' c,u1=u'++[c]:=⟨u1.dropLast,u1.getLast (by rintro rfl;cases hz),(aBV _).symm⟩;simp only[azG,azL,az2]at hm hb Du e1;have g:=i1 (by omega) (by omega);have g1:(x++((u1++[z1]++u2)++((v1++q1::v2)++y))).getD (s-1).toNat zE=z1:=by
     have:=gM (x:=x) (u:=u1) (c:=z1) (y:=u2++((v1++q1::v2)++y)) (z:=zE) (j:=(s-1).toNat) (by omega);simpa using this
    have g2:(x++((u1++[z1]++u2)++((v1++q1::v2)++y))).getD (n-s).toNat zE=q1:=by
     have:=gM (x:=x) (u:=u1++([z1]++(u2++v1))) (c:=q1) (y:=v2++y) (z:=zE) (j:=(n-s).toNat) (by simp only[azG,azL,az2];omega);simpa using this
    rw[g1,g2]at g;have hz0:cj z1 z=false:=by
     rcases aAp.1 hz with hz | hz
     ·exact(aAI.1 hu'.1).2.2 z hz z1 (aAD.2 rfl)
     ·rw[aAD.1 hz];exact gE.irrefl _
    have hq0:cj q q1=false:=by
     rcases azW.1 hq with rfl | hq
     ·exact gE.irrefl _
     ·exact(aAq.1 TO.2.1).1 q hq
    exact gE.ntrans z q1 q (gE.ntrans z z1 q1 hz0 g) hq0
end
theorem WI(n:Nat):∀a,(sG a&&decide (Dp a<n+1))=true→∃f,abg (fun a=>sG a&&decide (Dp a<n)) f a=some (Dn a):=by
 rintro⟨l,a,m,b,u⟩ h;obtain⟨h,hM⟩:=aAk.1 h;have hM:(b-a).toNat<n+1:=azZ hM;obtain⟨hs,huv⟩:=aAk.1 h;obtain⟨hu,hv⟩:=aAk.1 huv;have hs:yG l a m b=true:=hs;have hu:xF cj (eF l a m)=true:=hu;have hv:xF cj (eF l m b)=true:=hv;obtain⟨h0,h1,h2,h3,h4⟩:=kT.1 hs;obtain⟨x,U,V,y,rfl,e1,e2,e3⟩:=zB h0 (aAV h1) (aAV h2) h3;obtain⟨_,c2,c3,_⟩:=ag4 (y:=y) e1 e2 e3;rw[c2]at hu;rw[c3]at hv;have hsu:=kO.1 hu;have hsv:=kO.1 hv;clear hu hv huv hs h;have Du:=h4;simp only[azG]at Du;have w1:i64.wrap (m-a)=m-a:=az (by omega) (by omega);have w2:i64.wrap (b-m)=b-m:=az (by omega) (by omega);rw[kN e1 e2 e3];have hU:0<U.length:=by omega
 have hV:0<V.length:=by omega
 by_cases g1:m-a=1
 ·obtain⟨z,rfl⟩:∃z,U=[z]:=List.length_eq_one_iff.1 (by omega)
  simp only[azL,az2]at e2 e3;obtain⟨f,hf⟩:=ake (fun a=>sG a&&decide (Dp a<n)) V.length V x [] [] y z a m b rfl e1 (by grind) (by grind) (by grind) (fun q hq=>by cases hq) (fun q hq=>by cases hq) (by grind);refine⟨f+1,(rB _ f _ _ _ _ _).trans ?_⟩;grind
 have eb1:(i64.wrap (m-a) == 1)=false:=by grind
 by_cases g2:b-m=1
 ·obtain⟨q,rfl⟩:∃q,V=[q]:=List.length_eq_one_iff.1 (by omega)
  obtain⟨f,hf⟩:=akd (fun a=>sG a&&decide (Dp a<n)) U.length U x [] [] y q m a m rfl (by grind) (by grind) (by grind) (by grind) (fun q hq=>by cases hq) (fun q hq=>by cases hq) (by grind);refine⟨f+1,(rB _ f _ _ _ _ _).trans ?_⟩;grind
 have eb2:(i64.wrap (b-m) == 1)=false:=by grind
 have w0:=hlf (i:=a) (j:=b) (by omega) (by omega);have hp:∀(x u v y:List ag) (a' m' b':Int),a'=(x.length:Nat)→m'=((x.length+u.length:Nat):Int)→b'=((x.length+u.length+v.length:Nat):Int)→dD cj u→dD cj v→0<u.length→0<v.length→(x++(u++(v++y))).length≤1099511627776→((a'=(a+b) / 2∧b'=b)∨(a'=a∧b'=(a+b) / 2))→(fun a=>sG a&&decide (Dp a<n)) (x++(u++(v++y)),a',m',b',())=true:=by
  intro x' u' v' y' a' m' b' q1 q2 q3 q4 q5 q6 q7 q8 q9;refine aAk.2 ⟨AQ q1 q2 q3 q4 q5 q6 q7 q8,azC ?_⟩;show(b'-a').toNat<n;omega
 have w4:i64.wrap ((a+b) / 2+m)=(a+b) / 2+m:=az (by omega) (by omega);have w5:i64.wrap ((a+b) / 2+m-b)=(a+b) / 2+m-b:=az (by omega) (by omega);have w6:i64.wrap ((a+b) / 2+m-1)=(a+b) / 2+m-1:=az (by omega) (by omega);have go:=akc (p0:=fun a=>sG a&&decide (Dp a<n)) (y:=y) (md:=(a+b) / 2) (n:=(a+b) / 2+m) (p:=(a+b) / 2+m-1) hsu hsv e1 e2 e3 rfl rfl rfl hU hV h4 hp;by_cases g3:m>(a+b) / 2
 ·obtain⟨f,hf⟩:=go _ ((a+b) / 2+m-b) ((a+b) / 2) rfl (by omega) (by omega) (by omega) (by omega) (by omega) (fun _ _=>by omega) (fun _ _=>by omega)
  refine⟨f+1,(rB _ f _ _ _ _ _).trans ?_⟩;rw[eb1,eb2,w0,azC g3,w4,w5,w6];exact hf
 ·obtain⟨f,hf⟩:=go _ a m rfl (by omega) (by omega) (by omega) (by omega) (by omega) (fun _ _=>by omega) (fun _ _=>by omega)
  refine⟨f+1,(rB _ f _ _ _ _ _).trans ?_⟩;rw[eb1,eb2,w0,azK g3,w4,w6];exact hf
theorem WJ:∀a,sG a=true→(Dn a).2.length=a.1.length:=by
 rintro⟨l,a,m,b,u⟩ h;obtain⟨hs,_⟩:=aAk.1 h;have hs:yG l a m b=true:=hs;obtain⟨h0,h1,h2,h3,h4⟩:=kT.1 hs;obtain⟨x,U,V,y,rfl,e1,e2,e3⟩:=zB h0 (aAV h1) (aAV h2) h3;rw[kN e1 e2 e3];simp only[azG,uC];omega
theorem C0:∀n:Nat,(bj (fun a=>(sG:(List ag)×Int×Int×Int×Unit→Bool) a&&decide ((Dp:(List ag)×Int×Int×Int×Unit→Nat) a<n))).Ok Tryz.prog
 | 0=>dW.ok1 rfl fun l a hp=>absurd (azZ (aAk.1 hp).2) (Nat.not_lt_zero _)
 | n+1=>fJ (C:=tI (fun a=>(sG:(List ag)×Int×Int×Int×Unit→Bool) a&&decide ((Dp:(List ag)×Int×Int×Int×Unit→Nat) a<n))) (Lt:=fK) (fn:=Tryz.f132) (rs:=[]) (bj (fun a=>(sG:(List ag)×Int×Int×Int×Unit→Bool) a&&decide ((Dp:(List ag)×Int×Int×Int×Unit→Nat) a<n+1))) Tryz.prog rfl rfl rfl mixed (agU (C0 n)) ⟨rfl,rfl⟩ (fq (by decide +kernel)) Tryz.func132 rfl rfl rfl (aBz rfl) (by kernel_rfl) (by kernel_rfl) (aBz rfl) fun l a hp=>⟨WJ (l,a) (aAk.1 hp).1,WI n (l,a) hp⟩
noncomputable def OA:dW:=⟨132,false,false,69,13,aF,[.c zI,.c zI,.c zI,.fn 62 []],[],fun l l2 a=>(sG:(List ag)×Int×Int×Int×Unit→Bool) (l,a.1,a.2.1,a.2.2.1,a.2.2.2),fun l l2 a=>(Dn:(List ag)×Int×Int×Int×Unit→Unit×(List ag)) (l,a.1,a.2.1,a.2.2.1,a.2.2.2)⟩
theorem Vq:OA.Ok Tryz.prog:=dW.ok1 rfl fun l a hp=>dW.of1 rfl (C0 ((Dp:(List ag)×Int×Int×Int×Unit→Nat) (l,a)+1)) l a (aAk.2 ⟨hp,azC (aAF _)⟩)
end Go.AL
