/- AI. -/
import Derived.Test.YtfggefeflojnkaaGreatEst4
set_option linter.unusedVariables false
open Go.IntKind (i64 u64)
namespace Go.AL
open Go.Proofs
noncomputable def ajV:cX:=zC [OO] (dE []) 12
noncomputable def ajp(f:Nat)(a:ag×ag):Option Int:=aG ajV (eO []) (zK [.tmp 4] [.v zI]) f [.code (aB Tryz.f62)] (aQ [.g aF,.g aF] a)
theorem acb(f:Nat)(a b:ag):ajp (f+1) (a,b) =
  some (xW ((a.2.2.1,a.2.2.2.1,a.2.2.2.2.1),b.2.2.1,b.2.2.2.1,b.2.2.2.2.1)):=by kernel_rfl
noncomputable def ajz:(ag×ag)→Int
 | (a,b)=>xW ((a.2.2.1,a.2.2.2.1,a.2.2.2.2.1),b.2.2.1,b.2.2.2.1,b.2.2.2.2.1)
noncomputable def aiW:(ag×ag)→Bool
 | (a,b)=>true
theorem aaj:∀a:ag×ag,de (fun f=>ajp f a) (aiW a) (ajz a)
 | (a,b)=>ai (fun f=>acb f _ _) ae
noncomputable def al5:dn:=⟨62,[.g aF,.g aF],[.v zI],fun _=>true,fI⟩
theorem wj:zO al5:=fl ajV (eO []) [.tmp 4] mixed (ah E4 (aC)) Tryz.func62 (bp aaj (fun _ _=>rfl) (fun _ _=>rfl))
noncomputable def adT:cX:=zC [] (dE [(3,([(0,[]),(1,[]),(2,[]),(3,[]),(4,[]),(5,[]),(6,[]),(7,[]),(8,[]),(9,[]),(10,[]),(11,[]),(12,[]),(13,[]),(14,[]),(15,[]),(16,[]),(17,[]),(18,[]),(19,[]),(20,[]),(21,[]),(22,[]),(23,[])],[(16,37)]))]) 38
theorem amw:jh Tryz.prog [] [] []:=aC
def GX:Nat→LD:=sY 1 [(0,⟨[.list 0 500 69 13 aF,.c 1 (zI),.c 2 (zI),.c 3 (zI),.c 10 (zI)],[],1⟩)]
noncomputable def ai0(f:Nat)(a:(List ag)×Int×Int×Int×Unit):Option (Unit×(List ag)):=aG adT GX (cO Tryz.prog 69 13 aF [] []) f [.code (aB Tryz.f152)] (dR false 69 13 aF [.c zI,.c zI,.c zI,.fn 62 []] a.1 [] (a.2.1,a.2.2.1,a.2.2.2.1,a.2.2.2.2))
noncomputable def Al(f:Nat)(x:(List ag)×Int×Int×Int×Int):Option (Unit×(List ag)):=aG adT GX (cO Tryz.prog 69 13 aF [] []) f (aV Tryz.f152 0) ((GX 0).mk' x)
theorem abh(f:Nat)(data:List ag)(a b n:Int)(cmp:Unit):ai0 (f+1) (data,a,b,n,cmp) =
  Al f (data,a,b,n,0):=by kernel_rfl
theorem CI(f:Nat)(data:List ag)(a b n i:Int):Al (f+1) (data,a,b,n,i) =
  bif decide (i<n)then bif decide (0≤i64.wrap (b+i))&&decide (i64.wrap (b+i)<(↑data.length:Int))then bif decide (0≤i64.wrap (a+i))&&decide (i64.wrap (a+i)<(↑data.length:Int))then bif decide (0≤i64.wrap (a+i))&&decide (i64.wrap (a+i)<(↑data.length:Int))then bif decide (0≤i64.wrap (b+i))&&decide (i64.wrap (b+i)<(↑(data.set (i64.wrap (a+i)).toNat (data.getD (i64.wrap (b+i)).toNat zq1)).length:Int))then Al f ((data.set (i64.wrap (a+i)).toNat (data.getD (i64.wrap (b+i)).toNat zq1)).set (i64.wrap (b+i)).toNat (data.getD (i64.wrap (a+i)).toNat zq1),a,b,n,i64.wrap (i+1))else none else none else none else none else some ((),data):=by kernel_rfl
theorem ahI:∀(P R x q y:List ag) (a b n:Int) (i:Nat),P.length=R.length→a+i=x.length→b+i=((x.length+P.length+q.length:Nat):Int)→n=((i+P.length:Nat):Int)→(x++(P++(q++(R++y)))).length≤1099511627776→i+P.length≤1099511627776→
  ∃f,Al f (x++(P++(q++(R++y))),a,b,n,((i:Nat):Int))=some ((),x++(R++(q++(P++y))))
 | [],[],x,q,y,a,b,n,i,_,_,_,hn,_,_=>⟨1,(CI 0 _ _ _ _ _).trans (by grind)⟩
 | [],r::R,_,_,_,_,_,_,_,h,_,_,_,_,_=>by simp at h
 | p::P,[],_,_,_,_,_,_,_,h,_,_,_,_,_=>by simp at h
 | p::P,r::R,x,q,y,a,b,n,i,h,ha,hb,hn,hl,hi=>by
  simp only[azL,azG]at h hb hn hl hi;have hA:i64.wrap (a+(i:Nat))=((x.length:Nat):Int):=by grind[az]
  have hB:i64.wrap (b+(i:Nat))=((x.length+1+(P++q).length:Nat):Int):=by rw[hb,az (by omega) (by omega)];grind
  have e1:i64.wrap (((i:Nat):Int)+1)=((i+1:Nat):Int):=by grind[az]
  obtain⟨f,hf⟩:=ahI P R (x++[r]) (q++[p]) y a b n (i+1) (by omega) (by grind) (by grind) (by omega) (by grind) (by omega);refine⟨f+1,(CI f _ _ _ _ _).trans ?_⟩;have eD:x++(p::P++(q++(r::R++y)))=x++p::((P++q)++r::(R++y)):=by simp
  rw[hA,hB,e1,eD];have g1:=jN (x:=x) (q:=[]) (r:=p) (y:=(P++q)++r::(R++y)) (p:=p) (z:=zE) rfl;have g2:=lC (x:=x) (q:=P++q) (y:=R++y) (p:=p) (r:=r) (z:=zE) rfl;simp only[zE]at g1 g2;rw[aAn,aAn,g1,g2,Fz rfl rfl,azC (show((i:Nat):Int)<n by omega),fW,fW,azC (show((x.length:Nat):Int)<((x++p::((P++q)++r::(R++y))).length:Nat)by simp only[azG,azL];omega),
   azC (show((x.length+1+(P++q).length:Nat):Int)<((x++p::((P++q)++r::(R++y))).length:Nat)by simp only[azG,azL];omega),azX,
   azC (show((x.length+1+(P++q).length:Nat):Int)<((x++p::((P++q)++r::(R++y))).length:Nat)by simp only[azG,azL];omega)]
  grind
theorem tR{x P q R y:List ag}{a b n:Int}{u:Unit}(h:P.length=R.length)(ha:a=(x.length:Nat))(hb:b=((x.length+P.length+q.length:Nat):Int))(hn:n=(P.length:Nat)):Jq (x++(P++(q++(R++y))),a,b,n,u)=((),x++(R++(q++(P++y)))):=by
 unfold Jq;simp only;obtain⟨c1,c2,_⟩:=NL (x:=x) (u:=P) (y:=q++(R++y)) (a:=a) (b:=a+n) ha (by omega);obtain⟨_,c4,c5⟩:=NL (x:=x++(P++q)) (u:=R) (y:=y) (a:=b) (b:=b+n) (by grind) (by grind);obtain⟨_,c6,_⟩:=NL (x:=x++P) (u:=q) (y:=R++y) (a:=a+n) (b:=b) (by grind) (by grind);grind
theorem WQ{l:List ag}{a b n:Int}(h0:0≤a)(h1:0≤n)(h2:a+n≤b)(h3:b+n≤(l.length:Nat)):∃x P q R y,l=x++(P++(q++(R++y)))∧P.length=R.length∧a=(x.length:Nat)∧b=((x.length+P.length+q.length:Nat):Int)∧n=(P.length:Nat):=by
 obtain⟨d1,d2,d3⟩:=gX (l:=l) (a:=a) (b:=a+n) h0 (by omega) (by omega);obtain⟨f1,f2,f3⟩:=gX (l:=l.drop (a+n).toNat) (a:=b-(a+n)) (b:=b-(a+n)+n) (by omega) (by omega) (by grind);refine⟨_,eF l a (a+n),(l.drop (a+n).toNat).take (b-(a+n)).toNat,eF (l.drop (a+n).toNat) (b-(a+n)) (b-(a+n)+n),(l.drop (a+n).toNat).drop (b-(a+n)+n).toNat,?_,?_,d2,?_,?_⟩
 all_goals grind
theorem aeZ:∀a,Dq a=true→∃f,ai0 f a=some (Jq a):=by
 rintro⟨l,a,b,n,u⟩ h;simp only[Dq,azF,azM]at h;obtain⟨h0,h1,h2,h3,h4⟩:=h;obtain⟨x,P,q,R,y,rfl,e1,e2,e3,e4⟩:=WQ h0 h1 h2 h3;obtain⟨f,hf⟩:=ahI P R x q y a b n 0 e1 (by omega) (by omega) (by omega) h4 (by grind);exact⟨f+1,(abh f _ _ _ _ _).trans (by grind[tR])⟩
theorem ae0:∀a,Dq a=true→(Jq a).2.length=a.1.length:=by
 rintro⟨l,a,b,n,u⟩ h;simp only[Dq,azF,azM]at h;obtain⟨h0,h1,h2,h3,h4⟩:=h;obtain⟨x,P,q,R,y,rfl,e1,e2,e3,e4⟩:=WQ h0 h1 h2 h3;rw[tR e1 e2 e3 e4];grind
noncomputable def RT:dW:=⟨152,false,false,69,13,aF,[.c zI,.c zI,.c zI,.fn 62 []],[],fun l l2 a=>(Dq:(List ag)×Int×Int×Int×Unit→Bool) (l,a.1,a.2.1,a.2.2.1,a.2.2.2),fun l l2 a=>(Jq:(List ag)×Int×Int×Int×Unit→Unit×(List ag)) (l,a.1,a.2.1,a.2.2.1,a.2.2.2)⟩
theorem ac3:RT.Ok Tryz.prog:=fJ (C:=adT) (Lt:=GX) (fn:=Tryz.f152) (rs:=[]) RT Tryz.prog rfl rfl rfl mixed amw ⟨rfl,rfl⟩ (fq (by decide +kernel)) Tryz.func152 rfl rfl rfl (by decide) (by kernel_rfl) (by kernel_rfl) (by decide) fun l a hp=>⟨ae0 (l,a.1,a.2.1,a.2.2.1,a.2.2.2) hp,aeZ (l,a.1,a.2.1,a.2.2.1,a.2.2.2) hp⟩
noncomputable def Sr:cX:=zC [al5] (dE [(4,([(0,[]),(1,[]),(2,[]),(3,[]),(4,[]),(5,[]),(6,[]),(7,[]),(8,[]),(9,[]),(10,[]),(11,[]),(12,[]),(13,[]),(14,[]),(15,[]),(16,[])],[(18,34)])),(6,([(0,[]),(1,[]),(2,[]),(3,[]),(4,[]),(5,[]),(6,[]),(7,[]),(8,[]),(9,[]),(10,[]),(11,[]),(12,[]),(13,[]),(14,[]),(15,[]),(16,[]),(17,[])],[(37,52)]))]) 53
theorem amF:jh Tryz.prog [al5] [] []:=ah wj (aC)
def xw:Nat→LD:=sY 1 [(0,⟨[.list 0 500 69 13 aF,.c 1 (zI),.c 2 (zI),.fn 3 62 [],.c 8 (zI)],[],1⟩),(2,⟨[.list 0 500 69 13 aF,.c 1 (zI),.c 2 (zI),.fn 3 62 [],.c 8 (zI),.c 9 (zI)],[],1⟩)]
noncomputable def ajh(f:Nat)(a:(List ag)×Int×Int×Unit):Option (Unit×(List ag)):=aG Sr xw (cO Tryz.prog 69 13 aF [] []) f [.code (aB Tryz.f131)] (dR false 69 13 aF [.c zI,.c zI,.fn 62 []] a.1 [] (a.2.1,a.2.2.1,a.2.2.2))
noncomputable def rJ(f:Nat)(x:(List ag)×Int×Int×Unit×Int):Option (Unit×(List ag)):=aG Sr xw (cO Tryz.prog 69 13 aF [] []) f (aV Tryz.f131 0) ((xw 0).mk' x)
noncomputable def Av(f:Nat)(x:(List ag)×Int×Int×Unit×Int×Int):Option (Unit×(List ag)):=aG Sr xw (cO Tryz.prog 69 13 aF [] []) f (aV Tryz.f131 2) ((xw 2).mk' x)
theorem Lr(f:Nat)(data:List ag)(a b:Int)(cmp:Unit):ajh (f+1) (data,a,b,cmp) =
  rJ f (data,a,b,(),i64.wrap (a+1)):=by kernel_rfl
theorem tz(f:Nat)(data:List ag)(a b:Int)(cmp:Unit)(i:Int):rJ (f+1) (data,a,b,cmp,i) =
  bif decide (i<b)then Av f (data,a,b,(),i,i)else some ((),data):=by kernel_rfl
theorem tx(f:Nat)(data:List ag)(a b:Int)(cmp:Unit)(i j:Int):Av (f+1) (data,a,b,cmp,i,j) =
  bif decide (j>a)then bif decide (0≤j)&&decide (j<(↑data.length:Int))then bif decide (0≤i64.wrap (j-1))&&decide (i64.wrap (j-1)<(↑data.length:Int))then bif decide (fI (data.getD j.toNat zq1,data.getD (i64.wrap (j-1)).toNat zq1)<0)then bif decide (0≤i64.wrap (j-1))&&decide (i64.wrap (j-1)<(↑data.length:Int))then bif decide (0≤j)&&decide (j<(↑data.length:Int))then bif decide (0≤j)&&decide (j<(↑data.length:Int))then bif decide (0≤i64.wrap (j-1))&&decide (i64.wrap (j-1)<(↑(data.set j.toNat (data.getD (i64.wrap (j-1)).toNat zq1)).length:Int))then Av f ((data.set j.toNat (data.getD (i64.wrap (j-1)).toNat zq1)).set (i64.wrap (j-1)).toNat (data.getD j.toNat zq1),a,b,(),i,i64.wrap (j-1))else none else none else none else none else rJ f (data,a,b,(),i64.wrap (i+1))else none else none else rJ f (data,a,b,(),i64.wrap (i+1)):=by kernel_rfl
theorem ah6:∀(n:Nat) (s x t y:List ag) (e:ag) (a b i:Int) (G:List ag→Prop) (K:Unit×List ag),s.length=n→dD cj (s++t)→(∀z∈t,cj e z=true)→a=(x.length:Nat)→(x++(s++(e::(t++y)))).length≤1099511627776→
  (∃f,rJ f (x++(cA cj e (s++t)++y),a,b,(),i64.wrap (i+1))=some K)→∃f,Av f (x++(s++(e::(t++y))),a,b,(),i,((x.length+s.length:Nat):Int))=some K
 | 0,s,x,t,y,e,a,b,i,_,K,hn,hs,ht,ha,hl,⟨f,hf⟩=>by
  obtain rfl:=aAf hn;refine⟨f+1,(tx f _ _ _ _ _ _).trans ?_⟩;rw[azK (show ¬ (((x.length+([]:List ag).length:Nat):Int)>a)by simp;omega),azI];have e1:cA cj e ([]++t)=e::t:=by
   cases t with
   | nil=>rfl
   | cons z t=>simp only[aAs,cA,ht z (az1 ..),azH]
  grind
 | n+1,s,x,t,y,e,a,b,i,_,K,hn,hs,ht,ha,hl,hf=>by
  obtain⟨s,p,rfl⟩:∃s' p,s=s'++[p]:=⟨s.dropLast,s.getLast (by grind),(aBV _).symm⟩;have L4:s.length=n:=by grind
  simp only[azG,azL]at hl;have hJ:((x.length+(s++[p]).length:Nat):Int)=(((x++s).length+1+([]:List ag).length:Nat):Int):=by simp;omega
  have hJ1:i64.wrap (((x.length+(s++[p]).length:Nat):Int)-1)=(((x++s).length:Nat):Int):=by
   rw[az (by simp;omega) (by simp;omega)];grind
  have eD:x++(s++[p]++(e::(t++y)))=(x++s)++p::([]++e::(t++y)):=by simp
  have g1:=jN (x:=x++s) (q:=[]) (r:=p) (y:=[]++e::(t++y)) (p:=p) (z:=zE) rfl;have g2:=lC (x:=x++s) (q:=[]) (y:=t++y) (p:=p) (r:=e) (z:=zE) rfl;simp only[zE]at g1 g2;have hL:(((x++s)++p::([]++e::(t++y))).length:Nat)=x.length+s.length+2+t.length+y.length:=by simp;omega
  have d1:decide ((((x++s).length:Nat):Int)<((((x++s)++p::([]++e::(t++y))).length:Nat):Int))=true:=azC (by grind);have d2:decide ((((x++s).length+1+([]:List ag).length:Nat):Int)<((((x++s)++p::([]++e::(t++y))).length:Nat):Int))=true:=azC (by grind);have Dw:decide ((((x++s).length+1+([]:List ag).length:Nat):Int)>a)=true:=azC (by grind);have F2:dD cj (s++(p::t)):=by grind
  cases hc:cj e p
  ·
   obtain⟨f,hf⟩:=hf;refine⟨f+1,(tx f _ _ _ _ _ _).trans ?_⟩;rw[hJ1,eD,hJ];have xO:decide (fI (e,p)<0)=false:=hc;simp only[aAn,g1,g2,d1,d2,fW,Dw,xO,azQ,azH,azI];have e1:cA cj e (s++[p]++t)=s++[p]++(e::t):=by
    have hp:∀z∈s++[p],cj e z=false:=fun z hz=>by
     rcases aAp.1 hz with hz | hz
     ·exact gE.ntrans z p e ((aAI.1 F2).2.2 z hz p (az1 ..)) hc
     grind
    cases t with
    | nil=>rw[aAc,gL gE hp]
    | cons z t=>
     rw[mu gE (s:=s++[p]) ?_ (ht z (az1 ..)),gL gE hp]
     ·simp
     ·have:(s++[p]++[z]).Sublist (s++[p]++z::t):=aCo (by simp) _
      exact hs.sublist this
   grind
  ·obtain⟨f,hf⟩:=ah6 n s x (p::t) y e a b i (fun _=>True) K L4 F2 (fun z hz=>by
    grind) ha (by simp only[azG,azL];omega) (by simp_all)
   refine⟨f+1,(tx f _ _ _ _ _ _).trans ?_⟩;rw[hJ1,eD,hJ];have xO:decide (fI (e,p)<0)=true:=hc;have s2:=tU (x:=x++s) (q:=[]) (y:=t++y) (p:=p) (r:=e) rfl rfl;simp only[aAn,g1,g2,s2,d1,d2,fW,Dw,xO,azQ,azH,azX];grind
theorem ah7:∀(r s x y:List ag) (a b:Int),a=(x.length:Nat)→b=((x.length+s.length+r.length:Nat):Int)→dD cj s→(x++(s++(r++y))).length≤1099511627776→
  ∃f,rJ f (x++(s++(r++y)),a,b,(),((x.length+s.length:Nat):Int))=some ((),x++(r.foldl (fun s x=>cA cj x s) s++y))
 | [],s,x,y,a,b,ha,hb,hs,hl=>⟨1,(tz 0 _ _ _ _ _).trans (by grind)⟩
 | e::r,s,x,y,a,b,ha,hb,hs,hl=>by
  simp only[azL,azG]at hb hl;have hle:=oJ (lt:=cj) e s;obtain⟨f,hf⟩:=ah7 r (cA cj e s) x y a b ha (by omega) (kP gE hs) (by grind);have e1:i64.wrap (((x.length+s.length:Nat):Int)+1)=((x.length+(cA cj e s).length:Nat):Int):=by grind[az]
  obtain⟨g,hg⟩:=ah6 s.length s x [] (r++y) e a b ((x.length+s.length:Nat):Int) (fun _=>True) _ rfl (by grind) (fun z hz=>by cases hz) ha (by grind) ⟨f,by rw[e1,aAc];exact hf⟩;refine⟨g+1,(tz g _ _ _ _ _).trans ?_⟩;grind
theorem af9:∀a,(fun a:List ag×Int×Int×Unit=>gB a.1 a.2.1 a.2.2.1) a=true→∃f,ajh f a=some (sZ a):=by
 rintro⟨l,a,b,u⟩ h;have h:gB l a b=true:=h;obtain⟨h0,h1,h2,h3⟩:=eY.1 h;obtain⟨e1,e2,e3⟩:=gX h0 h1 h2;generalize l.take a.toNat=x at e1 e2 e3;generalize eF l a b=s at e1 e2 e3;generalize l.drop b.toNat=y at e1;subst e1;cases s with
 | nil=>
  refine⟨2,(Lr 1 _ _ _ _).trans ?_⟩;have hw:i64.wrap (a+1)=a+1:=az (by omega) (by grind);refine(tz 0 _ _ _ _ _).trans ?_;rw[hw,azK (by grind),iq e2 e3];rfl
 | cons e s=>
  simp only[azG,azL]at h3 e3;obtain⟨f,hf⟩:=ah7 s [e] x y a b e2 (by grind) (by simp[dD]) (by grind);have hw:i64.wrap (a+1)=((x.length+[e].length:Nat):Int):=by grind[az]
  refine⟨f+1,(Lr f _ _ _ _).trans ?_⟩;rw[hw,iq e2 (by grind)];exact hf
theorem aga:∀a,(fun a:List ag×Int×Int×Unit=>gB a.1 a.2.1 a.2.2.1) a=true→(sZ a).2.length=a.1.length:=by
 rintro⟨l,a,b,u⟩ h;have h:gB l a b=true:=h;obtain⟨h0,h1,h2,h3⟩:=eY.1 h;obtain⟨e1,e2,e3⟩:=gX h0 h1 h2;simp only[sZ,azG,bh];grind
noncomputable def Sb:dW:=⟨131,false,false,69,13,aF,[.c zI,.c zI,.fn 62 []],[],fun l l2 a=>(fun a=>gB a.1 a.2.1 a.2.2.1:(List ag)×Int×Int×Unit→Bool) (l,a.1,a.2.1,a.2.2),fun l l2 a=>(sZ:(List ag)×Int×Int×Unit→Unit×(List ag)) (l,a.1,a.2.1,a.2.2)⟩
theorem adB:Sb.Ok Tryz.prog:=fJ (C:=Sr) (Lt:=xw) (fn:=Tryz.f131) (rs:=[]) Sb Tryz.prog rfl rfl rfl mixed amF ⟨rfl,rfl⟩ (fq (by decide +kernel)) Tryz.func131 rfl rfl rfl (by decide) (by kernel_rfl) (by kernel_rfl) (by decide) fun l a hp=>⟨aga (l,a.1,a.2.1,a.2.2) hp,af9 (l,a.1,a.2.1,a.2.2) hp⟩
noncomputable def ad0:cX:=⟨Tryz.prog,[],dE [],58,[RT],[],[],[]⟩
theorem amB:jh Tryz.prog [] [RT] []:=gu ac3 (aC)
def GZ:Nat→LD:=sY 1 [(0,⟨[.list 0 500 69 13 aF,.c 2 (zI),.fn 4 62 [],.c 10 (zI),.c 11 (zI)],[],1⟩)]
noncomputable def ai6(f:Nat)(a:(List ag)×Int×Int×Int×Unit):Option (Unit×(List ag)):=aG ad0 GZ (cO Tryz.prog 69 13 aF [] []) f [.code (aB Tryz.f148)] (dR false 69 13 aF [.c zI,.c zI,.c zI,.fn 62 []] a.1 [] (a.2.1,a.2.2.1,a.2.2.2.1,a.2.2.2.2))
noncomputable def vN(f:Nat)(x:(List ag)×Int×Unit×Int×Int):Option (Unit×(List ag)):=aG ad0 GZ (cO Tryz.prog 69 13 aF [] []) f (aV Tryz.f148 0) ((GZ 0).mk' x)
theorem abx(f:Nat)(data:List ag)(a m b:Int)(cmp:Unit):ai6 (f+1) (data,a,m,b,cmp) =
  vN f (data,m,(),i64.wrap (m-a),i64.wrap (b-m)):=by kernel_rfl
theorem tu(f:Nat)(data:List ag)(m:Int)(cmp:Unit)(i j:Int):vN (f+1) (data,m,cmp,i,j) =
  bif i != j then bif decide (i>j)then bif Dq (data,i64.wrap (m-i),m,j,())then vN f ((Jq (data,i64.wrap (m-i),m,j,())).2,m,(),i64.wrap (i-j),j)else none else bif Dq (data,i64.wrap (m-i),i64.wrap (i64.wrap (m+j)-i),i,())then vN f ((Jq (data,i64.wrap (m-i),i64.wrap (i64.wrap (m+j)-i),i,())).2,m,(),i,i64.wrap (j-i))else none else bif Dq (data,i64.wrap (m-i),m,i,())then some ((),(Jq (data,i64.wrap (m-i),m,i,())).2)else none:=by kernel_rfl
theorem aoW:∀(k:Nat) (L R x y:List ag) (m i j:Int),L.length+R.length=k→0<L.length→0<R.length→i=(L.length:Nat)→j=(R.length:Nat)→m=((x.length+L.length:Nat):Int)→(x++(L++(R++y))).length≤1099511627776→
  ∃f,vN f (x++(L++(R++y)),m,(),i,j)=some ((),x++(R++(L++y))):=by
 intro k;induction k using Nat.strongRecOn with
 | _ k ih=>
 intro L R x y m i j hk hL hR hi hj hm hl;simp only[azG]at hl;have w1:i64.wrap (m-i)=m-i:=az (by omega) (by omega);have w2:i64.wrap (m+j)=m+j:=az (by omega) (by omega);have w3:i64.wrap (m+j-i)=m+j-i:=az (by omega) (by omega);have w4:i64.wrap (i-j)=i-j:=az (by omega) (by omega);have w5:i64.wrap (j-i)=j-i:=az (by omega) (by omega);have hp:∀a b n:Int,0≤a→0≤n→a+n≤b→b+n≤((x++(L++(R++y))).length:Nat)→Dq (x++(L++(R++y)),a,b,n,())=true:=fun a b n q1 q2 q3 q4=>by
  simp only[Dq,azF,azM];grind
 by_cases hij:i=j
 ·refine⟨1,(tu 0 _ _ _ _ _).trans ?_⟩
  have e:=tR (x:=x) (P:=L) (q:=[]) (R:=R) (y:=y) (a:=m-i) (b:=m) (n:=i) (u:=()) (by omega) (by omega) (by simp;omega) hi;rw[aAs,aAs]at e;have eb:(i != j)=false:=by grind
  rw[eb,w1,hp (m-i) m i (by omega) (by omega) (by omega) (by grind),e];rfl
 have eb:(i != j)=true:=by grind
 by_cases Dw:i>j
 ·obtain⟨L1,L2,rfl,h1⟩:∃L1 L2,L=L1++L2∧L1.length=R.length:=⟨L.take R.length,L.drop R.length,(aAT _ _).symm,by rw[az5];omega⟩
  simp only[azG]at hk hL hi hm hl;obtain⟨f,hf⟩:=ih (L2.length+L1.length) (by omega) L2 L1 (x++R) y m (i-j) j rfl (by omega) (by omega) (by omega) (by omega) (by grind) (by simp only[azG];omega);refine⟨f+1,(tu f _ _ _ _ _).trans ?_⟩;have e:=tR (x:=x) (P:=L1) (q:=L2) (R:=R) (y:=y) (a:=m-i) (b:=m) (n:=j) (u:=()) h1 (by omega) (by omega) (by omega);rw[eb,azC Dw,w1,hp (m-i) m j (by omega) (by omega) (by omega) (by simp only[azG];omega),w4];grind
 ·obtain⟨R1,R2,rfl,h1⟩:∃R1 R2,R=R1++R2∧R2.length=L.length:=⟨R.take (R.length-L.length),R.drop (R.length-L.length),(aAT _ _).symm,by rw[aAe];omega⟩
  simp only[azG]at hk hR hj hl;obtain⟨f,hf⟩:=ih (R2.length+R1.length) (by omega) R2 R1 x (L++y) m i (j-i) rfl (by omega) (by omega) (by omega) (by omega) (by omega) (by simp only[azG];omega);refine⟨f+1,(tu f _ _ _ _ _).trans ?_⟩;have e:=tR (x:=x) (P:=L) (q:=R1) (R:=R2) (y:=y) (a:=m-i) (b:=m+j-i) (n:=i) (u:=()) h1.symm (by omega) (by omega) hi;rw[eb,azK Dw,w1,w2,w3,hp (m-i) (m+j-i) i (by omega) (by omega) (by omega) (by simp only[azG];omega),w5];grind
theorem afr:∀a,(fun a:List ag×Int×Int×Int×Unit=>yG a.1 a.2.1 a.2.2.1 a.2.2.2.1) a=true→∃f,ai6 f a=some (ag2 a):=by
 rintro⟨l,a,m,b,u⟩ h;have h:yG l a m b=true:=h;obtain⟨h0,h1,h2,h3,h4⟩:=kT.1 h;obtain⟨x,L,R,y,rfl,e1,e2,e3⟩:=zB h0 (aAV h1) (aAV h2) h3;have hl:=h4;simp only[azG]at hl;have w1:i64.wrap (m-a)=m-a:=az (by omega) (by omega);have w2:i64.wrap (b-m)=b-m:=az (by omega) (by omega);obtain⟨f,hf⟩:=aoW _ L R x y m (m-a) (b-m) rfl (by omega) (by omega) (by omega) (by omega) e2 h4;exact⟨f+1,(abx f _ _ _ _ _).trans (by grind[A6])⟩
theorem afs:∀a,(fun a:List ag×Int×Int×Int×Unit=>yG a.1 a.2.1 a.2.2.1 a.2.2.2.1) a=true→(ag2 a).2.length=a.1.length:=by
 rintro⟨l,a,m,b,u⟩ h;have h:yG l a m b=true:=h;obtain⟨h0,h1,h2,h3,h4⟩:=kT.1 h;obtain⟨x,L,R,y,rfl,e1,e2,e3⟩:=zB h0 (aAV h1) (aAV h2) h3;rw[A6 e1 e2 e3];grind
noncomputable def R5:dW:=⟨148,false,false,69,13,aF,[.c zI,.c zI,.c zI,.fn 62 []],[],fun l l2 a=>(fun a=>yG a.1 a.2.1 a.2.2.1 a.2.2.2.1:(List ag)×Int×Int×Int×Unit→Bool) (l,a.1,a.2.1,a.2.2.1,a.2.2.2),fun l l2 a=>(ag2:(List ag)×Int×Int×Int×Unit→Unit×(List ag)) (l,a.1,a.2.1,a.2.2.1,a.2.2.2)⟩
theorem adg:R5.Ok Tryz.prog:=fJ (C:=ad0) (Lt:=GZ) (fn:=Tryz.f148) (rs:=[]) R5 Tryz.prog rfl rfl rfl mixed amB ⟨rfl,rfl⟩ (fq (by decide +kernel)) Tryz.func148 rfl rfl rfl (by decide) (by kernel_rfl) (by kernel_rfl) (by decide) fun l a hp=>⟨afs (l,a.1,a.2.1,a.2.2.1,a.2.2.2) hp,afr (l,a.1,a.2.1,a.2.2.1,a.2.2.2) hp⟩
