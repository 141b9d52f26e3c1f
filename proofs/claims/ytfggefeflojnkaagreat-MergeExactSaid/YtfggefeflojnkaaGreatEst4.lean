/- AI. -/
import Derived.Test.YtfggefeflojnkaaGreatEg2
import Derived.Test.YtfggefeflojnkaaGreatAxStable
set_option linter.unusedVariables false
open Go.IntKind (i64 u64)
namespace Go.AL
open Go.Proofs
noncomputable def aeo:cX:=zC [OO] (dE []) 12
noncomputable def ace(f:Nat)(a:ag×ag):Option Int:=aG aeo (eO []) (zK [.tmp 4] [.v zI]) f [.code (aB Tryz.f95)] (aQ [.g aF,.g aF] a)
theorem Vk(f:Nat)(a b:ag):ace (f+1) (a,b) =
  some (xW ((a.2.2.1,a.2.2.2.1,a.2.2.2.2.1),b.2.2.1,b.2.2.2.1,b.2.2.2.2.1)):=by kernel_rfl
noncomputable def acX:(ag×ag)→Int
 | (a,b)=>xW ((a.2.2.1,a.2.2.2.1,a.2.2.2.2.1),b.2.2.1,b.2.2.2.1,b.2.2.2.2.1)
noncomputable def aba:(ag×ag)→Bool
 | (a,b)=>true
theorem Um:∀a:ag×ag,de (fun f=>ace f a) (aba a) (acX a)
 | (a,b)=>ai (fun f=>Vk f _ _) ae
def ja(e:ag):aj:=(e.2.2.1,e.2.2.2.1,e.2.2.2.2.1)
def fI(a:ag×ag):Int:=xW (ja a.1,ja a.2)
noncomputable def tG:dn:=⟨95,[.g aF,.g aF],[.v zI],fun _=>true,fI⟩
theorem xB:zO tG:=fl aeo (eO []) [.tmp 4] mixed (ah E4 (aC)) Tryz.func95 (bp Um (fun _ _=>rfl) (fun _ _=>rfl))
def cj(a b:ag):Bool:=decide (fI (a,b)<0)
theorem P0(a b:ag):cj a b=true↔(ja a).1<(ja b).1∨((ja a).1=(ja b).1∧((ja a).2.1<(ja b).2.1∨((ja a).2.1=(ja b).2.1∧(ja a).2.2<(ja b).2.2))):=by
 grind[cj,fI,xW,tc,ja]
theorem gE:qt cj:=by
 have F:∀a b,cj a b=false↔¬ (cj a b=true):=fun a b=>by cases cj a b<;>simp
 refine⟨fun a b h=>?_,fun a b c h1 h2=>?_⟩
 all_goals grind[P0]
def zE:ag:=zq1
def eF{α:Type}(l:List α)(i j:Int):List α:=(l.drop i.toNat).take (j-i).toNat
theorem NL{α:Type}{x u y:List α}{a b:Int}(ha:a=(x.length:Nat))(hb:b=((x.length+u.length:Nat):Int)):(x++(u++y)).take a.toNat=x∧eF (x++(u++y)) a b=u∧(x++(u++y)).drop b.toNat=y:=by
 subst ha hb;refine⟨by simp,?_,?_⟩
 ·unfold eF
  rw[aAn,List.drop_left,show(((x.length+u.length:Nat):Int)-(x.length:Nat)).toNat=u.length by omega,List.take_left]
 ·rw[aAn,← aAB,← azG,List.drop_left]
theorem gX{α:Type}{l:List α}{a b:Int}(h0:0≤a)(h1:a≤b)(h2:b≤(l.length:Nat)):l=l.take a.toNat++(eF l a b++l.drop b.toNat)∧a=((l.take a.toNat).length:Nat)∧b=(((l.take a.toNat).length+(eF l a b).length:Nat):Int):=by
 have e1:(l.take a.toNat).length=a.toNat:=by grind
 have e2:(eF l a b).length=(b-a).toNat:=by unfold eF;grind
 refine⟨?_,by omega,by omega⟩;unfold eF;have:l.drop b.toNat=(l.drop a.toNat).drop (b-a).toNat:=by rw[aBE];grind
 rw[this,aAT,aAT]
def sZ(a:List ag×Int×Int×Unit):Unit×List ag:=((),a.1.take a.2.1.toNat++(ca cj (eF a.1 a.2.1 a.2.2.1)++a.1.drop a.2.2.1.toNat))
def gB{α:Type}(l:List α)(a b:Int):Bool:=decide (0≤a)&&(decide (a≤b)&&(decide (b≤(l.length:Nat))&&decide (l.length≤1099511627776)))
theorem eY{α:Type}{l:List α}{a b:Int}:gB l a b=true↔0≤a∧a≤b∧b≤(l.length:Nat)∧l.length≤1099511627776:=by simp[gB]
def Jq(a:List ag×Int×Int×Int×Unit):Unit×List ag:=((),a.1.take a.2.1.toNat++(eF a.1 a.2.2.1 (a.2.2.1+a.2.2.2.1)++(eF a.1 (a.2.1+a.2.2.2.1) a.2.2.1++(eF a.1 a.2.1 (a.2.1+a.2.2.2.1)++a.1.drop (a.2.2.1+a.2.2.2.1).toNat))))
def Dq(a:List ag×Int×Int×Int×Unit):Bool:=decide (0≤a.2.1)&&(decide (0≤a.2.2.2.1)&&(decide (a.2.1+a.2.2.2.1≤a.2.2.1)&&(decide (a.2.2.1+a.2.2.2.1≤(a.1.length:Nat))&&decide (a.1.length≤1099511627776))))
noncomputable def Sq:cX:=zC [tG] (dE [(4,([(0,[]),(1,[]),(2,[]),(3,[]),(4,[]),(5,[]),(6,[]),(7,[]),(8,[]),(9,[]),(10,[]),(11,[]),(12,[]),(13,[]),(14,[]),(15,[]),(16,[])],[(18,34)])),(6,([(0,[]),(1,[]),(2,[]),(3,[]),(4,[]),(5,[]),(6,[]),(7,[]),(8,[]),(9,[]),(10,[]),(11,[]),(12,[]),(13,[]),(14,[]),(15,[]),(16,[]),(17,[])],[(37,52)]))]) 53
theorem amE:jh Tryz.prog [tG] [] []:=ah xB (aC)
def xv:Nat→LD:=sY 1 [(0,⟨[.list 0 500 69 13 aF,.c 1 (zI),.c 2 (zI),.fn 3 95 [],.c 8 (zI)],[],1⟩),(2,⟨[.list 0 500 69 13 aF,.c 1 (zI),.c 2 (zI),.fn 3 95 [],.c 8 (zI),.c 9 (zI)],[],1⟩)]
noncomputable def ajg(f:Nat)(a:(List ag)×Int×Int×Unit):Option (Unit×(List ag)):=aG Sq xv (cO Tryz.prog 69 13 aF [] []) f [.code (aB Tryz.f131)] (dR false 69 13 aF [.c zI,.c zI,.fn 95 []] a.1 [] (a.2.1,a.2.2.1,a.2.2.2))
noncomputable def rI(f:Nat)(x:(List ag)×Int×Int×Unit×Int):Option (Unit×(List ag)):=aG Sq xv (cO Tryz.prog 69 13 aF [] []) f (aV Tryz.f131 0) ((xv 0).mk' x)
noncomputable def Au(f:Nat)(x:(List ag)×Int×Int×Unit×Int×Int):Option (Unit×(List ag)):=aG Sq xv (cO Tryz.prog 69 13 aF [] []) f (aV Tryz.f131 2) ((xv 2).mk' x)
theorem Lq(f:Nat)(data:List ag)(a b:Int)(cmp:Unit):ajg (f+1) (data,a,b,cmp) =
  rI f (data,a,b,(),i64.wrap (a+1)):=by kernel_rfl
theorem tw(f:Nat)(data:List ag)(a b:Int)(cmp:Unit)(i:Int):rI (f+1) (data,a,b,cmp,i) =
  bif decide (i<b)then Au f (data,a,b,(),i,i)else some ((),data):=by kernel_rfl
theorem tv(f:Nat)(data:List ag)(a b:Int)(cmp:Unit)(i j:Int):Au (f+1) (data,a,b,cmp,i,j) =
  bif decide (j>a)then bif decide (0≤j)&&decide (j<(↑data.length:Int))then bif decide (0≤i64.wrap (j-1))&&decide (i64.wrap (j-1)<(↑data.length:Int))then bif decide (fI (data.getD j.toNat zq1,data.getD (i64.wrap (j-1)).toNat zq1)<0)then bif decide (0≤i64.wrap (j-1))&&decide (i64.wrap (j-1)<(↑data.length:Int))then bif decide (0≤j)&&decide (j<(↑data.length:Int))then bif decide (0≤j)&&decide (j<(↑data.length:Int))then bif decide (0≤i64.wrap (j-1))&&decide (i64.wrap (j-1)<(↑(data.set j.toNat (data.getD (i64.wrap (j-1)).toNat zq1)).length:Int))then Au f ((data.set j.toNat (data.getD (i64.wrap (j-1)).toNat zq1)).set (i64.wrap (j-1)).toNat (data.getD j.toNat zq1),a,b,(),i,i64.wrap (j-1))else none else none else none else none else rI f (data,a,b,(),i64.wrap (i+1))else none else none else rI f (data,a,b,(),i64.wrap (i+1)):=by kernel_rfl
theorem gL{α:Type}{lt:α→α→Bool}(O:qt lt){x:α}:∀{s:List α},(∀y∈s,lt x y=false)→cA lt x s=s++[x]
 | [],_=>rfl
 | y::s,h=>by
  have h1:=h y (az1 ..);simp only[cA,h1,azI,gL O (fun z hz=>h z (az6 _ hz)),aAS]
theorem mu{α:Type}{lt:α→α→Bool}(O:qt lt){x y:α}:∀{s t:List α},dD lt (s++[y])→lt x y=true→cA lt x (s++y::t)=cA lt x s++y::t
 | [],t,_,h=>by simp[cA,h]
 | z::s,t,hs,h=>by
  simp only[aAS,cA];cases lt x z
  ·simp only[azI,aAS,mu O (aAq.1 hs).2 h]
  ·rfl
theorem ah4:∀(n:Nat) (s x t y:List ag) (e:ag) (a b i:Int) (G:List ag→Prop) (K:Unit×List ag),s.length=n→dD cj (s++t)→(∀z∈t,cj e z=true)→a=(x.length:Nat)→(x++(s++(e::(t++y)))).length≤1099511627776→
  (∃f,rI f (x++(cA cj e (s++t)++y),a,b,(),i64.wrap (i+1))=some K)→∃f,Au f (x++(s++(e::(t++y))),a,b,(),i,((x.length+s.length:Nat):Int))=some K
 | 0,s,x,t,y,e,a,b,i,_,K,hn,hs,ht,ha,hl,⟨f,hf⟩=>by
  obtain rfl:=aAf hn;refine⟨f+1,(tv f _ _ _ _ _ _).trans ?_⟩;rw[azK (show ¬ (((x.length+([]:List ag).length:Nat):Int)>a)by simp;omega),azI];have e1:cA cj e ([]++t)=e::t:=by
   cases t with
   | nil=>rfl
   | cons z t=>simp only[aAs,cA,ht z (az1 ..),azH]
  grind
 | n+1,s,x,t,y,e,a,b,i,_,K,hn,hs,ht,ha,hl,hf=>by
  obtain⟨s,p,rfl⟩:∃s' p,s=s'++[p]:=⟨s.dropLast,s.getLast (by grind),(aBV _).symm⟩;have L4:s.length=n:=by grind
  simp only[azG,azL]at hl;have hJ:((x.length+(s++[p]).length:Nat):Int)=(((x++s).length+1+([]:List ag).length:Nat):Int):=by simp;omega
  have hJ1:i64.wrap (((x.length+(s++[p]).length:Nat):Int)-1)=(((x++s).length:Nat):Int):=by
   rw[az (by simp;omega) (by simp;omega)];grind
  have eD:x++(s++[p]++(e::(t++y)))=(x++s)++p::([]++e::(t++y)):=by simp
  have g1:=jN (x:=x++s) (q:=[]) (r:=p) (y:=[]++e::(t++y)) (p:=p) (z:=zE) rfl;have g2:=lC (x:=x++s) (q:=[]) (y:=t++y) (p:=p) (r:=e) (z:=zE) rfl;simp only[zE]at g1 g2;have hL:(((x++s)++p::([]++e::(t++y))).length:Nat)=x.length+s.length+2+t.length+y.length:=by simp;omega
  have d1:decide ((((x++s).length:Nat):Int)<((((x++s)++p::([]++e::(t++y))).length:Nat):Int))=true:=azC (by grind);have d2:decide ((((x++s).length+1+([]:List ag).length:Nat):Int)<((((x++s)++p::([]++e::(t++y))).length:Nat):Int))=true:=azC (by grind);have Dw:decide ((((x++s).length+1+([]:List ag).length:Nat):Int)>a)=true:=azC (by grind);have F2:dD cj (s++(p::t)):=by grind
  cases hc:cj e p
  ·
   obtain⟨f,hf⟩:=hf;refine⟨f+1,(tv f _ _ _ _ _ _).trans ?_⟩;rw[hJ1,eD,hJ];have xO:decide (fI (e,p)<0)=false:=hc;simp only[aAn,g1,g2,d1,d2,fW,Dw,xO,azQ,azH,azI];have e1:cA cj e (s++[p]++t)=s++[p]++(e::t):=by
    have hp:∀z∈s++[p],cj e z=false:=fun z hz=>by
     rcases aAp.1 hz with hz | hz
     ·exact gE.ntrans z p e ((aAI.1 F2).2.2 z hz p (az1 ..)) hc
     grind
    cases t with
    | nil=>rw[aAc,gL gE hp]
    | cons z t=>
     rw[mu gE (s:=s++[p]) ?_ (ht z (az1 ..)),gL gE hp]
     ·simp
     ·have:(s++[p]++[z]).Sublist (s++[p]++z::t):=aCo (by simp) _
      exact hs.sublist this
   grind
  ·obtain⟨f,hf⟩:=ah4 n s x (p::t) y e a b i (fun _=>True) K L4 F2 (fun z hz=>by
    grind) ha (by simp only[azG,azL];omega) (by simp_all)
   refine⟨f+1,(tv f _ _ _ _ _ _).trans ?_⟩;rw[hJ1,eD,hJ];have xO:decide (fI (e,p)<0)=true:=hc;have s2:=tU (x:=x++s) (q:=[]) (y:=t++y) (p:=p) (r:=e) rfl rfl;simp only[aAn,g1,g2,s2,d1,d2,fW,Dw,xO,azQ,azH,azX];grind
theorem ah5:∀(r s x y:List ag) (a b:Int),a=(x.length:Nat)→b=((x.length+s.length+r.length:Nat):Int)→dD cj s→(x++(s++(r++y))).length≤1099511627776→
  ∃f,rI f (x++(s++(r++y)),a,b,(),((x.length+s.length:Nat):Int))=some ((),x++(r.foldl (fun s x=>cA cj x s) s++y))
 | [],s,x,y,a,b,ha,hb,hs,hl=>⟨1,(tw 0 _ _ _ _ _).trans (by grind)⟩
 | e::r,s,x,y,a,b,ha,hb,hs,hl=>by
  simp only[azL,azG]at hb hl;have hle:=oJ (lt:=cj) e s;obtain⟨f,hf⟩:=ah5 r (cA cj e s) x y a b ha (by omega) (kP gE hs) (by grind);have e1:i64.wrap (((x.length+s.length:Nat):Int)+1)=((x.length+(cA cj e s).length:Nat):Int):=by grind[az]
  obtain⟨g,hg⟩:=ah4 s.length s x [] (r++y) e a b ((x.length+s.length:Nat):Int) (fun _=>True) _ rfl (by grind) (fun z hz=>by cases hz) ha (by grind) ⟨f,by rw[e1,aAc];exact hf⟩;refine⟨g+1,(tw g _ _ _ _ _).trans ?_⟩;grind
theorem iq{x s y:List ag}{a b:Int}{u:Unit}(ha:a=(x.length:Nat))(hb:b=((x.length+s.length:Nat):Int)):sZ (x++(s++y),a,b,u)=((),x++(ca cj s++y)):=by
 obtain⟨c1,c2,c3⟩:=NL (x:=x) (u:=s) (y:=y) ha hb;simp only[sZ,c1,c2,c3]
theorem af7:∀a,(fun a:List ag×Int×Int×Unit=>gB a.1 a.2.1 a.2.2.1) a=true→∃f,ajg f a=some (sZ a):=by
 rintro⟨l,a,b,u⟩ h;have h:gB l a b=true:=h;obtain⟨h0,h1,h2,h3⟩:=eY.1 h;obtain⟨e1,e2,e3⟩:=gX h0 h1 h2;generalize l.take a.toNat=x at e1 e2 e3;generalize eF l a b=s at e1 e2 e3;generalize l.drop b.toNat=y at e1;subst e1;cases s with
 | nil=>
  refine⟨2,(Lq 1 _ _ _ _).trans ?_⟩;have hw:i64.wrap (a+1)=a+1:=az (by omega) (by grind);refine(tw 0 _ _ _ _ _).trans ?_;rw[hw,azK (by grind),iq e2 e3];rfl
 | cons e s=>
  simp only[azG,azL]at h3 e3;obtain⟨f,hf⟩:=ah5 s [e] x y a b e2 (by grind) (by simp[dD]) (by grind);have hw:i64.wrap (a+1)=((x.length+[e].length:Nat):Int):=by grind[az]
  refine⟨f+1,(Lq f _ _ _ _).trans ?_⟩;rw[hw,iq e2 (by grind)];exact hf
theorem af8:∀a,(fun a:List ag×Int×Int×Unit=>gB a.1 a.2.1 a.2.2.1) a=true→(sZ a).2.length=a.1.length:=by
 rintro⟨l,a,b,u⟩ h;have h:gB l a b=true:=h;obtain⟨h0,h1,h2,h3⟩:=eY.1 h;obtain⟨e1,e2,e3⟩:=gX h0 h1 h2;simp only[sZ,azG,bh];grind
noncomputable def Sa:dW:=⟨131,false,false,69,13,aF,[.c zI,.c zI,.fn 95 []],[],fun l l2 a=>(fun a=>gB a.1 a.2.1 a.2.2.1:(List ag)×Int×Int×Unit→Bool) (l,a.1,a.2.1,a.2.2),fun l l2 a=>(sZ:(List ag)×Int×Int×Unit→Unit×(List ag)) (l,a.1,a.2.1,a.2.2)⟩
theorem adA:Sa.Ok Tryz.prog:=fJ (C:=Sq) (Lt:=xv) (fn:=Tryz.f131) (rs:=[]) Sa Tryz.prog rfl rfl rfl mixed amE ⟨rfl,rfl⟩ (fq (by decide +kernel)) Tryz.func131 rfl rfl rfl (by decide) (by kernel_rfl) (by kernel_rfl) (by decide) fun l a hp=>⟨af8 (l,a.1,a.2.1,a.2.2) hp,af7 (l,a.1,a.2.1,a.2.2) hp⟩
def ag2(a:List ag×Int×Int×Int×Unit):Unit×List ag:=((),a.1.take a.2.1.toNat++(eF a.1 a.2.2.1 a.2.2.2.1++(eF a.1 a.2.1 a.2.2.1++a.1.drop a.2.2.2.1.toNat)))
def yG{α:Type}(l:List α)(a m b:Int):Bool:=decide (0≤a)&&(decide (a<m)&&(decide (m<b)&&(decide (b≤(l.length:Nat))&&decide (l.length≤1099511627776))))
theorem kT{α:Type}{l:List α}{a m b:Int}:yG l a m b=true↔0≤a∧a<m∧m<b∧b≤(l.length:Nat)∧l.length≤1099511627776:=by simp[yG]
theorem ag4{α:Type}{x u v y:List α}{a m b:Int}(ha:a=(x.length:Nat))(hm:m=((x.length+u.length:Nat):Int))(hb:b=((x.length+u.length+v.length:Nat):Int)):
  (x++(u++(v++y))).take a.toNat=x∧eF (x++(u++(v++y))) a m=u∧eF (x++(u++(v++y))) m b=v∧(x++(u++(v++y))).drop b.toNat=y:=by
 obtain⟨c1,c2,_⟩:=NL (x:=x) (u:=u) (y:=v++y) ha hm;obtain⟨_,c4,c5⟩:=NL (x:=x++u) (u:=v) (y:=y) (a:=m) (b:=b) (by grind) (by grind);grind
theorem zB{α:Type}{l:List α}{a m b:Int}(h0:0≤a)(h1:a≤m)(h2:m≤b)(h3:b≤(l.length:Nat)):∃x u v y,l=x++(u++(v++y))∧a=(x.length:Nat)∧m=((x.length+u.length:Nat):Int)∧b=((x.length+u.length+v.length:Nat):Int):=by
 obtain⟨d1,d2,d3⟩:=gX (l:=l) (a:=a) (b:=m) h0 h1 (by omega);obtain⟨f1,f2,f3⟩:=gX (l:=l.drop m.toNat) (a:=0) (b:=b-m) (by omega) (by omega) (by grind);grind
theorem A6{x u v y:List ag}{a m b:Int}{c:Unit}(ha:a=(x.length:Nat))(hm:m=((x.length+u.length:Nat):Int))(hb:b=((x.length+u.length+v.length:Nat):Int)):ag2 (x++(u++(v++y)),a,m,b,c)=((),x++(v++(u++y))):=by
 obtain⟨c1,c2,c3,c4⟩:=ag4 (y:=y) ha hm hb;simp only[ag2,c1,c2,c3,c4]
open Go.Proofs
def Dn(a:List ag×Int×Int×Int×Unit):Unit×List ag:=((),a.1.take a.2.1.toNat++(fN cj (eF a.1 a.2.1 a.2.2.1) (eF a.1 a.2.2.1 a.2.2.2.1)++a.1.drop a.2.2.2.1.toNat))
theorem hlf{i j:Int}(h0:0≤i+j)(h1:i+j≤4398046511104):i64.wrap ((u64.wrap (i64.wrap (i+j))).fdiv (2 ^ min (Int.toNat 1) u64.bits))=(i+j) / 2:=by
 have e:(2:Int) ^ min (Int.toNat 1) u64.bits=2:=by decide
 grind[az,sD]
section
variable (p0:List ag×Int×Int×Int×Unit→Bool)
theorem gM{x u y:List ag}{c z:ag}{j:Nat}(hj:j=x.length+u.length):(x++(u++(c::y))).getD j z=c:=by
 grind
theorem Z2{α:Type}{w:List α}{n:Nat}(h:n<w.length):∃w1 c w2,w=w1++c::w2∧w1.length=n:=⟨w.take n,w[n],w.drop (n+1),by rw[← aA4 h,aAT],by rw[az5];omega⟩
def K2S(D:List ag)(md e b:Int):Option (Unit×List ag):=bif decide (md<e)then(bif decide (e<b)then(bif p0 (D,md,e,b,())then some ((),(Dn (D,md,e,b,())).2)else none)else some ((),D))else some ((),D)
def K1S(D:List ag)(a s md e b:Int):Option (Unit×List ag):=bif decide (a<s)then(bif decide (s<md)then(bif p0 (D,a,s,md,())then K2S p0 (Dn (D,a,s,md,())).2 md e b else none)else K2S p0 D md e b)else K2S p0 D md e b
end
def xF(lt:ag→ag→Bool):List ag→Bool
 | []=>true
 | a::r=>r.all (fun b=>!lt b a)&&xF lt r
theorem kO{lt:ag→ag→Bool}:∀{l:List ag},xF lt l=true↔dD lt l
 | []=>by simp[xF,dD]
 | a::r=>by
  have i:=kO (lt:=lt) (l:=r);unfold dD at *;simp only[xF,azF,aAq,i,azU,aAi]
def sG(a:List ag×Int×Int×Int×Unit):Bool:=yG a.1 a.2.1 a.2.2.1 a.2.2.2.1&&(xF cj (eF a.1 a.2.1 a.2.2.1)&&xF cj (eF a.1 a.2.2.1 a.2.2.2.1))
theorem kN{x u v y:List ag}{a m b:Int}{c:Unit}(ha:a=(x.length:Nat))(hm:m=((x.length+u.length:Nat):Int))(hb:b=((x.length+u.length+v.length:Nat):Int)):Dn (x++(u++(v++y)),a,m,b,c)=((),x++(fN cj u v++y)):=by
 obtain⟨c1,c2,c3,c4⟩:=ag4 (y:=y) ha hm hb;simp only[Dn,c1,c2,c3,c4]
theorem AQ{x u v y:List ag}{a m b:Int}{c:Unit}(ha:a=(x.length:Nat))(hm:m=((x.length+u.length:Nat):Int))(hb:b=((x.length+u.length+v.length:Nat):Int))(hu:dD cj u)(hv:dD cj v)(h1:0<u.length)(h2:0<v.length)(hl:(x++(u++(v++y))).length≤1099511627776):sG (x++(u++(v++y)),a,m,b,c)=true:=by
 obtain⟨c1,c2,c3,c4⟩:=ag4 (y:=y) ha hm hb;simp only[sG,c2,c3,azF];exact⟨kT.2 ⟨by omega,by omega,by omega,by simp only[azG];omega,hl⟩,kO.2 hu,kO.2 hv⟩
section
variable {p0:List ag×Int×Int×Int×Unit→Bool}
theorem ano{z u v y:List ag}{md e b:Int}(hp:∀(x u v y:List ag) (a m b':Int),a=(x.length:Nat)→m=((x.length+u.length:Nat):Int)→b'=((x.length+u.length+v.length:Nat):Int)→dD cj u→dD cj v→0<u.length→0<v.length→(x++(u++(v++y))).length≤1099511627776→a=md→b'=b→p0 (x++(u++(v++y)),a,m,b',())=true)
  (hm:md=(z.length:Nat)) (he:e=((z.length+u.length:Nat):Int)) (hb:b=((z.length+u.length+v.length:Nat):Int)) (hu:dD cj u) (hv:dD cj v) (hl:(z++(u++(v++y))).length≤1099511627776):K2S p0 (z++(u++(v++y))) md e b=some ((),z++(fN cj u v++y)):=by
 unfold K2S;by_cases h1:md<e
 ·by_cases h2:e<b
  ·rw[azC h1,azC h2,hp z u v y md e b hm he hb hu hv (by omega) (by omega) hl rfl rfl,kN hm he hb];rfl
  ·have:v=[]:=aAf (by omega)
   subst this;rw[azC h1,azK h2,fb];rfl
 ·have:u=[]:=aAf (by omega)
  subst this;rw[azK h1,fp];rfl
end
def Dp(a:List ag×Int×Int×Int×Unit):Nat:=(a.2.2.2.1-a.2.1).toNat
def chS(bs:Nat):Nat→List ag→List ag
 | 0,_=>[]
 | k+1,l=>match l with
  | []=>[]
  | l=>ca cj (l.take bs)++chS bs k (l.drop bs)
theorem ry(bs:Nat):∀k,chS bs k []=[]
 | 0=>rfl
 | k+1=>rfl
theorem B4(bs k:Nat)(l:List ag)(h:0<l.length):chS bs (k+1) l=ca cj (l.take bs)++chS bs k (l.drop bs):=by
 cases l with
 | nil=>simp at h
 | cons a l=>rfl
theorem KR(bs:Nat)(hb:0<bs):∀(k k':Nat) (l:List ag),l.length≤k→l.length≤k'→chS bs k l=chS bs k' l
 | 0,k',l,h,_=>by
  obtain rfl:=aAf (Nat.le_zero.1 h);rw[ry,ry]
 | k+1,0,l,_,h=>by
  obtain rfl:=aAf (Nat.le_zero.1 h);rw[ry,ry]
 | k+1,k'+1,l,h,h'=>by
  by_cases h0:l.length=0
  ·obtain rfl:=aAf h0
   rw[ry,ry]
  ·rw[B4 _ _ _ (by omega),B4 _ _ _ (by omega),KR bs hb k k' (l.drop bs) (by grind) (by grind)]
def lK(bs:Nat)(l:List ag):List ag:=chS bs l.length l
theorem Cz(bs:Nat):lK bs []=[]:=rfl
theorem gP{bs:Nat}(hb:0<bs){l:List ag}(h:0<l.length):lK bs l=ca cj (l.take bs)++lK bs (l.drop bs):=by
 unfold lK;obtain⟨k,hk⟩:∃k,l.length=k+1:=⟨l.length-1,by omega⟩;rw[hk,B4 _ _ _ h,KR bs hb k (l.drop bs).length _ (by grind) (azJ _)]
theorem jT{bs:Nat}(hb:0<bs){l:List ag}(h:l.length≤bs):lK bs l=ca cj l:=by
 by_cases h0:l.length=0
 ·obtain rfl:=aAf h0;rfl
 ·rw[gP hb (by omega),aAQ h,aBK h,Cz,aAc]
theorem Ka{bs:Nat}(hb:0<bs):∀(k:Nat) (l:List ag),l.length≤k→(lK bs l).length=l.length
 | 0,l,h=>by
  obtain rfl:=aAf (Nat.le_zero.1 h);rfl
 | k+1,l,h=>by
  by_cases h0:l.length=0
  ·obtain rfl:=aAf h0;rfl
  ·rw[gP hb (by omega),azG,bh,Ka hb k (l.drop bs) (by grind),az5,aAe];omega
def WW(a:List ag×Int×Unit):Unit×List ag:=((),ca cj a.1)
def SJ(a:List ag×Int×Unit):Bool:=decide (a.2.1=((a.1.length:Nat):Int))&&decide (a.1.length≤1099511627776)
def afb(a:List ag×Unit):Unit×List ag:=((),ca cj a.1)
open Go.Proofs
noncomputable def LR:cX:=⟨Tryz.prog,[tG],dE [],63,[Sa],[],[],[]⟩
theorem amy:jh Tryz.prog [tG] [Sa] []:=gu adA (ah xB (aC))
def qv:Nat→LD:=sY 1 [(0,⟨[.list 0 500 69 13 aF,.c 1 (zI),.fn 2 95 [],.c 6 (zI),.c 7 (zI),.c 8 (zI)],[],1⟩),(2,⟨[.list 0 500 69 13 aF,.c 1 (zI),.fn 2 95 [],.c 6 (zI)],[],1⟩),(4,⟨[.list 0 500 69 13 aF,.c 1 (zI),.fn 2 95 [],.c 6 (zI),.c 7 (zI),.c 8 (zI)],[],1⟩)]
noncomputable def ai3(f:Nat)(a:(List ag)×Int×Unit):Option (Unit×(List ag)):=aG LR qv (cO Tryz.prog 69 13 aF [] []) f [.code (aB Tryz.f97)] (dR false 69 13 aF [.c zI,.fn 95 []] a.1 [] (a.2.1,a.2.2))
noncomputable def G8(f:Nat)(x:(List ag)×Int×Unit×Int×Int×Int):Option (Unit×(List ag)):=aG LR qv (cO Tryz.prog 69 13 aF [] []) f (aV Tryz.f97 0) ((qv 0).mk' x)
noncomputable def RF(f:Nat)(x:(List ag)×Int×Unit×Int):Option (Unit×(List ag)):=aG LR qv (cO Tryz.prog 69 13 aF [] []) f (aV Tryz.f97 2) ((qv 2).mk' x)
noncomputable def ahu(f:Nat)(x:(List ag)×Int×Unit×Int×Int×Int):Option (Unit×(List ag)):=aG LR qv (cO Tryz.prog 69 13 aF [] []) f (aV Tryz.f97 4) ((qv 4).mk' x)
theorem abk(f:Nat)(data:List ag)(n:Int)(cmp:Unit):ai3 (f+1) (data,n,cmp) =
  G8 f (data,n,(),20,0,20):=by kernel_rfl
theorem Om(f:Nat)(data:List ag)(n:Int)(cmp:Unit)(aM a b:Int):G8 (f+1) (data,n,cmp,aM,a,b) =
  bif decide (b≤n)then bif gB data a b then G8 f ((sZ (data,a,b,())).2,n,(),aM,b,i64.wrap (b+aM))else none else bif gB data a n then RF f ((sZ (data,a,n,())).2,n,(),aM)else none:=by kernel_rfl
theorem Ol(f:Nat)(data:List ag)(n:Int)(cmp:Unit)(aM:Int):RF (f+1) (data,n,cmp,aM) =
  bif decide (aM<n)then ahu f (data,n,(),aM,0,i64.wrap (2*aM))else some ((),data):=by kernel_rfl
def Mm(a:List ag×Int×Unit):Bool:=decide (a.2.1=(a.1.length:Nat))&&decide (a.1.length<20)
def ae5(a:List ag×Int×Unit):Unit×List ag:=((),ca cj a.1)
theorem YQ(l:List ag)(u:Unit):sZ (l,0,((l.length:Nat):Int),u)=((),ca cj l):=by
 have:=iq (x:=[]) (s:=l) (y:=[]) (a:=0) (b:=((l.length:Nat):Int)) (u:=u) rfl (by simp);grind
theorem ae3:∀a,Mm a=true→∃f,ai3 f a=some (ae5 a):=by
 rintro⟨l,n,u⟩ h;simp only[Mm,azF,azM]at h;obtain⟨rfl,hl⟩:=h;refine⟨3,(abk 2 _ _ _).trans ((Om 1 _ _ _ _ _ _).trans ?_)⟩;have alO:gB l 0 ((l.length:Nat):Int)=true:=eY.2 ⟨by omega,by omega,by omega,by omega⟩;rw[azK (by omega),azI,alO,YQ];refine(Ol 0 _ _ _ _).trans ?_;rw[azK (by omega)];rfl
theorem ae4:∀a,Mm a=true→(ae5 a).2.length=a.1.length:=fun a _=>bh _
noncomputable def RV:dW:=⟨97,false,false,69,13,aF,[.c zI,.fn 95 []],[],fun l l2 a=>(Mm:(List ag)×Int×Unit→Bool) (l,a.1,a.2),fun l l2 a=>(ae5:(List ag)×Int×Unit→Unit×(List ag)) (l,a.1,a.2)⟩
theorem ac6:RV.Ok Tryz.prog:=fJ (C:=LR) (Lt:=qv) (fn:=Tryz.f97) (rs:=[]) RV Tryz.prog rfl rfl rfl mixed amy ⟨rfl,rfl⟩ (fq (by decide +kernel)) Tryz.func97 rfl rfl rfl (by decide) (by kernel_rfl) (by kernel_rfl) (by decide) fun l a hp=>⟨ae4 (l,a.1,a.2) hp,ae3 (l,a.1,a.2) hp⟩
noncomputable def ajO:cX:=⟨Tryz.prog,[tG],dE [],9,[RV],[],[],[]⟩
theorem amA:jh Tryz.prog [tG] [RV] []:=gu ac6 (ah xB (aC))
def aco:Nat→LD:=sY 1 []
noncomputable def ai5(f:Nat)(a:(List ag)×Unit):Option (Unit×(List ag)):=aG ajO aco (cO Tryz.prog 69 13 aF [] []) f [.code (aB Tryz.f61)] (dR false 69 13 aF [.fn 95 []] a.1 [] a.2)
theorem abn(f:Nat)(x:List ag)(cmp:Unit):ai5 (f+1) (x,cmp) =
  bif Mm (x,(↑x.length:Int),())then some ((),(ae5 (x,(↑x.length:Int),())).2)else none:=by kernel_rfl
def SL(a:List ag×Unit):Unit×List ag:=((),ca cj a.1)
def WX(a:List ag×Unit):Bool:=decide (a.1.length<20)
theorem ae9:∀a,WX a=true→∃f,ai5 f a=some (SL a):=by
 rintro⟨l,u⟩ h;refine⟨1,(abn 0 _ _).trans ?_⟩;have hp:Mm (l,((l.length:Nat):Int),())=true:=by simp only[Mm,aBP,azP];exact h
 rw[hp];rfl
theorem afa:∀a,WX a=true→(SL a).2.length=a.1.length:=fun a _=>bh _
noncomputable def RW:dW:=⟨61,false,false,69,13,aF,[.fn 95 []],[],fun l l2 a=>(WX:(List ag)×Unit→Bool) (l,a),fun l l2 a=>(SL:(List ag)×Unit→Unit×(List ag)) (l,a)⟩
theorem ac8:RW.Ok Tryz.prog:=fJ (C:=ajO) (Lt:=aco) (fn:=Tryz.f61) (rs:=[]) RW Tryz.prog rfl rfl rfl mixed amA ⟨rfl,rfl⟩ (fq (by decide +kernel)) Tryz.func61 rfl rfl rfl (by decide) (by kernel_rfl) (by kernel_rfl) (by decide) fun l a hp=>⟨afa (l,a) hp,ae9 (l,a) hp⟩
