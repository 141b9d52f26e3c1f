/- AI. -/
import Derived.Test.YtfggefeflojnkaaGreatZ3
set_option linter.unusedVariables false
set_option linter.unusedSectionVars false
open Go.IntKind (i64 u64)
namespace Go.AL
open Go.Proofs
def smA(z:dv):Prop:=0≤z.1∧z.1≤4611686018427387904
def W8(z:dv):Bool:=decide (0≤z.1)&&decide (z.1≤4611686018427387904)
theorem Fx{z:dv}:W8 z=true↔smA z:=by simp[W8,smA]
def zA:dv:=(0,0)
def xY(a:dv×dv):Int:=i64.wrap (a.1.1-a.2.1)
theorem ahd{a b:dv}(ha:smA a)(hb:smA b):decide (xY (a,b)<0)=uB a b:=by
 obtain⟨a0,a1⟩:=ha;obtain⟨b0,b1⟩:=hb;grind[xY,az,uB]
noncomputable def aeq:cX:=zC [] (dE []) 10
noncomputable def ach(f:Nat)(a:dv×dv):Option Int:=aG aeq (eO []) (zK [.tmp 4] [.v zI]) f [.code (aB Tryz.f93)] (aQ [.g dH,.g dH] a)
theorem Vn(f:Nat)(a b:dv):ach (f+1) (a,b) =
  some (i64.wrap (a.1-b.1)):=by kernel_rfl
noncomputable def acZ:(dv×dv)→Int
 | (a,b)=>i64.wrap (a.1-b.1)
noncomputable def abc:(dv×dv)→Bool
 | (a,b)=>true
theorem Uu:∀a:dv×dv,de (fun f=>ach f a) (abc a) (acZ a)
 | (a,b)=>ai (fun f=>Vn f _ _) ae
noncomputable def tH:dn:=⟨93,[.g dH,.g dH],[.v zI],fun _=>true,xY⟩
theorem xC:zO tH:=fl aeq (eO []) [.tmp 4] mixed (aC) Tryz.func93 (bp Uu (fun _ _=>rfl) (fun _ _=>rfl))
def FX(a:List dv×Int×Int×Unit):Unit×List dv:=((),a.1.take a.2.1.toNat++(ca uB (eF a.1 a.2.1 a.2.2.1)++a.1.drop a.2.2.1.toNat))
noncomputable def Ss:cX:=zC [tH] (dE [(4,([(0,[]),(1,[]),(2,[]),(3,[]),(4,[]),(5,[]),(6,[]),(7,[]),(8,[]),(9,[]),(10,[]),(11,[]),(12,[]),(13,[]),(14,[]),(15,[]),(16,[])],[(18,34)])),(6,([(0,[]),(1,[]),(2,[]),(3,[]),(4,[]),(5,[]),(6,[]),(7,[]),(8,[]),(9,[]),(10,[]),(11,[]),(12,[]),(13,[]),(14,[]),(15,[]),(16,[]),(17,[])],[(37,52)]))]) 53
theorem amG:jh Tryz.prog [tH] [] []:=ah xC (aC)
def xx:Nat→LD:=sY 1 [(0,⟨[.list 0 500 100 2 dH,.c 1 (zI),.c 2 (zI),.fn 3 93 [],.c 8 (zI)],[],1⟩),(2,⟨[.list 0 500 100 2 dH,.c 1 (zI),.c 2 (zI),.fn 3 93 [],.c 8 (zI),.c 9 (zI)],[],1⟩)]
noncomputable def aji(f:Nat)(a:(List dv)×Int×Int×Unit):Option (Unit×(List dv)):=aG Ss xx (cO Tryz.prog 100 2 dH [] []) f [.code (aB Tryz.f146)] (dR false 100 2 dH [.c zI,.c zI,.fn 93 []] a.1 [] (a.2.1,a.2.2.1,a.2.2.2))
noncomputable def rK(f:Nat)(x:(List dv)×Int×Int×Unit×Int):Option (Unit×(List dv)):=aG Ss xx (cO Tryz.prog 100 2 dH [] []) f (aV Tryz.f146 0) ((xx 0).mk' x)
noncomputable def Aw(f:Nat)(x:(List dv)×Int×Int×Unit×Int×Int):Option (Unit×(List dv)):=aG Ss xx (cO Tryz.prog 100 2 dH [] []) f (aV Tryz.f146 2) ((xx 2).mk' x)
theorem Ls(f:Nat)(data:List dv)(a b:Int)(cmp:Unit):aji (f+1) (data,a,b,cmp) =
  rK f (data,a,b,(),i64.wrap (a+1)):=by kernel_rfl
theorem tB(f:Nat)(data:List dv)(a b:Int)(cmp:Unit)(i:Int):rK (f+1) (data,a,b,cmp,i) =
  bif decide (i<b)then Aw f (data,a,b,(),i,i)else some ((),data):=by kernel_rfl
theorem tA(f:Nat)(data:List dv)(a b:Int)(cmp:Unit)(i j:Int):Aw (f+1) (data,a,b,cmp,i,j) =
  bif decide (j>a)then bif decide (0≤j)&&decide (j<(↑data.length:Int))then bif decide (0≤i64.wrap (j-1))&&decide (i64.wrap (j-1)<(↑data.length:Int))then bif decide (xY (data.getD j.toNat (0,0),data.getD (i64.wrap (j-1)).toNat (0,0))<0)then bif decide (0≤i64.wrap (j-1))&&decide (i64.wrap (j-1)<(↑data.length:Int))then bif decide (0≤j)&&decide (j<(↑data.length:Int))then bif decide (0≤j)&&decide (j<(↑data.length:Int))then bif decide (0≤i64.wrap (j-1))&&decide (i64.wrap (j-1)<(↑(data.set j.toNat (data.getD (i64.wrap (j-1)).toNat (0,0))).length:Int))then Aw f ((data.set j.toNat (data.getD (i64.wrap (j-1)).toNat (0,0))).set (i64.wrap (j-1)).toNat (data.getD j.toNat (0,0)),a,b,(),i,i64.wrap (j-1))else none else none else none else none else rK f (data,a,b,(),i64.wrap (i+1))else none else none else rK f (data,a,b,(),i64.wrap (i+1)):=by kernel_rfl
theorem ah8:∀(n:Nat) (s x t y:List dv) (e:dv) (a b i:Int) (G:List dv→Prop) (K:Unit×List dv),s.length=n→dD uB (s++t)→(∀z∈s++(e::t),smA z)→(∀z∈t,uB e z=true)→a=(x.length:Nat)→(x++(s++(e::(t++y)))).length≤1099511627776→
  (∃f,rK f (x++(cA uB e (s++t)++y),a,b,(),i64.wrap (i+1))=some K)→∃f,Aw f (x++(s++(e::(t++y))),a,b,(),i,((x.length+s.length:Nat):Int))=some K
 | 0,s,x,t,y,e,a,b,i,_,K,hn,hs,hr,ht,ha,hl,⟨f,hf⟩=>by
  obtain rfl:=aAf hn;refine⟨f+1,(tA f _ _ _ _ _ _).trans ?_⟩;rw[azK (show ¬ (((x.length+([]:List dv).length:Nat):Int)>a)by simp;omega),azI];have e1:cA uB e ([]++t)=e::t:=by
   cases t with
   | nil=>rfl
   | cons z t=>simp only[aAs,cA,ht z (az1 ..),azH]
  grind
 | n+1,s,x,t,y,e,a,b,i,_,K,hn,hs,hr,ht,ha,hl,hf=>by
  obtain⟨s,p,rfl⟩:∃s' p,s=s'++[p]:=⟨s.dropLast,s.getLast (by grind),(aBV _).symm⟩;have L4:s.length=n:=by grind
  simp only[azG,azL]at hl;have hJ:((x.length+(s++[p]).length:Nat):Int)=(((x++s).length+1+([]:List dv).length:Nat):Int):=by simp;omega
  have hJ1:i64.wrap (((x.length+(s++[p]).length:Nat):Int)-1)=(((x++s).length:Nat):Int):=by
   rw[az (by simp;omega) (by simp;omega)];grind
  have eD:x++(s++[p]++(e::(t++y)))=(x++s)++p::([]++e::(t++y)):=by simp
  have g1:=jN (x:=x++s) (q:=[]) (r:=p) (y:=[]++e::(t++y)) (p:=p) (z:=zA) rfl;have g2:=lC (x:=x++s) (q:=[]) (y:=t++y) (p:=p) (r:=e) (z:=zA) rfl;simp only[zA]at g1 g2;have hL:(((x++s)++p::([]++e::(t++y))).length:Nat)=x.length+s.length+2+t.length+y.length:=by simp;omega
  have d1:decide ((((x++s).length:Nat):Int)<((((x++s)++p::([]++e::(t++y))).length:Nat):Int))=true:=azC (by grind);have d2:decide ((((x++s).length+1+([]:List dv).length:Nat):Int)<((((x++s)++p::([]++e::(t++y))).length:Nat):Int))=true:=azC (by grind);have Dw:decide ((((x++s).length+1+([]:List dv).length:Nat):Int)>a)=true:=azC (by grind);have F2:dD uB (s++(p::t)):=by simpa using hs
  have j6:decide (xY (e,p)<0)=uB e p:=ahd (hr e (by simp)) (hr p (by simp));cases hc:uB e p
  ·
   obtain⟨f,hf⟩:=hf;refine⟨f+1,(tA f _ _ _ _ _ _).trans ?_⟩;rw[hJ1,eD,hJ];have xO:decide (xY (e,p)<0)=false:=j6.trans hc;simp only[aAn,g1,g2,d1,d2,fW,Dw,xO,azQ,azH,azI];have e1:cA uB e (s++[p]++t)=s++[p]++(e::t):=by
    have hp:∀z∈s++[p],uB e z=false:=fun z hz=>by
     rcases aAp.1 hz with hz | hz
     ·exact XT.ntrans z p e ((aAI.1 F2).2.2 z hz p (az1 ..)) hc
     grind
    cases t with
    | nil=>rw[aAc,gL XT hp]
    | cons z t=>
     rw[mu XT (s:=s++[p]) ?_ (ht z (az1 ..)),gL XT hp]
     ·simp
     ·have:(s++[p]++[z]).Sublist (s++[p]++z::t):=aCo (by simp) _
      exact hs.sublist this
   grind
  ·obtain⟨f,hf⟩:=ah8 n s x (p::t) y e a b i (fun _=>True) K L4 F2 (fun z hz=>hr z (by simp at hz ⊢;rcases hz with h | h | h | h<;>simp[h])) (fun z hz=>by
    grind) ha (by grind) (by simpa using hf)
   refine⟨f+1,(tA f _ _ _ _ _ _).trans ?_⟩;rw[hJ1,eD,hJ];have xO:decide (xY (e,p)<0)=true:=j6.trans hc;have s2:=tU (x:=x++s) (q:=[]) (y:=t++y) (p:=p) (r:=e) rfl rfl;simp only[aAn,g1,g2,s2,d1,d2,fW,Dw,xO,azQ,azH,azX];grind
theorem ah9:∀(r s x y:List dv) (a b:Int),a=(x.length:Nat)→b=((x.length+s.length+r.length:Nat):Int)→dD uB s→(∀z∈s++r,smA z)→(x++(s++(r++y))).length≤1099511627776→
  ∃f,rK f (x++(s++(r++y)),a,b,(),((x.length+s.length:Nat):Int))=some ((),x++(r.foldl (fun s x=>cA uB x s) s++y))
 | [],s,x,y,a,b,ha,hb,hs,hr,hl=>⟨1,(tB 0 _ _ _ _ _).trans (by grind)⟩
 | e::r,s,x,y,a,b,ha,hb,hs,hr,hl=>by
  simp only[azL,azG]at hb hl;have hle:=oJ (lt:=uB) e s;obtain⟨f,hf⟩:=ah9 r (cA uB e s) x y a b ha (by omega) (kP XT hs) (fun z hz=>hr z ((aAp.1 hz).elim (fun h=>(Bn.1 h).elim (fun h=>by simp[h]) (fun h=>by simp[h])) (fun h=>by simp[h]))) (by grind);have e1:i64.wrap (((x.length+s.length:Nat):Int)+1)=((x.length+(cA uB e s).length:Nat):Int):=by grind[az]
  obtain⟨g,hg⟩:=ah8 s.length s x [] (r++y) e a b ((x.length+s.length:Nat):Int) (fun _=>True) _ rfl (by simpa using hs) (fun z hz=>hr z (by grind)) (fun z hz=>by cases hz) ha (by grind) ⟨f,by rw[e1,aAc];exact hf⟩;refine⟨g+1,(tB g _ _ _ _ _).trans ?_⟩;grind
theorem BH{x s y:List dv}{a b:Int}{u:Unit}(ha:a=(x.length:Nat))(hb:b=((x.length+s.length:Nat):Int)):FX (x++(s++y),a,b,u)=((),x++(ca uB s++y)):=by
 obtain⟨c1,c2,c3⟩:=NL (x:=x) (u:=s) (y:=y) ha hb;simp only[FX,c1,c2,c3]
theorem agb:∀a,(fun a:List dv×Int×Int×Unit=>gB a.1 a.2.1 a.2.2.1&&a.1.all W8) a=true→∃f,aji f a=some (FX a):=by
 rintro⟨l,a,b,u⟩ h;have Kh:∀z∈l,smA z:=fun z hz=>Fx.1 (azU.1 (aAk.1 h).2 z hz)
 have h:gB l a b=true:=(aAk.1 h).1;obtain⟨h0,h1,h2,h3⟩:=eY.1 h;obtain⟨e1,e2,e3⟩:=gX h0 h1 h2;generalize l.take a.toNat=x at e1 e2 e3;generalize eF l a b=s at e1 e2 e3;generalize l.drop b.toNat=y at e1;subst e1;cases s with
 | nil=>
  refine⟨2,(Ls 1 _ _ _ _).trans ?_⟩;have hw:i64.wrap (a+1)=a+1:=az (by omega) (by grind);refine(tB 0 _ _ _ _ _).trans ?_;rw[hw,azK (by simp at e3;omega),BH e2 e3];rfl
 | cons e s=>
  simp only[azG,azL]at h3 e3;obtain⟨f,hf⟩:=ah9 s [e] x y a b e2 (by grind) (by simp[dD]) (fun z hz=>Kh z (by grind)) (by grind);have hw:i64.wrap (a+1)=((x.length+[e].length:Nat):Int):=by grind[az]
  refine⟨f+1,(Ls f _ _ _ _).trans ?_⟩;rw[hw,BH e2 (by grind)];exact hf
theorem agc:∀a,(fun a:List dv×Int×Int×Unit=>gB a.1 a.2.1 a.2.2.1&&a.1.all W8) a=true→(FX a).2.length=a.1.length:=by
 rintro⟨l,a,b,u⟩ h;have Kh:∀z∈l,smA z:=fun z hz=>Fx.1 (azU.1 (aAk.1 h).2 z hz)
 have h:gB l a b=true:=(aAk.1 h).1;obtain⟨h0,h1,h2,h3⟩:=eY.1 h;obtain⟨e1,e2,e3⟩:=gX h0 h1 h2;simp only[FX,azG,bh];grind
noncomputable def Sc:dW:=⟨146,false,false,100,2,dH,[.c zI,.c zI,.fn 93 []],[],fun l l2 a=>(fun a=>gB a.1 a.2.1 a.2.2.1&&a.1.all W8:(List dv)×Int×Int×Unit→Bool) (l,a.1,a.2.1,a.2.2),fun l l2 a=>(FX:(List dv)×Int×Int×Unit→Unit×(List dv)) (l,a.1,a.2.1,a.2.2)⟩
theorem adC:Sc.Ok Tryz.prog:=fJ (C:=Ss) (Lt:=xx) (fn:=Tryz.f146) (rs:=[]) Sc Tryz.prog rfl rfl rfl mixed amG ⟨rfl,rfl⟩ (fq (by decide +kernel)) Tryz.func146 rfl rfl rfl (by decide) (by kernel_rfl) (by kernel_rfl) (by decide) fun l a hp=>⟨agc (l,a.1,a.2.1,a.2.2) hp,agb (l,a.1,a.2.1,a.2.2) hp⟩
noncomputable def C1:cX:=⟨Tryz.prog,[tH],dE [],63,[Sc],[],[],[]⟩
theorem agV:jh Tryz.prog [tH] [Sc] []:=gu adC (ah xC (aC))
def kr:Nat→LD:=sY 1 [(0,⟨[.list 0 500 100 2 dH,.c 1 (zI),.fn 2 93 [],.c 6 (zI),.c 7 (zI),.c 8 (zI)],[],1⟩),(2,⟨[.list 0 500 100 2 dH,.c 1 (zI),.fn 2 93 [],.c 6 (zI)],[],1⟩),(4,⟨[.list 0 500 100 2 dH,.c 1 (zI),.fn 2 93 [],.c 6 (zI),.c 7 (zI),.c 8 (zI)],[],1⟩)]
noncomputable def abl(f:Nat)(a:(List dv)×Int×Unit):Option (Unit×(List dv)):=aG C1 kr (cO Tryz.prog 100 2 dH [] []) f [.code (aB Tryz.f128)] (dR false 100 2 dH [.c zI,.fn 93 []] a.1 [] (a.2.1,a.2.2))
noncomputable def CK(f:Nat)(x:(List dv)×Int×Unit×Int×Int×Int):Option (Unit×(List dv)):=aG C1 kr (cO Tryz.prog 100 2 dH [] []) f (aV Tryz.f128 0) ((kr 0).mk' x)
noncomputable def LG(f:Nat)(x:(List dv)×Int×Unit×Int):Option (Unit×(List dv)):=aG C1 kr (cO Tryz.prog 100 2 dH [] []) f (aV Tryz.f128 2) ((kr 2).mk' x)
noncomputable def acA(f:Nat)(x:(List dv)×Int×Unit×Int×Int×Int):Option (Unit×(List dv)):=aG C1 kr (cO Tryz.prog 100 2 dH [] []) f (aV Tryz.f128 4) ((kr 4).mk' x)
theorem UK(f:Nat)(data:List dv)(n:Int)(cmp:Unit):abl (f+1) (data,n,cmp) =
  CK f (data,n,(),20,0,20):=by kernel_rfl
theorem LH(f:Nat)(data:List dv)(n:Int)(cmp:Unit)(aM a b:Int):CK (f+1) (data,n,cmp,aM,a,b) =
  bif decide (b≤n)then bif gB data a b&&data.all W8 then CK f ((FX (data,a,b,())).2,n,(),aM,b,i64.wrap (b+aM))else none else bif gB data a n&&data.all W8 then LG f ((FX (data,a,n,())).2,n,(),aM)else none:=by kernel_rfl
theorem LF(f:Nat)(data:List dv)(n:Int)(cmp:Unit)(aM:Int):LG (f+1) (data,n,cmp,aM) =
  bif decide (aM<n)then acA f (data,n,(),aM,0,i64.wrap (2*aM))else some ((),data):=by kernel_rfl
def AT(a:List dv×Int×Unit):Bool:=decide (a.2.1=(a.1.length:Nat))&&(decide (a.1.length<20)&&a.1.all W8)
def Po(a:List dv×Int×Unit):Unit×List dv:=((),ca uB a.1)
theorem YR(l:List dv)(u:Unit):FX (l,0,((l.length:Nat):Int),u)=((),ca uB l):=by
 have:=BH (x:=[]) (s:=l) (y:=[]) (a:=0) (b:=((l.length:Nat):Int)) (u:=u) rfl (by simp);simpa using this
theorem WU:∀a,AT a=true→∃f,abl f a=some (Po a):=by
 rintro⟨l,n,u⟩ h;simp only[AT,azF,azM]at h;obtain⟨rfl,hl,hs⟩:=h;refine⟨3,(UK 2 _ _ _).trans ((LH 1 _ _ _ _ _ _).trans ?_)⟩;have alO:gB l 0 ((l.length:Nat):Int)=true:=eY.2 ⟨by omega,by omega,by omega,by omega⟩;rw[azK (by omega),azI,alO,hs,YR];refine(LF 0 _ _ _ _).trans ?_;rw[azK (by omega)];rfl
theorem WV:∀a,AT a=true→(Po a).2.length=a.1.length:=fun a _=>bh _
noncomputable def Hj:dW:=⟨128,false,false,100,2,dH,[.c zI,.fn 93 []],[],fun l l2 a=>(AT:(List dv)×Int×Unit→Bool) (l,a.1,a.2),fun l l2 a=>(Po:(List dv)×Int×Unit→Unit×(List dv)) (l,a.1,a.2)⟩
theorem Vr:Hj.Ok Tryz.prog:=fJ (C:=C1) (Lt:=kr) (fn:=Tryz.f128) (rs:=[]) Hj Tryz.prog rfl rfl rfl mixed agV ⟨rfl,rfl⟩ (fq (by decide +kernel)) Tryz.func128 rfl rfl rfl (by decide) (by kernel_rfl) (by kernel_rfl) (by decide) fun l a hp=>⟨WV (l,a.1,a.2) hp,WU (l,a.1,a.2) hp⟩
noncomputable def adV:cX:=⟨Tryz.prog,[tH],dE [],9,[Hj],[],[],[]⟩
theorem agW:jh Tryz.prog [tH] [Hj] []:=gu Vr (ah xC (aC))
def Q9:Nat→LD:=sY 1 []
noncomputable def abo(f:Nat)(a:(List dv)×Unit):Option (Unit×(List dv)):=aG adV Q9 (cO Tryz.prog 100 2 dH [] []) f [.code (aB Tryz.f92)] (dR false 100 2 dH [.fn 93 []] a.1 [] a.2)
theorem UL(f:Nat)(x:List dv)(cmp:Unit):abo (f+1) (x,cmp) =
  bif AT (x,(↑x.length:Int),())then some ((),(Po (x,(↑x.length:Int),())).2)else none:=by kernel_rfl
def W0(a:List dv×Unit):Unit×List dv:=((),ca uB a.1)
def Jr(a:List dv×Unit):Bool:=decide (a.1.length<20)&&a.1.all W8
theorem WY:∀a,Jr a=true→∃f,abo f a=some (W0 a):=by
 rintro⟨l,u⟩ h;refine⟨1,(UL 0 _ _).trans ?_⟩;have hp:AT (l,((l.length:Nat):Int),())=true:=by simp only[AT,aBP,azP];exact h
 rw[hp];rfl
theorem WZ:∀a,Jr a=true→(W0 a).2.length=a.1.length:=fun a _=>bh _
noncomputable def ac9:dW:=⟨92,false,false,100,2,dH,[.fn 93 []],[],fun l l2 a=>(Jr:(List dv)×Unit→Bool) (l,a),fun l l2 a=>(W0:(List dv)×Unit→Unit×(List dv)) (l,a)⟩
theorem Vs:ac9.Ok Tryz.prog:=fJ (C:=adV) (Lt:=Q9) (fn:=Tryz.f92) (rs:=[]) ac9 Tryz.prog rfl rfl rfl mixed agW ⟨rfl,rfl⟩ (fq (by decide +kernel)) Tryz.func92 rfl rfl rfl (by decide) (by kernel_rfl) (by kernel_rfl) (by decide) fun l a hp=>⟨WZ (l,a) hp,WY (l,a) hp⟩
open Go.Proofs Go.RowKit
theorem BJ{P:Program}{t:TypeId}{n b:Nat}(h:(P.info? t).map (fun i=>(i.zero.map (·.cells.size),i.size,i.bytes))=some (some n,n,b)):∃i z,P.info? t=some i∧i.zero=some z∧i.size=n∧i.bytes=b∧z.cells.size=n:=by
 cases hi:P.info? t with
 | none=>rw[hi]at h;cases h
 | some i=>
  simp_all
theorem YU:(Tryz.prog.info? 56).map (fun i=>(i.zero.map (·.cells.size),i.size,i.bytes))=some (some 28,28,240):=by kernel_rfl
theorem alB:(Tryz.prog.info? 100).map (fun i=>(i.zero.map (·.cells.size),i.size,i.bytes))=some (some 2,2,16):=by kernel_rfl
class ZA where
 A:Nat→Prop
def ef[ZA](G b:Nat):Prop:=(b<G∧ZA.A b)∨b=G
theorem ef.lt[ZA]{G b n:Nat}(h:ef G b)(hG:G<n):b<n:=by
 rcases h with h | h
 all_goals grind
theorem ef.le[ZA]{G b:Nat}(h:ef G b):b≤G:=by
 rcases h with h | h
 all_goals grind
variable [ZA]
def Za.A(G:Nat)(vl va:Value)(b:Nat):Prop:=ef G b∨vl.ownBlock=some b∨va.ownBlock=some b
structure Za.ye (w wr:World) (G o:Nat) (cb:Array Value) (l:List aL) (left:List bR) (an:List dv) (vs vl va:Value):Prop where
 ev:Ev w wr (fun b=>b=G)
 g0:G<w.heap.size
 g:HB wr G 38 (cb.setIfInBounds (o+3) va)
 sl:Cl wr (Za.A G vl va) (.sl bg) l vs
 lf:aR wr (Za.A G vl va) w.heap.size 56 28 bV left vl
 an:aR wr (Za.A G vl va) w.heap.size 100 2 dH an va
 ne:∀g,vl.ownBlock=some g→va.ownBlock ≠ some g
section
variable {w wr:World} {G o:Nat} {cb:Array Value} {l:List aL} {left:List bR} {an:List dv} {vs vl va:Value}
theorem Za.ye.oA(M:Za.ye w wr G o cb l left an vs vl va){b:Nat}(hb:b<w.heap.size)(h:Za.A G vl va b):ef G b:=by
 rcases h with h | h | h
 ·exact h
 ·have:=(M.lf.lt h).1;omega
 ·have:=(M.an.lt h).1;omega
theorem Za.ye.hA(M:Za.ye w wr G o cb l left an vs vl va)(b:Nat)(h:Za.A G vl va b):b<wr.heap.size:=by
 rcases h with h | h | h
 ·exact h.lt M.g.lt
 ·exact(M.lf.lt h).2
 ·exact(M.an.lt h).2
theorem Za.ye.pure(M:Za.ye w wr G o cb l left an vs vl va){t:Ty}{x:t.T}{u:Value}(h:Cl w (ef G) t x u):Cl wr (Za.A G vl va) t x u:=
 h.ev M.ev (fun _ _ h=>.inr h) (fun b hb h=>M.oA hb h)
theorem Za.ye.low(M:Za.ye w wr G o cb l left an vs vl va){w':World}(hb:Below wr.heap.size wr w'):Za.ye w w' G o cb l left an vs vl va:=by
 have e:Ev wr w' (fun b=>b=G):=et hb _;have e0:Ev wr w' (fun _=>False):=et hb _;exact⟨M.ev.tr ⟨hb.os,hb.tape,hb.output,hb.size,fun k hk hX=>hb.block k (by grind)⟩,M.g0,M.g.ev e0 (fun h=>h),M.sl.low hb,M.lf.ev e0 (fun _ _ h=>h.elim) (fun _ _ h=>h) (fun _ _ h=>h),M.an.ev e0 (fun _ _ h=>h.elim) (fun _ _ h=>h) (fun _ _ h=>h),M.ne⟩
theorem Za.ye.push(M:Za.ye w wr G o cb l left an vs vl va){r:bR}{p:Value}(hp:Cl wr (Za.A G vl va) (.sl aE) r.2.2.2.2.2.2.2.2.2.2.2.2.2.2.2.2.2.2.2.2.1 p){bx:Nat}(nr:HB wr bx 56 (Dh r p).toArray)(hl:left.length≤1000000):
  ∃g cap w',(Builtin.append_ #[32,32] 32 #[vl,.slice (some ⟨bx,0,none⟩) 1 1]).run Tryz.prog wr=.ok (.slice (some ⟨g,0,none⟩) (left.length+1:Nat) cap) w'∧Za.ye w w' G o cb l (left++[r]) an vs (.slice (some ⟨g,0,none⟩) (left.length+1:Nat) cap) va∧
   Ev wr w' (fun b=>vl.ownBlock=some b):=by
 obtain⟨i0,z,h1,h2,h3,h4,h5⟩:=BJ YU;obtain⟨g,cap,w',hr,eU,bm,fP⟩:=M.lf.app (t:=32) Tryz.underlying32 h1 h2 h3 h4 h5 (by omega) (x:=r) (us:=Dh r p) (Fg hp) rfl (bx:=bx) (off:=0) (c:=1) (fun j v hv=>by rw[nr.cell,az8];simpa using hv) (by unfold maxLen;have:List.length (α:=aA bV) left≤1000000:=hl;omega) (by have:List.length (α:=aA bV) left≤1000000:=hl;omega) M.ev.size (fun g hg=>.inr (.inl hg));have nW:∀b,b<wr.heap.size→Za.A G (.slice (some ⟨g,0,none⟩) (left.length+1:Nat) cap) va b→Za.A G vl va b:=fun b hb h=>by
  rcases h with h | h | h
  ·exact .inl h
  ·have h:g=b:=by simpa [Value.ownBlock]using h
   subst h;rcases fP with fP | fP
   ·exact .inr (.inl fP)
   ·omega
  ·exact .inr (.inr h)
 have hX:∀b,b<wr.heap.size→vl.ownBlock=some b→Za.A G vl va b:=fun b _ h=>.inr (.inl h)
 have hgG:¬ vl.ownBlock=some G:=fun h=>by have:=(M.lf.lt h).1;have:=M.g0;omega
 refine⟨g,cap,w',hr,⟨⟨bm.os.trans M.ev.os,bm.tape.trans M.ev.tape,bm.output.trans M.ev.output,az0 M.ev.size bm.size,fun k hk hX=>(bm.block k (by have:=M.ev.size;omega) (fun h=>by have:=(M.lf.lt h).1;omega)).trans (M.ev.block k hk hX)⟩,M.g0,M.g.ev bm hgG,M.sl.ev bm hX nW,eU _ nW,M.an.ev bm hX nW (fun g hg h=>M.ne g h hg),fun g' h h'=>?_⟩,bm⟩;have h:g=g':=by simpa [Value.ownBlock]using h
 subst h;rcases fP with fP | fP
 ·exact M.ne g fP h'
 ·have:=(M.an.lt h').2;omega
theorem set_set(cur:Array Value)(j:Nat)(u v:Value):(cur.setIfInBounds j u).setIfInBounds j v=cur.setIfInBounds j v:=by
 grind
theorem Za.ye.auG(M:Za.ye w wr G o cb l left an vs vl va)(x:dv){bx:Nat}(nr:HB wr bx 100 (aeP x).toArray)(hl:an.length≤1000000):
  ∃g cap w',(Builtin.append_ #[34,34] 34 #[va,.slice (some ⟨bx,0,none⟩) 1 1]).run Tryz.prog wr=.ok (.slice (some ⟨g,0,none⟩) (an.length+1:Nat) cap) w'∧HB w' G 38 (cb.setIfInBounds (o+3) va)∧
   Za.ye w (w'.setCell ⟨G,o+3,none⟩ (.slice (some ⟨g,0,none⟩) (an.length+1:Nat) cap)) G o cb l left (an++[x]) vs vl (.slice (some ⟨g,0,none⟩) (an.length+1:Nat) cap):=by
 obtain⟨i0,z,h1,h2,h3,h4,h5⟩:=BJ alB;obtain⟨g,cap,w',hr,eU,bm,fP⟩:=M.an.app (t:=34) Tryz.underlying34 h1 h2 h3 h4 h5 (by omega) (x:=x) (us:=aeP x) aeN rfl (bx:=bx) (off:=0) (c:=1) (fun j v hv=>by rw[nr.cell,az8];simpa using hv) (by unfold maxLen;have:List.length (α:=aA dH) an≤1000000:=hl;omega) (by have:List.length (α:=aA dH) an≤1000000:=hl;omega) M.ev.size (fun g hg=>.inr (.inr hg));have nW:∀b,b<wr.heap.size→Za.A G vl (.slice (some ⟨g,0,none⟩) (an.length+1:Nat) cap) b→Za.A G vl va b:=fun b hb h=>by
  rcases h with h | h | h
  ·exact .inl h
  ·exact .inr (.inl h)
  ·have h:g=b:=by simpa [Value.ownBlock]using h
   subst h;rcases fP with fP | fP
   ·exact .inr (.inr fP)
   ·omega
 have hX:∀b,b<wr.heap.size→va.ownBlock=some b→Za.A G vl va b:=fun b _ h=>.inr (.inr h)
 have hgG:¬ va.ownBlock=some G:=fun h=>by have:=(M.an.lt h).1;have:=M.g0;omega
 have hG':=M.g.ev bm hgG;have Ib:Ev w' (w'.setCell ⟨G,o+3,none⟩ (.slice (some ⟨g,0,none⟩) (an.length+1:Nat) cap)) (fun b=>b=G):=(Ev.rf w' _).st G (o+3) _ (.inl rfl);have hgA:∀b,b<w'.heap.size→b=G→Za.A G vl (.slice (some ⟨g,0,none⟩) (an.length+1:Nat) cap) b:=fun b _ h=>.inl (.inr h)
 have hg2:w.heap.size≤g:=by
  rcases fP with fP | fP
  ·exact(M.an.lt fP).1
  ·have:=M.ev.size;omega
 refine⟨g,cap,w',hr,hG',⟨⟨bm.os.trans M.ev.os,bm.tape.trans M.ev.tape,bm.output.trans M.ev.output,by simpa [World.setCell]using az0 M.ev.size bm.size,fun k hk hX=>?_⟩,M.g0,?_,(M.sl.ev bm hX nW).ev Ib hgA (fun _ _ h=>h),(M.lf.ev bm hX nW (fun g hg h=>M.ne g hg h)).ev Ib hgA (fun _ _ h=>h) (fun g' hg h=>?_),(eU _ nW).ev Ib hgA (fun _ _ h=>h) (fun g' hg h=>?_),fun g' h h'=>?_⟩⟩
 ·exact(Below.heap_setCell w' ⟨G,o+3,none⟩ _ k hX).trans ((bm.block k (by have:=M.ev.size;omega) (fun h=>by have:=(M.an.lt h).1;omega)).trans (M.ev.block k hk hX))
 ·have:=hG'.set (o+3) (.slice (some ⟨g,0,none⟩) (an.length+1:Nat) cap)
  grind[set_set]
 ·subst h;have:=(M.lf.lt hg).1;have:=M.g0;omega
 ·have hg:g=g':=by simpa [Value.ownBlock]using hg
  have:=M.g0;omega
 ·have h':g=g':=by simpa [Value.ownBlock]using h'
  subst h';rcases fP with fP | fP
  ·exact M.ne g h fP
  ·have:=(M.lf.lt h).2;omega
end
end Go.AL
namespace Go.AL
open Go.RowKit
theorem HB.range{w:World}{B:Nat}{t:TypeId}{us:List Value}(h:HB w B t us.toArray):w.rangeAt B 0 us:=fun j v hv=>by rw[h.cell,az8];simpa using hv
theorem ES(w:World)(t:TypeId):∀(us:List Value) (k:Nat) (zs:Array Value),k+us.length=zs.size→(w.alloc (.cells zs t)).setCells w.heap.size k us=w.alloc (.cells (zs.toList.take k++us).toArray t)
 | [],k,zs,h=>by
  have:(zs.toList.take k++[])=zs.toList:=by rw[aAc,aAQ (by simp at h ⊢;omega)]
  rw[this];simp[World.setCells]
 | u::us,k,zs,h=>by
  have h:k+(us.length+1)=zs.size:=by simpa using h
  have e1:(w.alloc (.cells zs t)).setCell ⟨w.heap.size,k,none⟩ u=w.alloc (.cells (zs.setIfInBounds k u) t):=by
   simp only[World.setCell,World.alloc]
   congr 1
   grind
  have e2:(w.alloc (.cells zs t)).setCells w.heap.size k (u::us)=((w.alloc (.cells zs t)).setCell ⟨w.heap.size,k,none⟩ u).setCells w.heap.size (k+1) us:=rfl;rw[e2,e1,ES w t us (k+1) (zs.setIfInBounds k u) (by simp;omega)]
  congr 3
  have hk:k<zs.toList.length:=by simp;omega
  rw[aCn,aAz,aA6 hk,aCi (azJ _)];simp
theorem wz{P:Program}{w:World}{ops:Array Oper}{rest:List Oper}{o:Oper}{a:Act}{Q:Exit→Act→World→Prop}(Km:o.guard=none)(ty:TypeId)(x:Operand)(ho:o.op=.load ty x)
  {b off:Nat} (hx:a.eval x=.pointer (some ⟨b,off,none⟩)) {us:List Value} (hc:w.rangeAt b off us) {d:TypeDesc} (hu:P.underlying ty=some d) (hd:d.isRow=true) {n:Nat} (hi:(P.info? ty).map (·.size)=some n) (hl:us.length=n)
  (h:wpList P ops Q rest (a.put o.dst (.agg us.toArray)) w):wpList P ops Q (o::rest) a w:=
 wpList_load_mid Km ty x ho b off hx us d hc hu hd (by rw[hi,hl]) h
theorem qQ{P:Program}{w0:World}{ops:Array Oper}{rest:List Oper}{o:Oper}{a:Act}{Q:Exit→Act→World→Prop}(Km:o.guard=none)(ty:TypeId)(x y:Operand)(ho:o.op=.store ty x y){zs:Array Value}
  (hx:a.eval x=.pointer (some ⟨w0.heap.size,0,none⟩)) {us:List Value} (hy:a.eval y=.agg us.toArray) {n:Nat} (hz:zs.size=n) (hl:us.length=n) (hi:(P.info? ty).map (·.size)=some n) (h1:∀v∈us,v.oneCell'=true)
  (hds:o.dst=none) (h:wpList P ops Q rest a (w0.alloc (.cells us.toArray ty))):wpList P ops Q (o::rest) a (w0.alloc (.cells zs ty)):=by
 have hb:=HB.new w0 ty zs;refine wpList_store_mid Km ty x y ho w0.heap.size 0 us.toArray hx hy (fun j hj=>⟨?_,hb.frozen _⟩) (by rw[hi];simp[hl]) (all_oneCell_toArray h1) ?_
 ·simp_all
 ·have e:=ES w0 ty us 0 zs (by omega)
  rw[aBb,aAs]at e;show wpList P ops Q rest (a.put o.dst undef) ((w0.alloc (.cells zs ty)).setCells w0.heap.size 0 us);rw[e,hds];exact h
theorem wX:∀(us:List Value) (k:Nat) (cs:Array Value),k+us.length=cs.size→List.foldl (fun cs x=>cs.setIfInBounds x.2 x.1) cs (us.zipIdx k)=(cs.toList.take k++us).toArray
 | [],k,cs,h=>by
  rw[aAc,aAQ (by simp at h ⊢;omega)];simp
 | u::us,k,cs,h=>by
  have h:k+(us.length+1)=cs.size:=by simpa using h
  rw[List.zipIdx_cons,aAN,wX us (k+1) _ (by simp;omega)];grind
theorem afo{P:Program}(w:World)(t e:TypeId)(us:List Value){n:Nat}{i:TypeInfo}{z:Value}(hu:P.underlying t=some (.slice e))(hi:P.info? e=some i)(hz:i.zero=some z)(hs:i.size=n)(hn:0<n)(hn2:n≤1000)(hl:us.length=n):
  (Instr.buildSlice t 1 #[(0,.agg us.toArray)]).run P w=.ok (.slice (some ⟨w.heap.size,0,none⟩) 1 1) (w.alloc (.cells us.toArray e)):=by
 refine run_buildSlice (P:=P) w t e 1 #[(0,.agg us.toArray)] us.toArray i z hu hi hz (by omega) (by omega) ?_;have h1:((Array.range (1*i.size)).map (z.cells[· % z.cells.size]!)).size=n:=by simp[hs]
 generalize (Array.range (1*i.size)).map (z.cells[· % z.cells.size]!)=cs at h1;simp[Instr.fill,Value.cells,hs,hl,h1];have:=wX us 0 cs (by omega)
 grind
theorem Hw.tk{P:Program}{ops:Array Oper}{Q:Exit→Act→World→Prop}{md:Region.Mode}{S:World→Prop}(i:Nat){oi:Oper}{v:Value}{fuel:Nat}{ax:Array Bool}{a:Act}{w:World}(hi:ops[i]? = some oi)(hQ:∀c a w,Q (.panic c) (a.put oi.dst v) w→Q (.panic c) a w)(hy:YieldsIf P ops S oi v a)(hS:S w)
  (h:wpAnyH P md ops Q S fuel (ax.setIfInBounds i true) (a.put oi.dst v) w) (hs:Region.noSelect ops=true:=by kernel_rfl) (hf:Region.free md ops ax i=true:=by kernel_rfl) (hr:(Region.ready md ops ax).contains i=true:=by decide +kernel):wpAnyH P md ops Q S (fuel+1) ax a w:=
 wpAnyH_take hi hs hf hr hQ hy hS h
