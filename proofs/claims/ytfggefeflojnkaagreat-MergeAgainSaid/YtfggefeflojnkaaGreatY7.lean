/- AI. -/
import Derived.Test.YtfggefeflojnkaaGreatY1
set_option linter.unusedSimpArgs false
set_option linter.unusedVariables false
open Go.IntKind (i64 u64)
namespace Go.AL
open Go.Proofs
noncomputable def ahH:cX:=zC [alH] (dE [(6,([(0,[]),(1,[]),(2,[]),(3,[]),(4,[]),(5,[]),(6,[]),(7,[]),(8,[]),(9,[])],[(17,26)]))]) 27
def afw:Nat→LD:=eO [(0,⟨[.rd 0 bV,.rd 1 bV,.c 5 (zI)],[],0⟩)]
noncomputable def aiM(f:Nat)(a:(List bR)×(List bR)):Option Bool:=aG ahH afw (zK [.tmp 4] [.v .bool]) f [.code (aB Tryz.f29)] (aQ [.rd bV,.rd bV] a)
noncomputable def aeB(f:Nat)(x:(List bR)×(List bR)×Int):Option Bool:=aG ahH afw (zK [.tmp 4] [.v .bool]) f (aV Tryz.f29 0) ((afw 0).mk' x)
theorem aie(f:Nat)(a b:List bR):aiM (f+1) (a,b) =
  bif(↑a.length:Int) != (↑b.length:Int)then some false else aeB f (a,b,0):=by kernel_rfl
theorem aeE(f:Nat)(a b:List bR)(i:Int):aeB (f+1) (a,b,i) =
  bif decide (i<(↑a.length:Int))then bif decide (0≤i)&&decide (i<(↑a.length:Int))then bif decide (0≤i)&&decide (i<(↑b.length:Int))then bif af (Pu (a.getD i.toNat zq3))then bif !decide (a.getD i.toNat zq3=b.getD i.toNat zq3)then some false else aeB f (a,b,i64.wrap (i+1))else none else none else none else some true:=by kernel_rfl
noncomputable def aes:List bR→((List bR)×(List bR)×Nat)→Bool
 | [],(a,b,i)=>true
 | uu::rest,(a,b,i)=>bif !decide (uu=b.getD (↑i:Int).toNat zq3)then false else aes rest (a,b,i+1)
noncomputable def acC:List bR→((List bR)×(List bR)×Nat)→Bool
 | [],(a,b,i)=>true
 | uu::rest,(a,b,i)=>decide ((↑i:Int)<(↑b.length:Int))&&(af (Pu uu)&&bif !decide (uu=b.getD (↑i:Int).toNat zq3)then true else acC rest (a,b,i+1))
theorem agD:∀(rest a b:List bR) (i:Nat) (hd:a.drop i=rest) (hl:a.length≤1099511627776),de (fun f=>aeB f (a,b,((i:Nat):Int))) (acC rest (a,b,i)) (aes rest (a,b,i))
 | [],a,b,i,hd,hl=>ai (fun f=>(aeE f _ _ _).trans (by simp only[fA (bT hd),fW,azP,azI]<;>rfl)) ae
 | uu::rest,a,b,i,hd,hl=>ai (fun f=>(aeE f _ _ _).trans (by simp only[cK (ak hd),bC hd,bk (ak hd) hl,fW,azQ,azP,azH]<;>rfl)) (aI (aI (ao ae (agD rest _ _ _ (aH hd) hl))))
noncomputable def ag6:((List bR)×(List bR))→Bool
 | (a,b)=>bif(↑a.length:Int) != (↑b.length:Int)then false else aes a (a,b,0)
noncomputable def ag2:((List bR)×(List bR))→Bool
 | (a,b)=>bif(↑a.length:Int) != (↑b.length:Int)then true else decide (a.length≤1099511627776)&&acC a (a,b,0)
theorem ahV:∀a:(List bR)×(List bR),de (fun f=>aiM f a) (ag2 a) (ag6 a)
 | (a,b)=>ai (fun f=>aie f _ _) (ao ae (bL fun hh=>agD _ _ _ _ rfl (azZ hh)))
theorem air:∀(r a b t:List bR) (k:Nat),(∀u∈r,af (Pu u)=true)→b.drop k=t→r.length=t.length→aes r (a,b,k)=decide (r=t)∧acC r (a,b,k)=true:=by
 refine aez aes acC (fun u=>af (Pu u)=true) (fun _ _ _=>⟨rfl,rfl⟩) fun u r a b k v t hu h=>?_
 simp only[aes,acC,bC h,cK (ak h),hu,azP];exact⟨by trivial,fun h=>by rw[h];simp⟩
theorem aqr:∀a:List bR×List bR,ke a.1=true→ag2 a=true:=fun a h=>by
 simp only[ag2,zp];by_cases e:a.1.length=a.2.length
 ·rw[(air a.1 a.1 a.2 a.2 0 (fun u hu=>uq h hu) rfl e).2];simp[e];rw[← e];have:=Bj h;omega
 ·simp[e]
theorem aqs:∀a:List bR×List bR,ke a.1=true→ag6 a=decide (a.1=a.2):=fun a h=>by
 simp only[ag6,zp];by_cases e:a.1.length=a.2.length
 ·rw[(air a.1 a.1 a.2 a.2 0 (fun u hu=>uq h hu) rfl e).1];simp[e]
 ·have:¬ a.1=a.2:=fun h=>e (by rw[h])
  simp[e,this]
noncomputable def ahA:dn:=⟨29,[.rd bV,.rd bV],[.v .bool],fun a:(List bR)×(List bR)=>ke a.1,fun a:(List bR)×(List bR)=>decide (a.1=a.2)⟩
theorem aii:zO ahA:=fl ahH afw [.tmp 4] mixed (ah aij (aC)) Tryz.func29 (bp ahV aqr aqs)
def rgI(l:List eB)(r:Rg):Int:=bu (fun g=>contains ((g.1,g.2.1),r)) l 0
def rgP(l:List eB)(r:Rg):Int×Bool:=bif decide (rgI l r≥0)then(rgI l r,true)else(0,false)
noncomputable def aeb:cX:=zC [adM] (dE []) 24
def G2:Nat→LD:=eO [(0,⟨[.box 3 3 72 2 sF,.rd 8 tP,.c 9 (zI),.c 10 (zI)],[],0⟩)]
noncomputable def ai9(f:Nat)(a:(List eB)×Rg):Option (Int×Bool):=aG aeb G2 (zK [.tmp 4,.tmp 5] [.v zI,.v .bool]) f [.code (aB Tryz.f59)] (aQ [.rd tP,.g sF] a)
noncomputable def Ar(f:Nat)(x:Rg×(List eB)×Int×Int):Option (Int×Bool):=aG aeb G2 (zK [.tmp 4,.tmp 5] [.v zI,.v .bool]) f (aV Tryz.f59 0) ((G2 0).mk' x)
theorem abL(f:Nat)(l:List eB)(r:Rg):ai9 (f+1) (l,r) =
  Ar f (r,l,(↑l.length:Int),0):=by kernel_rfl
theorem CN(f:Nat)(r:Rg)(x8:List eB)(x9 dB:Int):Ar (f+1) (r,x8,x9,dB) =
  bif decide (dB<x9)then bif decide (0≤dB)&&decide (dB<(↑x8.length:Int))then bif contains (((x8.getD dB.toNat (0,0,false)).1,(x8.getD dB.toNat (0,0,false)).2.1),r)then some (dB,true)else Ar f (r,x8,x9,i64.wrap (dB+1))else none else some (0,false):=by kernel_rfl
noncomputable def wa:List eB→(Rg×(List eB)×Int×Nat)→Int×Bool
 | [],(r,x8,x9,dB)=>(0,false)
 | uu::rest,(r,x8,x9,dB)=>bif contains ((uu.1,uu.2.1),r)then((↑dB:Int),true)else wa rest (r,x8,x9,dB+1)
noncomputable def vv:List eB→(Rg×(List eB)×Int×Nat)→Bool
 | [],(r,x8,x9,dB)=>true
 | uu::rest,(r,x8,x9,dB)=>bif contains ((uu.1,uu.2.1),r)then true else vv rest (r,x8,x9,dB+1)
theorem Sw:∀(rest:List eB) (r:Rg) (x8:List eB) (x9:Int) (dB:Nat) (hd:x8.drop dB=rest) (hn:x9=((x8.length:Nat):Int)) (hl:x8.length≤1099511627776),de (fun f=>Ar f (r,x8,x9,((dB:Nat):Int))) (vv rest (r,x8,x9,dB)) (wa rest (r,x8,x9,dB))
 | [],r,x8,x9,dB,hd,hn,hl=>ai (fun f=>(CN f _ _ _ _).trans (by simp only[iZ hn (bT hd),fW,azP,azI]<;>rfl)) ae
 | uu::rest,r,x8,x9,dB,hd,hn,hl=>ai (fun f=>(CN f _ _ _ _).trans (by simp only[iW hn (ak hd),cK (ak hd),bC hd,bk (ak hd) hl,fW,azQ,azH]<;>rfl)) (ao ae (Sw rest _ _ _ _ (aH hd) (by first | exact hn | simpa using hn) hl))
noncomputable def acK:((List eB)×Rg)→Int×Bool
 | (l,r)=>wa l (r,l,(↑l.length:Int),0)
noncomputable def aaZ:((List eB)×Rg)→Bool
 | (l,r)=>decide (l.length≤1099511627776)&&vv l (r,l,(↑l.length:Int),0)
theorem XK:∀a:(List eB)×Rg,de (fun f=>ai9 f a) (aaZ a) (acK a)
 | (l,r)=>ai (fun f=>abL f _ _) (bL fun hh=>Sw _ _ _ _ _ rfl (by first | rfl | simp) (azZ hh))
theorem XL(l:List eB)(n:Int)(rr:Rg):∀(r:List eB) (k:Nat),wa r (rr,l,n,k)=(bif decide (bu (fun g=>contains ((g.1,g.2.1),rr)) r k≥0)then(bu (fun g=>contains ((g.1,g.2.1),rr)) r k,true)else(0,false))∧vv r (rr,l,n,k)=true
 | [],k=>⟨rfl,rfl⟩
 | u::r,k=>by
  obtain⟨i1,i2⟩:=XL l n rr r (k+1);simp only[wa,vv,bu,i1,i2];rcases Bool.eq_false_or_eq_true (contains ((u.1,u.2.1),rr))with hc | hc
  ·simp only[hc,azH,azC (show((k:Nat):Int)≥0 by omega),and_self]
  ·simp only[hc,azI]
   exact⟨rfl,trivial⟩
theorem ao2:∀a:List eB×Rg,af a.1=true→aaZ a=true:=fun a h=>by simp only[aaZ,(XL _ _ _ _ _).2,aAt];exact h
theorem ao3:∀a:List eB×Rg,af a.1=true→acK a=rgP a.1 a.2:=fun a h=>by simp only[acK,(XL _ _ _ _ _).1];rfl
noncomputable def art:dn:=⟨59,[.rd tP,.g sF],[.v zI,.v .bool],fun a:(List eB)×Rg=>af a.1,fun a:(List eB)×Rg=>rgP a.1 a.2⟩
theorem adr:zO art:=fl aeb G2 [.tmp 4,.tmp 5] mixed (ah VO (aC)) Tryz.func59 (bp XK ao2 ao3)
open Go.Proofs
open Go.Proofs
abbrev Jp:List Ty:=[zI,.sl [zI],.sl [zI]]
abbrev jf:=Int×(List Int)×(List Int)
abbrev eG:List Ty:=[zI,zI,.sl [zI],.sl [zI],.sl bg,.sl bV,.sl gJ,.sl dH,.sl aF,.sl aE,.bool,zI,.sl [zI],.sl [zI],.sl bg,.sl bV,.sl gJ,.sl dH,.sl aF,.sl aE]
abbrev cC:=Int×Int×(List Int)×(List Int)×(List aL)×(List bR)×(List tm)×(List dv)×(List ag)×(List aj)×Bool×Int×(List Int)×(List Int)×(List aL)×(List bR)×(List tm)×(List dv)×(List ag)×(List aj)
def qf:List aj→aj→List aj
 | [],id=>[id]
 | u::r,id=>bif cw (u,id)then u::qf r id else bif decide (u=id)then u::r else id::u::r
theorem Lj(id:aj):∀r:List aj,(qf r id).length≤r.length+1
 | []=>azJ _
 | u::r=>by
  have:=Lj id r;simp only[qf];cases cw (u,id)<;>cases decide (u=id)<;>simp only[azH,azI,azL]<;>omega
def nY(s:aL):aL:=Ys (snd s) (Ju s) (0,0,0)
def oe(l:List aL)(d:List aj):List aL:=d.foldl (fun l id=>(tS (l,id)).1) l
theorem Pm{l:List aL}(id:aj)(h:ct l=true):ct (tS (l,id)).1=true:=by
 refine uo (by simpa [tS]using fD h) fun s hs=>?_
 obtain⟨x,hx,rfl⟩:=az4.1 (show s∈l.map (nw id)from hs);show af (nw id x).2.2.2.1=true;unfold nw;cases sH id x
 ·exact gk h hx
 ·rfl
def Fq(l:List aL)(r:bR):Bool:=decide (0≤(sQ r).2.1)&&(decide ((sQ r).2.1<(l.length:Nat))&&(!cB (l.getD (sQ r).2.1.toNat iR)&&decide (xH (l.getD (sQ r).2.1.toNat iR)=jm (Xk r))))
def ij(h:aj→Bool)(l:List aL)(r:bR)(d:List aj)(m:List Int):Int×Bool:=
 bif decide ((sQ r).1=6)then(0,cJ (tZ r) d)
 else bif decide ((sQ r).1=4)then(bif h ((tZ r).1,(tZ r).2.1,0)then(0,true)else(10,Fq l r&&!cJ (sQ r).2.2.2.1 m))
 else(0,false)
def jL(all:List ay)(id:aj):Bool:=all.any fun s=>s.1.any (ZC id)
def uB(a b:dv):Bool:=decide (a.1<b.1)
theorem XT:qt uB:=⟨fun a b h=>by simp only[uB,azM,aB6]at *;omega,fun a b c h1 h2=>by simp only[uB,aB6]at *;omega⟩
open Go.Proofs
abbrev rR(r:cC):List tm:=r.2.2.2.2.2.2.1
def aX(l:List cC):List aj:=l.foldl (fun o r=>(rR r).foldl (fun o m=>qf o m.2) o) []
def xe(l:List cC):Bool:=decide (l.length≤100)&&l.all fun r=>decide ((rR r).length≤1000)
theorem KO:∀(m:List tm) (o:List aj),(m.foldl (fun o m=>qf o m.2) o).length≤o.length+m.length
 | [],o=>azJ _
 | x::m,o=>by
  have h1:=KO m (qf o x.2);have h2:=Lj x.2 o;simp only[aAN,azL];omega
def og(h:aj→Bool)(d:List aj)(m:List Int):List bR→List aL→List bR→List dv→List aL×List bR×List dv
 | [],l,left,an=>(l,left,an)
 | r::q,l,left,an=>bif(ij h l r d m).2 then og h d m q (ny (l,(tZ r).2.1)) left (an++[((tZ r).2.1,(ij h l r d m).1)])else og h d m q l (left++[r]) an
def sJ(h:aj→Bool)(d:List aj)(m:List Int)(s:ay):ay:=((og h d m s.2.1 s.1 [] []).1,(og h d m s.2.1 s.1 [] []).2.1,s.2.2.1,ca uB (og h d m s.2.1 s.1 [] []).2.2,s.2.2.2.2)
theorem PD{l:List aL}(op:Int)(h:ct l=true):ct (ny (l,op))=true:=by
 refine uo (by simpa [ny]using fD h) fun s hs=>?_
 obtain⟨x,hx,rfl⟩:=az4.1 (show s∈l.map (mg op)from hs);show af (mg op x).2.2.2.1=true;unfold mg;have h2:af x.2.2.2.1=true:=gk h hx;cases decide (Ju x=op)
 ·exact h2
 ·exact h2
def iK(e:ag):Rg:=(e.2.2.2.2.2.2.2.1,e.2.2.2.2.2.2.2.2.1)
def iG(rs:List eB)(ow:List Int)(c:Int)(e:ag):Bool:=decide (0≤rgI rs (iK e))&&(decide (rgI rs (iK e)<(ow.length:Nat))&&decide (ow.getD (rgI rs (iK e)).toNat 0=c))
def XS(rs:List eB)(ow:List Int)(c:Int):List (ay×Int)→List ag→List ag
 | [],out=>out
 | (s,m)::r,out=>XS rs ow c r (((jQ (s.1,m)).filter (iG rs ow c)).foldl (fun s x=>cA cj x s) out)
theorem Ei:∀(l out:List ag),(l.foldl (fun s x=>cA cj x s) out).length=out.length+l.length
 | [],out=>rfl
 | x::l,out=>by rw[aAN,Ei l,oJ,azL];omega
theorem BY(l:List aL)(c:Int):(jQ (l,c)).length≤l.length:=by
 have h1:=KG c l 0;have h2:=Ei (wZ c l 0) [];show(ca cj (wZ c l 0)).length≤_;unfold ca;rw[h2];simpa using h1
def MR(a:List eB×List ay×Int×jf):List ag:=XS a.1 a.2.2.2.2.2 (a.2.2.2.2.1.getD a.2.2.1.toNat 0) (a.2.1.zip a.2.2.2.2.1) []
open Go.Proofs
def iU(au:Int)(ab:List cC)(d:List aj)(c:Int):ay:=
 bif decide (bu (fun q=>decide (q.1=c)) ab 0<0)then(List.replicate (max au 0).toNat iR,[],[],[],[],d)
 else((oe (ab.getD (bu (fun q=>decide (q.1=c)) ab 0).toNat zq5).2.2.2.2.1 d).map nY,(ab.getD (bu (fun q=>decide (q.1=c)) ab 0).toNat zq5).2.2.2.2.2.1,[],[],[],d)
def AZ(r:cC):Bool:=ct r.2.2.2.2.1&&(decide (r.2.2.2.2.1.length≤1000000)&&(ke r.2.2.2.2.2.1&&decide (r.2.2.2.2.2.1.length≤1000000)))
theorem zg(h:aj→Bool)(d:List aj)(m:List Int):∀(q:List bR) (l:List aL) (left:List bR) (an:List dv),ct l=true→ct (og h d m q l left an).1=true∧(og h d m q l left an).1.length=l.length
 | [],l,left,an,hl=>⟨hl,rfl⟩
 | r::q,l,left,an,hl=>by
  simp only[og];cases (ij h l r d m).2
  ·exact zg h d m q l _ an hl
  ·obtain⟨h1,h2⟩:=zg h d m q (ny (l,(tZ r).2.1)) left (an++[((tZ r).2.1,(ij h l r d m).1)]) (PD _ hl)
   exact⟨h1,h2.trans (by simp[ny])⟩
def SK(s:ay):Bool:=ct s.1&&(decide (s.1.length≤1000000)&&decide (s.2.1.length≤1000000))
theorem WT{h:aj→Bool}{d:List aj}{m:List Int}{s:ay}(hs:SK s=true):ct (sJ h d m s).1=true∧(sJ h d m s).1.length≤1000000:=by
 simp only[SK,azF,azM]at hs;obtain⟨h1,h2⟩:=zg h d m s.2.1 s.1 [] [] hs.1;exact⟨h1,by show(og h d m s.2.1 s.1 [] []).1.length≤_;omega⟩
def BZ(rs:List eB)(v:jf)(all:List ay):List ay→Nat→List ay
 | [],_=>[]
 | s::r,k=>(s.1,s.2.1,s.2.2.1,s.2.2.2.1,MR (rs,all,((k:Nat):Int),v),s.2.2.2.2.2)::BZ rs v all r (k+1)
theorem KH(rs:List eB)(v:jf)(all:List ay):∀(r:List ay) (k:Nat),(BZ rs v all r k).length=r.length
 | [],k=>rfl
 | s::r,k=>by simp only[BZ,azL,KH rs v all r]
theorem KJ(rs:List eB)(v:jf)(all:List ay):∀(r:List ay) (k:Nat),(BZ rs v all r k).map (·.1)=r.map (·.1)
 | [],k=>rfl
 | s::r,k=>by simp only[BZ,aAy,KJ rs v all r]
def FG(a:List eB×Int×List cC×jf):Bool:=xe a.2.2.1&&((a.2.2.1.all AZ)&&(decide (a.2.1≤1000000)&&(af a.1&&decide (a.2.2.2.2.1.length≤100))))
def gi(a:List eB×Int×List cC×jf):List ay:=
 (fun o=>(fun o2=>BZ a.1 a.2.2.2 o2 o2 0) (o.map (sJ (jL o) (aX a.2.2.1) a.2.2.2.2.1))) (a.2.2.2.2.1.map (iU a.2.1 a.2.2.1 (aX a.2.2.1)))
theorem oU(l:List cC)(h:xe l=true):(aX l).length≤100000:=by
 simp only[xe,azF,azM]at h;have key:∀(r:List cC) (o:List aj),(∀x∈r,(rR x).length≤1000)→(r.foldl (fun o r=>(rR r).foldl (fun o m=>qf o m.2) o) o).length≤o.length+1000*r.length:=by
  intro r;induction r with
  | nil=>intro o _;simp
  | cons x r ih=>
   intro o hx;have h1:=KO (rR x) o;have h2:=hx x (az1 ..);have h3:=ih ((rR x).foldl (fun o m=>qf o m.2) o) (fun y hy=>hx y (az6 _ hy));simp only[aAN,azL];omega
 have:=key l [] (fun x hx=>by have:=azU.1 h.2 x hx;simpa using this);simp only[az2]at this;show(aX l).length≤_;unfold aX;omega
theorem MB{au:Int}{ab:List cC}{d:List aj}(hs:au≤1000000)(hp:∀r∈ab,AZ r=true)(c:Int):SK (iU au ab d c)=true:=by
 have hsw:∀(d:List aj) (l:List aL),ct l=true→ct (oe l d)=true∧(oe l d).length=l.length:=by
  intro d;induction d with
  | nil=>intro l h;exact⟨h,rfl⟩
  | cons x d ih=>
   intro l h;obtain⟨h1,h2⟩:=ih (tS (l,x)).1 (Pm x h);exact⟨h1,h2.trans (by simp[tS])⟩
 have hul:∀l:List aL,ct l=true→ct (l.map nY)=true:=fun l h=>uo (by simpa using fD h) fun s hs=>by
  obtain⟨x,hx,rfl⟩:=az4.1 hs;have h2:af x.2.2.2.1=true:=gk h hx;exact h2
 by_cases h0:bu (fun q=>decide (q.1=c)) ab 0<0
 ·simp only[iU,azC h0,azH,SK,azF,azM]
  refine⟨uo (by simp;omega) fun s hs=>?_,by simp;omega,by simp⟩;rw[(aBH.1 hs).2];rfl
 ·have bO:bu (fun q:cC=>decide (q.1=c)) ab 0<0+(ab.length:Nat):=jO _ ab 0 (aBl 0)
  have hm:=hp (ab.getD (bu (fun q=>decide (q.1=c)) ab 0).toNat zq5) (by
   rw[aAm,azS (by omega)];exact aBC _)
  simp only[AZ,azF,azM]at hm;obtain⟨h1,h2⟩:=hsw d _ hm.1;simp only[iU,azK h0,azI,SK,azF,azM];exact⟨hul _ h1,by rw[aA7,h2];exact hm.2.1,hm.2.2.2⟩
open Go.Proofs
def vf:aj→List aj→List aj
 | _,[]=>[]
 | x,y::r=>bif decide (y=x)then vf x r else y::vf y r
def nD:List aj→List aj
 | []=>[]
 | x::r=>x::vf x r
def yK(a b:aj):Bool:=cw (a,b)
theorem ao8:qt yK:=⟨fun a b h=>BA h,fun a b c h1 h2=>by
 unfold yK at *;cases h:cw (c,a)with
 | false=>rfl
 | true=>
  by_cases hab:a=b
  ·subst hab;rw[h]at h2;cases h2
  ·have:=mn h1 (fun e=>hab e.symm)
   rw[jG h this]at h2;cases h2⟩
def Asc(l:List aj):Prop:=l.Pairwise fun a b=>cw (a,b)=true
theorem Asc.eq:∀{a b:List aj},Asc a→Asc b→(∀x,x∈a↔x∈b)→a=b
 | [],[],_,_,_=>rfl
 | [],y::b,_,_,h=>absurd ((h y).2 az1) (by simp)
 | x::a,[],_,_,h=>absurd ((h x).1 az1) (by simp)
 | x::a,y::b,ha,hb,h=>by
  have ha':=aAq.1 ha;have gW:=aAq.1 hb;have uH:x=y:=by
   rcases azW.1 ((h x).1 az1)with e | e
   ·exact e
   ·rcases azW.1 ((h y).2 az1)with e2 | e2
    ·exact e2.symm
    ·have h1:=ha'.1 y e2
     have h2:=gW.1 x e;rw[BA h1]at h2;cases h2
  subst uH;rw[Asc.eq ha'.2 gW.2 fun z=>?_];have:=h z;simp only[azW]at this;constructor
  ·intro hz
   rcases this.1 (.inr hz)with e | e
   ·subst e;have:=ha'.1 z hz;rw[im]at this;cases this
   ·exact e
  ·intro hz
   rcases this.2 (.inr hz)with e | e
   ·subst e;have:=gW.1 z hz;rw[im]at this;cases this
   ·exact e
theorem Bq(id:aj):∀(l:List aj) (x:aj),x∈qf l id↔x=id∨x∈l
 | [],x=>by simp[qf]
 | u::r,x=>by
  have ih:=Bq id r x;simp only[qf];cases cw (u,id)with
  | true=>simp only[azH,azW,ih];constructor<;>(intro h;rcases h with h | h | h<;>simp[h])
  | false=>
   by_cases hu:u=id
   ·rw[azC hu];simp only[azH,azI,azW,hu];constructor
    ·exact .inr
    ·rintro(h | h)
     ·exact .inl h
     ·exact h
   ·rw[azK hu];simp only[azI,azW]
theorem K5(id:aj):∀l:List aj,Asc l→Asc (qf l id)
 | [],_=>List.pairwise_singleton _ _
 | u::r,h=>by
  have h':=aAq.1 h;simp only[qf];cases hl:cw (u,id)with
  | true=>
   refine aAq.2 ⟨fun x hx=>?_,K5 id r h'.2⟩;rcases(Bq id r x).1 hx with rfl | hx
   ·exact hl
   ·exact h'.1 x hx
  | false=>
   by_cases hu:u=id
   ·rw[azC hu];exact h
   ·rw[azK hu]
    have h1:=mn hl hu;refine aAq.2 ⟨fun x hx=>?_,h⟩;rcases azW.1 hx with rfl | hx
    ·exact h1
    ·exact jG h1 (h'.1 x hx)
theorem K4:∀(l o:List aj),Asc o→Asc (l.foldl qf o)
 | [],o,h=>h
 | x::l,o,h=>K4 l _ (K5 x o h)
theorem Bo:∀(l o:List aj) (x:aj),x∈l.foldl qf o↔x∈o∨x∈l
 | [],o,x=>by simp
 | y::l,o,x=>by
  rw[aAN,Bo l,Bq,azW];constructor
  ·rintro((h | h) | h)<;>simp[h]
  ·rintro(h | h | h)<;>simp[h]
theorem Bp:∀(l:List aj) (x z:aj),(z=x∨z∈vf x l)↔(z=x∨z∈l)
 | [],x,z=>by simp[vf]
 | y::r,x,z=>by
  simp only[vf];by_cases h:y=x
  ·rw[azC h]
   subst h;rw[azH,Bp r y z,azW];constructor
   ·rintro(h | h)<;>simp[h]
   ·rintro(h | h | h)<;>simp[h]
  ·rw[azK h,azI,azW,azW]
   have:=Bp r y z;constructor
   ·rintro(h | h)
    ·exact .inl h
    ·exact .inr (this.1 h)
   ·rintro(h | h)
    ·exact .inl h
    ·exact .inr (this.2 h)
theorem CA:∀(l:List aj) (x:aj),dD yK (x::l)→Asc (x::vf x l)
 | [],x,_=>List.pairwise_singleton _ _
 | y::r,x,h=>by
  have h1:=aAq.1 h;have h2:=aAq.1 h1.2;simp only[vf];by_cases hy:y=x
  ·rw[azC hy]
   subst hy;exact CA r y h1.2
  ·rw[azK hy,azI]
   have h3:=CA r y h1.2;have uH:cw (x,y)=true:=mn (h1.1 y az1) hy;refine aAq.2 ⟨fun z hz=>?_,h3⟩;rcases azW.1 hz with rfl | hz
   ·exact uH
   ·exact jG uH ((aAq.1 h3).1 z hz)
theorem aai(l:List aj):nD (ca yK l)=l.foldl qf []:=by
 have hs:=jy ao8 l;have hp:=lb (lt:=yK) l;refine Asc.eq ?_ (K4 l [] .nil) fun x=>?_
 ·cases hq:ca yK l with
  | nil=>exact .nil
  | cons x r=>rw[hq]at hs;exact CA r x hs
 ·rw[Bo]
  cases hq:ca yK l with
  | nil=>
   rw[hq]at hp;have:l=[]:=hp.symm.eq_nil;subst this;simp[nD]
  | cons y r=>
   rw[hq]at hp;rw[← hp.mem_iff];simp only[nD,azW,aB4,false_or];exact Bp r y x
def allM(l:List cC):List aj:=l.flatMap fun r=>(rR r).map (·.2)
theorem KN(l:List cC):aX l=(allM l).foldl qf []:=by
 unfold aX allM;generalize ([]:List aj)=o;induction l generalizing o with
 | nil=>rfl
 | cons r l ih=>
  rw[aAN,aBO,aBU,ih]
  congr 1
  rw[List.foldl_map]
theorem Gk(l:List cC):nD (ca yK (allM l))=aX l:=by rw[aai,KN]
open Go.Proofs
def ga(n:Int):aj:=(place (n,4),1+place (i64.wrap (n.tdiv 4),20),0)
noncomputable def ajS:cX:=zC [gY] (dE []) 10
noncomputable def aje(f:Nat)(a:Int):Option aj:=aG ajS (eO []) (zK [.cell 2 48] [.g aE]) f [.code (aB Tryz.f69)] (aQ [.c zI] a)
theorem abU(f:Nat)(n:Int):aje (f+1) n =
  some (place (n,4),i64.wrap (1+place (i64.wrap (n.tdiv 4),20)),0):=by kernel_rfl
noncomputable def acP:Int→aj
 | n=>(place (n,4),i64.wrap (1+place (i64.wrap (n.tdiv 4),20)),0)
noncomputable def aiU:Int→Bool
 | n=>true
theorem Yq:∀a:Int,de (fun f=>aje f a) (aiU a) (acP a)
 | n=>ai (fun f=>abU f _) ae
theorem apk:∀a:Int,(fun _=>true) a=true→aiU a=true:=fun a _=>rfl
theorem jD(n k:Int)(hk:0<k)(hk2:k≤1000000):0≤place (n,k)∧place (n,k)<k:=by
 exact⟨kY _ _,oz _ hk⟩
theorem apl:∀a:Int,(fun _=>true) a=true→acP a=ga a:=fun a _=>by
 have:=jD (i64.wrap (a.tdiv 4)) 20 (by omega) (by omega);simp only[acP,ga];rw[az (by omega) (by omega)]
noncomputable def R9:dn:=⟨69,[.c zI],[.g aE],fun _=>true,ga⟩
theorem LM:zO R9:=fl ajS (eO []) [.cell 2 48] mixed (ah fk (aC)) Tryz.func69 (bp Yq apk apl)
noncomputable def ajX:cX:=zC [] (dE []) 12
noncomputable def ajr(f:Nat)(a:(List Int)×Int):Option ((List Int)):=aG ajX (eO []) (zK [.tmp 4] [.v (.sl [zI])]) f [.code (aB Tryz.f33)] (aQ [.c (.sl [zI]),.c zI] a)
theorem acj(f:Nat)(l:List Int)(n:Int):ajr (f+1) (l,n) =
  bif decide (n≥(↑l.length:Int))then some []else bif decide (0≤n)&&decide (n≤(↑l.length:Int))then some (List.drop n.toNat l)else none:=by kernel_rfl
noncomputable def ac0:((List Int)×Int)→(List Int)
 | (l,n)=>bif decide (n≥(↑l.length:Int))then[]else List.drop n.toNat l
noncomputable def abd:((List Int)×Int)→Bool
 | (l,n)=>bif decide (n≥(↑l.length:Int))then true else decide (0≤n)&&decide (n≤(↑l.length:Int))
theorem aaH:∀a:(List Int)×Int,de (fun f=>ajr f a) (abd a) (ac0 a)
 | (l,n)=>ai (fun f=>acj f _ _) (ao ae (cS ae))
theorem aq7:∀a:List Int×Int,decide (0≤a.2)=true→abd a=true:=fun a h=>by
 have h:0≤a.2:=azZ h;simp only[abd];by_cases h1:a.2≥(a.1.length:Nat)
 ·rw[azC h1];rfl
 ·rw[azK h1,azC h,azC (show a.2≤(a.1.length:Nat)by omega)];rfl
theorem aq8:∀a:List Int×Int,decide (0≤a.2)=true→ac0 a=a.1.drop a.2.toNat:=fun a h=>by
 have h:0≤a.2:=azZ h;simp only[ac0];by_cases h1:a.2≥(a.1.length:Nat)
 ·rw[azC h1,azH,aBK (by omega)]
 ·rw[azK h1,azI]
noncomputable def adQ:dn:=⟨33,[.c (.sl [zI]),.c zI],[.v (.sl [zI])],fun a:(List Int)×Int=>decide (0≤a.2),fun a:(List Int)×Int=>a.1.drop a.2.toNat⟩
theorem LP:zO adQ:=fl ajX (eO []) [.tmp 4] mixed (aC) Tryz.func33 (bp aaH aq7 aq8)
noncomputable def O2:cX:=zC [gY] (dE []) 20
def Aj:Nat→LD:=eO [(0,⟨[.c 0 (zI),.list 3 999 3 1 [zI],.c 4 (zI)],[],0⟩)]
noncomputable def ab7(f:Nat)(a:Int):Option ((List Int)):=aG O2 Aj (zK [.tmp 2] [.v (.sl [zI])]) f [.code (aB Tryz.f39)] (aQ [.c zI] a)
noncomputable def qI(f:Nat)(x:Int×(List Int)×Int):Option ((List Int)):=aG O2 Aj (zK [.tmp 2] [.v (.sl [zI])]) f (aV Tryz.f39 0) ((Aj 0).mk' x)
theorem Vh(f:Nat)(n:Int):ab7 (f+1) n =
  qI f (n,[],0):=by kernel_rfl
theorem yA(f:Nat)(n:Int)(out:List Int)(i:Int):qI (f+1) (n,out,i) =
  bif decide (i<4)then bif decide (0≤u64.wrap i)then bif place (n.fdiv (2 ^ min (u64.wrap i).toNat i64.bits),2) == 1 then bif decide ((out.length+[i].length)*8≤140737488355328)then qI f (n,out++[i],i64.wrap (i+1))else none else qI f (n,out,i64.wrap (i+1))else none else some out:=by kernel_rfl
noncomputable def gz:Nat→(Int×(List Int)×Nat)→(List Int)
 | 0,(n,out,i)=>out
 | rest+1,(n,out,i)=>bif place (n.fdiv (2 ^ min (u64.wrap (↑i:Int)).toNat i64.bits),2) == 1 then gz rest (n,out++[(↑i:Int)],i+1)else gz rest (n,out,i+1)
noncomputable def lR:Nat→(Int×(List Int)×Nat)→Bool
 | 0,(n,out,i)=>true
 | rest+1,(n,out,i)=>decide (0≤u64.wrap (↑i:Int))&&bif place (n.fdiv (2 ^ min (u64.wrap (↑i:Int)).toNat i64.bits),2) == 1 then decide ((out.length+1)*8≤140737488355328)&&lR rest (n,out++[(↑i:Int)],i+1)else lR rest (n,out,i+1)
theorem C4:∀(rest:Nat) (n:Int) (out:List Int) (i:Nat) (hd:((4:Int)-((i:Nat):Int)).toNat=rest) (hl:(4:Int)≤1099511627776),de (fun f=>qI f (n,out,((i:Nat):Int))) (lR rest (n,out,i)) (gz rest (n,out,i))
 | 0,n,out,i,hd,hl=>ai (fun f=>(yA f _ _ _).trans (by simp only[aah hd,azI]<;>rfl)) ae
 | rest+1,n,out,i,hd,hl=>ai (fun f=>(yA f _ _ _).trans (by simp only[aag hd,KQ hd hl,azH]<;>rfl)) (aI (ao (aI (C4 rest _ _ _ (u7 hd) (by first | exact hl | simpa using hl))) (C4 rest _ _ _ (u7 hd) (by first | exact hl | simpa using hl))))
noncomputable def bt:Int→(List Int)
 | n=>gz (4-(↑0:Int)).toNat (n,[],0)
noncomputable def aa6:Int→Bool
 | n=>lR (4-(↑0:Int)).toNat (n,[],0)
theorem Ue:∀a:Int,de (fun f=>ab7 f a) (aa6 a) (bt a)
 | n=>ai (fun f=>Vh f _) (C4 _ _ _ _ rfl (by decide))
theorem amQ:∀a:Int,(fun _=>true) a=true→aa6 a=true:=fun a _=>by
 have key:∀(r:Nat) (out:List Int) (i:Nat),out.length+r≤100→i+r≤100→lR r (a,out,i)=true:=by
  intro r;induction r with
  | zero=>intro out i h h2;rfl
  | succ r ih=>
   intro out i h h2;simp only[lR];rw[ih _ _ (by simp;omega) (by omega),ih _ _ (by omega) (by omega)];have:u64.wrap ((i:Nat):Int)=i:=by rw[IntKind.wrap_u64];omega
   rw[this,azC (show(0:Int)≤(i:Nat)by omega),azC (show(out.length+1)*8≤140737488355328 by omega)];generalize (place _ == 1)=b;cases b<;>rfl
 exact key 4 [] 0 (by simp) (by omega)
noncomputable def adJ:dn:=⟨39,[.c zI],[.v (.sl [zI])],fun _=>true,bt⟩
theorem VN:zO adJ:=fl O2 Aj [.tmp 2] mixed (ah fk (aC)) Tryz.func39 (bp Ue amQ (fun _ _=>rfl))
def ub:List eB:=[(0,15,false),(32768,15,false)]
noncomputable def ad2:cX:=zC [] (dE []) 4
noncomputable def abA(f:Nat)(a:Unit):Option ((List eB)):=aG ad2 (eO []) (zK [.tmp 0] [.v (.sl tP)]) f [.code (aB Tryz.f13)] (aQ [] a)
theorem UW(f:Nat):abA (f+1) () =
  some [(0,15,false),(32768,15,false)]:=by kernel_rfl
noncomputable def acG:Unit→(List eB)
 | ()=>[(0,15,false),(32768,15,false)]
noncomputable def aaS:Unit→Bool
 | ()=>true
theorem Ta:∀a:Unit,de (fun f=>abA f a) (aaS a) (acG a)
 | ()=>ai (fun f=>UW f) ae
noncomputable def Hn:dn:=⟨13,[],[.v (.sl tP)],fun _=>true,fun _=>ub⟩
theorem E1:zO Hn:=fl ad2 (eO []) [.tmp 0] mixed (aC) Tryz.func13 (bp Ta (fun _ _=>rfl) (fun _ _=>rfl))
noncomputable def ajR:cX:=zC [ahB,R9,gY,ni] (dE [(1,([(0,[]),(3,[]),(6,[]),(7,[]),(12,[]),(15,[]),(1,[]),(2,[]),(4,[]),(5,[]),(8,[]),(9,[]),(10,[]),(11,[]),(13,[]),(14,[]),(16,[])],[(5,20)]))]) 69
noncomputable def ajd(f:Nat)(a:(List Int)×cu):Option bR:=aG ajR (eO []) (zK [.cell 4 56] [.g bV]) f [.code (aB Tryz.f70)] (aQ [.rd [zI],.g gA] a)
theorem abT(f:Nat)(l:List Int)(n:cu):ajd (f+1) (l,n) =
  bif decide (0≤place (ba (l,2),2))&&decide (place (ba (l,2),2)<(↑[32,39].length:Int))then bif af n.2.2.2.1 then bif i64.wrap (1+place (ba (l,3),6)) == 1 then some ((ga (ba (l,0))).1,(ga (ba (l,0))).2.1,(ga (ba (l,0))).2.2,i64.wrap (1+place (ba (l,3),6)),place (ba (l,4),8),place (ba (l,5),8),place (ba (l,6),4),place (ba (l,7),8),i64.wrap (1+place (ba (l,8),6)),i64.wrap (12+place (ba (l,9),3)),place (ba (l,10),2),i64.wrap (place (ba (l,11),8)*2 ^ min (Int.toNat 12) i64.bits),i64.wrap (1+place (ba (l,12),3)),ba (l,13),ba (l,14),place (ba (l,1),3),[32,39].getD (place (ba (l,2),2)).toNat 0,0,0,0,[],0,0,0,0,0,0,false)else some ((ga (ba (l,0))).1,(ga (ba (l,0))).2.1,(ga (ba (l,0))).2.2,i64.wrap (1+place (ba (l,3),6)),place (ba (l,4),8),place (ba (l,5),8),place (ba (l,6),4),place (ba (l,7),8),i64.wrap (1+place (ba (l,8),6)),i64.wrap (12+place (ba (l,9),3)),place (ba (l,10),2),i64.wrap (place (ba (l,11),8)*2 ^ min (Int.toNat 12) i64.bits),i64.wrap (1+place (ba (l,12),3)),ba (l,13),ba (l,14),place (ba (l,1),3),[32,39].getD (place (ba (l,2),2)).toNat 0,n)else none else none:=by kernel_rfl
noncomputable def RP:((List Int)×cu)→bR
 | (l,n)=>bif i64.wrap (1+place (ba (l,3),6)) == 1 then((ga (ba (l,0))).1,(ga (ba (l,0))).2.1,(ga (ba (l,0))).2.2,i64.wrap (1+place (ba (l,3),6)),place (ba (l,4),8),place (ba (l,5),8),place (ba (l,6),4),place (ba (l,7),8),i64.wrap (1+place (ba (l,8),6)),i64.wrap (12+place (ba (l,9),3)),place (ba (l,10),2),i64.wrap (place (ba (l,11),8)*2 ^ min (Int.toNat 12) i64.bits),i64.wrap (1+place (ba (l,12),3)),ba (l,13),ba (l,14),place (ba (l,1),3),[32,39].getD (place (ba (l,2),2)).toNat 0,0,0,0,[],0,0,0,0,0,0,false)else((ga (ba (l,0))).1,(ga (ba (l,0))).2.1,(ga (ba (l,0))).2.2,i64.wrap (1+place (ba (l,3),6)),place (ba (l,4),8),place (ba (l,5),8),place (ba (l,6),4),place (ba (l,7),8),i64.wrap (1+place (ba (l,8),6)),i64.wrap (12+place (ba (l,9),3)),place (ba (l,10),2),i64.wrap (place (ba (l,11),8)*2 ^ min (Int.toNat 12) i64.bits),i64.wrap (1+place (ba (l,12),3)),ba (l,13),ba (l,14),place (ba (l,1),3),[32,39].getD (place (ba (l,2),2)).toNat 0,n)
noncomputable def QR:((List Int)×cu)→Bool
 | (l,n)=>decide (0≤place (ba (l,2),2))&&decide (place (ba (l,2),2)<(↑[32,39].length:Int))&&af n.2.2.2.1
theorem Yo:∀a:(List Int)×cu,de (fun f=>ajd f a) (QR a) (RP a)
 | (l,n)=>ai (fun f=>abT f _ _) (aI (cS (aT ae ae)))
def wN(a:List Int×cu):bR:=apm (ga (ba (a.1,0))) (1+place (ba (a.1,3),6),place (ba (a.1,4),8),place (ba (a.1,5),8),place (ba (a.1,6),4),place (ba (a.1,7),8),1+place (ba (a.1,8),6),12+place (ba (a.1,9),3),place (ba (a.1,10),2),place (ba (a.1,11),8)*4096,1+place (ba (a.1,12),3),ba (a.1,13),ba (a.1,14)) (place (ba (a.1,1),3)) ([32,39].getD (place (ba (a.1,2),2)).toNat 0) (bif decide (place (ba (a.1,3),6)=0)then sz else a.2)
theorem JX:∀a:List Int×cu,af a.2.2.2.2.1=true→QR a=true∧RP a=wN a:=by
 rintro⟨l,n⟩ h;have p3:=jD (ba (l,3)) 6 (by omega) (by omega);have p8:=jD (ba (l,8)) 6 (by omega) (by omega);have p9:=jD (ba (l,9)) 3 (by omega) (by omega);have p11:=jD (ba (l,11)) 8 (by omega) (by omega);have H8:=jD (ba (l,12)) 3 (by omega) (by omega);have p2:=jD (ba (l,2)) 2 (by omega) (by omega);have e12:(2:Int) ^ min (Int.toNat 12) i64.bits=4096:=by decide
 constructor
 ·simp only[QR,h,aAt,azF,azM]
  exact⟨p2.1,p2.2⟩
 ·simp only[RP,wN,e12]
  rw[az (n:=1+place (ba (l,3),6)) (by omega) (by omega),az (n:=1+place (ba (l,8),6)) (by omega) (by omega),az (n:=12+place (ba (l,9),3)) (by omega) (by omega),az (n:=place (ba (l,11),8)*4096) (by omega) (by omega),az (n:=1+place (ba (l,12),3)) (by omega) (by omega)];by_cases h0:place (ba (l,3),6)=0
  ·rw[azC h0,show(1+place (ba (l,3),6) == 1)=true from by rw[xm];exact azC (by omega)]
   rfl
  ·rw[azK h0,show(1+place (ba (l,3),6) == 1)=false from by rw[xm];exact azK (by omega)]
   rfl
theorem api:∀a:List Int×cu,af a.2.2.2.2.1=true→QR a=true:=fun a h=>(JX a h).1
theorem apj:∀a:List Int×cu,af a.2.2.2.2.1=true→RP a=wN a:=fun a h=>(JX a h).2
noncomputable def adx:dn:=⟨70,[.rd [zI],.g gA],[.g bV],fun a:(List Int)×cu=>af a.2.2.2.2.1,wN⟩
theorem adw:zO adx:=fl ajR (eO []) [.cell 4 56] mixed (ah Hs (ah LM (ah fk (ah gR (aC))))) Tryz.func70 (bp Yo api apj)
noncomputable def aej:cX:=⟨Tryz.prog,[ajJ,adk],dE [],50,[],[(21,bg),(33,bV),(45,gJ)],[],[]⟩
def G5:Nat→LD:=eO [(0,⟨[.rd 0 eG,.list 3 999 40 20 eG,.c 4 (zI)],[],0⟩)]
noncomputable def ajm(f:Nat)(a:(List cC)):Option ((List cC)):=aG aej G5 (zK [.tmp 2] [.v (.sl eG)]) f [.code (aB Tryz.f18)] (aQ [.rd eG] a)
noncomputable def Ay(f:Nat)(x:(List cC)×(List cC)×Int):Option ((List cC)):=aG aej G5 (zK [.tmp 2] [.v (.sl eG)]) f (aV Tryz.f18 0) ((G5 0).mk' x)
theorem ab6(f:Nat)(l:List cC):ajm (f+1) l =
  bif decide (l.length*416≤140737488355328)then Ay f (l,l,0)else none:=by kernel_rfl
theorem CS(f:Nat)(l out:List cC)(i:Int):Ay (f+1) (l,out,i) =
  bif decide (i<(↑out.length:Int))then bif decide (0≤i)&&decide (i<(↑l.length:Int))then bif ct (l.getD i.toNat zq5).2.2.2.2.1 then bif decide (0≤i)&&decide (i<(↑out.length:Int))then bif decide (0≤i)&&decide (i<(↑l.length:Int))then bif ke (l.getD i.toNat zq5).2.2.2.2.2.1 then bif decide (0≤i)&&decide (i<(↑(out.set i.toNat (bG (bG (bG (bG (H7 (l.getD i.toNat zq5).2.2.2.2.1)))) (out.getD i.toNat zq5))).length:Int))then bif decide (0≤i)&&decide (i<(↑l.length:Int))then bif decide (List.length (l.getD i.toNat zq5).2.2.2.2.2.2.1*32≤140737488355328)then bif decide (0≤i)&&decide (i<(↑((out.set i.toNat (bG (bG (bG (bG (H7 (l.getD i.toNat zq5).2.2.2.2.1)))) (out.getD i.toNat zq5))).set i.toNat (bG (bG (bG (bG (bG (H7 (l.getD i.toNat zq5).2.2.2.2.2.1))))) ((out.set i.toNat (bG (bG (bG (bG (H7 (l.getD i.toNat zq5).2.2.2.2.1)))) (out.getD i.toNat zq5))).getD i.toNat zq5))).length:Int))then Ay f (l,((out.set i.toNat (bG (bG (bG (bG (H7 (l.getD i.toNat zq5).2.2.2.2.1)))) (out.getD i.toNat zq5))).set i.toNat (bG (bG (bG (bG (bG (H7 (l.getD i.toNat zq5).2.2.2.2.2.1))))) ((out.set i.toNat (bG (bG (bG (bG (H7 (l.getD i.toNat zq5).2.2.2.2.1)))) (out.getD i.toNat zq5))).getD i.toNat zq5))).set i.toNat (bG (bG (bG (bG (bG (bG (H7 (l.getD i.toNat zq5).2.2.2.2.2.2.1)))))) (((out.set i.toNat (bG (bG (bG (bG (H7 (l.getD i.toNat zq5).2.2.2.2.1)))) (out.getD i.toNat zq5))).set i.toNat (bG (bG (bG (bG (bG (H7 (l.getD i.toNat zq5).2.2.2.2.2.1))))) ((out.set i.toNat (bG (bG (bG (bG (H7 (l.getD i.toNat zq5).2.2.2.2.1)))) (out.getD i.toNat zq5))).getD i.toNat zq5))).getD i.toNat zq5)),i64.wrap (i+1))else none else none else none else none else none else none else none else none else none else some out:=by kernel_rfl
def NM(l:List cC):Bool:=decide (l.length≤100)&&l.all fun r=>ct r.2.2.2.2.1&&(ke r.2.2.2.2.2.1&&decide ((rR r).length≤1000))
theorem aiL(l:List cC)(hl:l.length≤100)(hp:∀r∈l,ct r.2.2.2.2.1=true∧ke r.2.2.2.2.2.1=true∧(rR r).length≤1000):∀(r:List cC) (k:Nat),l.drop k=r→∃f,Ay f (l,l,((k:Nat):Int))=some l
 | [],k,h=>⟨1,(CS 0 _ _ _).trans (by rw[fA (bT h)];rfl)⟩
 | u::r,k,h=>by
  have hk:=ak h;obtain⟨f,hf⟩:=aiL l hl hp r (k+1) (aH h);obtain⟨h1,h2,h3⟩:=hp u (azO (rn h));have h3:decide (List.length u.2.2.2.2.2.2.1*32≤140737488355328)=true:=azC (by have:List.length u.2.2.2.2.2.2.1≤1000:=h3;omega);have e1:bG (bG (bG (bG (H7 u.2.2.2.2.1)))) u=u:=rfl;have e2:bG (bG (bG (bG (bG (H7 u.2.2.2.2.2.1))))) u=u:=rfl;have e3:bG (bG (bG (bG (bG (bG (H7 u.2.2.2.2.2.2.1)))))) u=u:=rfl;refine⟨f+1,(CS f _ _ _).trans ?_⟩;simp only[cK hk,fW,bC h,h1,h2,h3,e1,e2,e3,tW h,azQ,azH];rw[az (by omega) (by omega)];exact hf
theorem ag5:∀l:List cC,NM l=true→∃f,ajm f l=some l:=fun l h=>by
 simp only[NM,azF,azM]at h;obtain⟨f,hf⟩:=aiL l h.1 (fun r hr=>by have:=azU.1 h.2 r hr;simp only[azF,azM]at this;exact this) l 0 rfl;refine⟨f+1,(ab6 f _).trans ?_⟩;rw[azC (show l.length*416≤140737488355328 by omega)];exact hf
noncomputable def adI:dn:=⟨18,[.rd eG],[.v (.sl eG)],NM,fun a=>(fun l=>l:(List cC)→(List cC)) a⟩
theorem adH:zO adI:=fl aej G5 [.tmp 2] mixed (ah adG (ah VA (aC))) Tryz.func18 ag5
def dp(a:Int×Int×List cC):ay:=bif decide (bu (fun q=>decide (q.1=a.1)) a.2.2 0<0)then(List.replicate (max a.2.1 0).toNat iR,[],[],[],[],[])
 else((a.2.2.getD (bu (fun q=>decide (q.1=a.1)) a.2.2 0).toNat zq5).2.2.2.2.1,(a.2.2.getD (bu (fun q=>decide (q.1=a.1)) a.2.2 0).toNat zq5).2.2.2.2.2.1,[],[],[],[])
def SM(a:Int×Int×List cC):Bool:=decide (a.2.1≤1000000)&&(decide (a.2.2.length≤100)&&a.2.2.all AZ)
