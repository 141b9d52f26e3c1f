/- AI. -/
import Derived.Test.YtfggefeflojnkaaGreatY1
set_option linter.unusedVariables false
open Go.IntKind (i64 u64)
namespace Go.AL
open Go.Proofs
theorem mk_eq(u v:tm):(u.1 == v.1&&(u.2.1 == v.2.1&&(u.2.2.1 == v.2.2.1&&(u.2.2.2 == v.2.2.2&&true))))=decide (u=v):=by
 grind
theorem aC7(u v:dv):(u.1 == v.1&&(u.2 == v.2&&true))=decide (u=v):=by
 grind
noncomputable def ar4:cX:=zC [] (dE [(6,([(0,[]),(1,[]),(2,[]),(3,[]),(4,[]),(5,[]),(6,[]),(7,[]),(8,[])],[(17,25)]))]) 26
def anF:Nat→LD:=eO [(0,⟨[.rd 0 gJ,.rd 1 gJ,.c 5 (zI)],[],0⟩)]
noncomputable def au7(f:Nat)(a:(List tm)×(List tm)):Option Bool:=aG ar4 anF (zK [.tmp 4] [.v .bool]) f [.code (aB Tryz.f76)] (aQ [.rd gJ,.rd gJ] a)
noncomputable def ak9(f:Nat)(x:(List tm)×(List tm)×Int):Option Bool:=aG ar4 anF (zK [.tmp 4] [.v .bool]) f (aV Tryz.f76 0) ((anF 0).mk' x)
theorem asX(f:Nat)(a:List tm)(b:List tm):au7 (f+1) (a,b) =
  bif(↑a.length:Int) != (↑b.length:Int)then some false else ak9 f (a,b,0):=by kernel_rfl
theorem ami(f:Nat)(a:List tm)(b:List tm)(i:Int):ak9 (f+1) (a,b,i) =
  bif decide (i<(↑a.length:Int))then bif decide (0≤i)&&decide (i<(↑a.length:Int))then bif decide (0≤i)&&decide (i<(↑b.length:Int))then bif !((a.getD i.toNat (0,0,0,0)).1 == (b.getD i.toNat (0,0,0,0)).1&&((a.getD i.toNat (0,0,0,0)).2.1 == (b.getD i.toNat (0,0,0,0)).2.1&&((a.getD i.toNat (0,0,0,0)).2.2.1 == (b.getD i.toNat (0,0,0,0)).2.2.1&&((a.getD i.toNat (0,0,0,0)).2.2.2 == (b.getD i.toNat (0,0,0,0)).2.2.2&&true))))then some false else ak9 f (a,b,i64.wrap (i+1))else none else none else some true:=by kernel_rfl
noncomputable def agC:List tm→((List tm)×(List tm)×Nat)→Bool
 | [],(a,b,i)=>true
 | uu::rest,(a,b,i)=>bif !(uu.1 == (b.getD (↑i:Int).toNat (0,0,0,0)).1&&(uu.2.1 == (b.getD (↑i:Int).toNat (0,0,0,0)).2.1&&(uu.2.2.1 == (b.getD (↑i:Int).toNat (0,0,0,0)).2.2.1&&(uu.2.2.2 == (b.getD (↑i:Int).toNat (0,0,0,0)).2.2.2&&true))))then false else agC rest (a,b,i+1)
noncomputable def agp:List tm→((List tm)×(List tm)×Nat)→Bool
 | [],(a,b,i)=>true
 | uu::rest,(a,b,i)=>decide ((↑i:Int)<(↑b.length:Int))&&bif !(uu.1 == (b.getD (↑i:Int).toNat (0,0,0,0)).1&&(uu.2.1 == (b.getD (↑i:Int).toNat (0,0,0,0)).2.1&&(uu.2.2.1 == (b.getD (↑i:Int).toNat (0,0,0,0)).2.2.1&&(uu.2.2.2 == (b.getD (↑i:Int).toNat (0,0,0,0)).2.2.2&&true))))then true else agp rest (a,b,i+1)
theorem arj:∀(rest:List tm) (a:List tm) (b:List tm) (i:Nat) (hd:a.drop i=rest) (hl:a.length≤1099511627776),de (fun f=>ak9 f (a,b,((i:Nat):Int))) (agp rest (a,b,i)) (agC rest (a,b,i))
 | [],a,b,i,hd,hl=>ai (fun f=>(ami f _ _ _).trans (by simp only[fA (bT hd),fW,azP,azI]<;>rfl)) ae
 | uu::rest,a,b,i,hd,hl=>ai (fun f=>(ami f _ _ _).trans (by simp only[cK (ak hd),bC hd,bk (ak hd) hl,fW,azQ,azP,azH]<;>rfl)) (aI (ao ae (arj rest _ _ _ (aH hd) hl)))
noncomputable def arW:((List tm)×(List tm))→Bool
 | (a,b)=>bif(↑a.length:Int) != (↑b.length:Int)then false else agC a (a,b,0)
noncomputable def arN:((List tm)×(List tm))→Bool
 | (a,b)=>bif(↑a.length:Int) != (↑b.length:Int)then true else decide (a.length≤1099511627776)&&agp a (a,b,0)
theorem asn:∀a:(List tm)×(List tm),de (fun f=>au7 f a) (arN a) (arW a)
 | (a,b)=>ai (fun f=>asX f _ _) (ao ae (bL fun hh=>arj _ _ _ _ rfl (azZ hh)))
theorem auc:∀(r a b t:List tm) (k:Nat),b.drop k=t→r.length=t.length→agC r (a,b,k)=decide (r=t)∧agp r (a,b,k)=true:=by
 refine DP agC agp (fun _ _ _=>⟨rfl,rfl⟩) fun u r a b k v t h=>?_
 simp only[agC,agp,bC h,cK (ak h),mk_eq,azP];grind
theorem axP:∀a:List tm×List tm,af a.1=true→arN a=true:=fun a h=>by
 simp only[arN,zp];by_cases e:a.1.length=a.2.length
 ·rw[(auc a.1 a.1 a.2 a.2 0 rfl e).2];simp[e];rw[← e];exact azZ h
 ·simp[e]
theorem axQ:∀a:List tm×List tm,af a.1=true→arW a=decide (a.1=a.2):=fun a h=>by
 grind[arW,zp,auc]
noncomputable def avF:dn:=⟨76,[.rd gJ,.rd gJ],[.v .bool],fun a:(List tm)×(List tm)=>af a.1,fun a:(List tm)×(List tm)=>decide (a.1=a.2)⟩
theorem ato:zO avF:=fl ar4 anF [.tmp 4] mixed (aC) Tryz.func76 (bp asn axP axQ)
noncomputable def ar6:cX:=zC [] (dE [(6,([(0,[]),(1,[]),(2,[]),(3,[]),(4,[]),(5,[]),(6,[]),(7,[]),(8,[])],[(17,25)]))]) 26
def anH:Nat→LD:=eO [(0,⟨[.rd 0 dH,.rd 1 dH,.c 5 (zI)],[],0⟩)]
noncomputable def au9(f:Nat)(a:(List dv)×(List dv)):Option Bool:=aG ar6 anH (zK [.tmp 4] [.v .bool]) f [.code (aB Tryz.f77)] (aQ [.rd dH,.rd dH] a)
noncomputable def alH(f:Nat)(x:(List dv)×(List dv)×Int):Option Bool:=aG ar6 anH (zK [.tmp 4] [.v .bool]) f (aV Tryz.f77 0) ((anH 0).mk' x)
theorem as2(f:Nat)(a:List dv)(b:List dv):au9 (f+1) (a,b) =
  bif(↑a.length:Int) != (↑b.length:Int)then some false else alH f (a,b,0):=by kernel_rfl
theorem aml(f:Nat)(a:List dv)(b:List dv)(i:Int):alH (f+1) (a,b,i) =
  bif decide (i<(↑a.length:Int))then bif decide (0≤i)&&decide (i<(↑a.length:Int))then bif decide (0≤i)&&decide (i<(↑b.length:Int))then bif !((a.getD i.toNat (0,0)).1 == (b.getD i.toNat (0,0)).1&&((a.getD i.toNat (0,0)).2 == (b.getD i.toNat (0,0)).2&&true))then some false else alH f (a,b,i64.wrap (i+1))else none else none else some true:=by kernel_rfl
noncomputable def agD:List dv→((List dv)×(List dv)×Nat)→Bool
 | [],(a,b,i)=>true
 | uu::rest,(a,b,i)=>bif !(uu.1 == (b.getD (↑i:Int).toNat (0,0)).1&&(uu.2 == (b.getD (↑i:Int).toNat (0,0)).2&&true))then false else agD rest (a,b,i+1)
noncomputable def agq:List dv→((List dv)×(List dv)×Nat)→Bool
 | [],(a,b,i)=>true
 | uu::rest,(a,b,i)=>decide ((↑i:Int)<(↑b.length:Int))&&bif !(uu.1 == (b.getD (↑i:Int).toNat (0,0)).1&&(uu.2 == (b.getD (↑i:Int).toNat (0,0)).2&&true))then true else agq rest (a,b,i+1)
theorem arn:∀(rest:List dv) (a:List dv) (b:List dv) (i:Nat) (hd:a.drop i=rest) (hl:a.length≤1099511627776),de (fun f=>alH f (a,b,((i:Nat):Int))) (agq rest (a,b,i)) (agD rest (a,b,i))
 | [],a,b,i,hd,hl=>ai (fun f=>(aml f _ _ _).trans (by simp only[fA (bT hd),fW,azP,azI]<;>rfl)) ae
 | uu::rest,a,b,i,hd,hl=>ai (fun f=>(aml f _ _ _).trans (by simp only[cK (ak hd),bC hd,bk (ak hd) hl,fW,azQ,azP,azH]<;>rfl)) (aI (ao ae (arn rest _ _ _ (aH hd) hl)))
noncomputable def arX:((List dv)×(List dv))→Bool
 | (a,b)=>bif(↑a.length:Int) != (↑b.length:Int)then false else agD a (a,b,0)
noncomputable def arO:((List dv)×(List dv))→Bool
 | (a,b)=>bif(↑a.length:Int) != (↑b.length:Int)then true else decide (a.length≤1099511627776)&&agq a (a,b,0)
theorem asp:∀a:(List dv)×(List dv),de (fun f=>au9 f a) (arO a) (arX a)
 | (a,b)=>ai (fun f=>as2 f _ _) (ao ae (bL fun hh=>arn _ _ _ _ rfl (azZ hh)))
theorem aug:∀(r a b t:List dv) (k:Nat),b.drop k=t→r.length=t.length→agD r (a,b,k)=decide (r=t)∧agq r (a,b,k)=true:=by
 refine DP agD agq (fun _ _ _=>⟨rfl,rfl⟩) fun u r a b k v t h=>?_
 simp only[agD,agq,bC h,cK (ak h),aC7,azP];grind
theorem axV:∀a:List dv×List dv,af a.1=true→arO a=true:=fun a h=>by
 simp only[arO,zp];by_cases e:a.1.length=a.2.length
 ·rw[(aug a.1 a.1 a.2 a.2 0 rfl e).2];simp[e];rw[← e];exact azZ h
 ·simp[e]
theorem axW:∀a:List dv×List dv,af a.1=true→arX a=decide (a.1=a.2):=fun a h=>by
 grind[arX,zp,aug]
noncomputable def avI:dn:=⟨77,[.rd dH,.rd dH],[.v .bool],fun a:(List dv)×(List dv)=>af a.1,fun a:(List dv)×(List dv)=>decide (a.1=a.2)⟩
theorem aty:zO avI:=fl ar6 anH [.tmp 4] mixed (aC) Tryz.func77 (bp asp axV axW)
noncomputable def ar3:cX:=zC [avD] (dE [(6,([(0,[]),(1,[]),(2,[]),(3,[]),(4,[]),(5,[]),(6,[]),(7,[]),(8,[]),(9,[])],[(17,26)]))]) 27
def anE:Nat→LD:=eO [(0,⟨[.rd 0 bV,.rd 1 bV,.c 5 (zI)],[],0⟩)]
noncomputable def au3(f:Nat)(a:(List bR)×(List bR)):Option Bool:=aG ar3 anE (zK [.tmp 4] [.v .bool]) f [.code (aB Tryz.f29)] (aQ [.rd bV,.rd bV] a)
noncomputable def akR(f:Nat)(x:(List bR)×(List bR)×Int):Option Bool:=aG ar3 anE (zK [.tmp 4] [.v .bool]) f (aV Tryz.f29 0) ((anE 0).mk' x)
theorem asS(f:Nat)(a:List bR)(b:List bR):au3 (f+1) (a,b) =
  bif(↑a.length:Int) != (↑b.length:Int)then some false else akR f (a,b,0):=by kernel_rfl
theorem ame(f:Nat)(a:List bR)(b:List bR)(i:Int):akR (f+1) (a,b,i) =
  bif decide (i<(↑a.length:Int))then bif decide (0≤i)&&decide (i<(↑a.length:Int))then bif decide (0≤i)&&decide (i<(↑b.length:Int))then bif af (Pu (a.getD i.toNat zq3))then bif !decide (a.getD i.toNat zq3=b.getD i.toNat zq3)then some false else akR f (a,b,i64.wrap (i+1))else none else none else none else some true:=by kernel_rfl
noncomputable def agB:List bR→((List bR)×(List bR)×Nat)→Bool
 | [],(a,b,i)=>true
 | uu::rest,(a,b,i)=>bif !decide (uu=b.getD (↑i:Int).toNat zq3)then false else agB rest (a,b,i+1)
noncomputable def agl:List bR→((List bR)×(List bR)×Nat)→Bool
 | [],(a,b,i)=>true
 | uu::rest,(a,b,i)=>decide ((↑i:Int)<(↑b.length:Int))&&(af (Pu uu)&&bif !decide (uu=b.getD (↑i:Int).toNat zq3)then true else agl rest (a,b,i+1))
theorem arh:∀(rest:List bR) (a:List bR) (b:List bR) (i:Nat) (hd:a.drop i=rest) (hl:a.length≤1099511627776),de (fun f=>akR f (a,b,((i:Nat):Int))) (agl rest (a,b,i)) (agB rest (a,b,i))
 | [],a,b,i,hd,hl=>ai (fun f=>(ame f _ _ _).trans (by simp only[fA (bT hd),fW,azP,azI]<;>rfl)) ae
 | uu::rest,a,b,i,hd,hl=>ai (fun f=>(ame f _ _ _).trans (by simp only[cK (ak hd),bC hd,bk (ak hd) hl,fW,azQ,azP,azH]<;>rfl)) (aI (aI (ao ae (arh rest _ _ _ (aH hd) hl))))
noncomputable def arV:((List bR)×(List bR))→Bool
 | (a,b)=>bif(↑a.length:Int) != (↑b.length:Int)then false else agB a (a,b,0)
noncomputable def arM:((List bR)×(List bR))→Bool
 | (a,b)=>bif(↑a.length:Int) != (↑b.length:Int)then true else decide (a.length≤1099511627776)&&agl a (a,b,0)
theorem asl:∀a:(List bR)×(List bR),de (fun f=>au3 f a) (arM a) (arV a)
 | (a,b)=>ai (fun f=>asS f _ _) (ao ae (bL fun hh=>arh _ _ _ _ rfl (azZ hh)))
theorem at8:∀(r a b t:List bR) (k:Nat),(∀u∈r,af (Pu u)=true)→b.drop k=t→r.length=t.length→agB r (a,b,k)=decide (r=t)∧agl r (a,b,k)=true:=by
 refine aiB agB agl (fun u=>af (Pu u)=true) (fun _ _ _=>⟨rfl,rfl⟩) fun u r a b k v t hu h=>?_
 simp only[agB,agl,bC h,cK (ak h),hu,azP];grind
theorem axK:∀a:List bR×List bR,ke a.1=true→arM a=true:=fun a h=>by
 simp only[arM,zp];by_cases e:a.1.length=a.2.length
 ·rw[(at8 a.1 a.1 a.2 a.2 0 (fun u hu=>uq h hu) rfl e).2];grind[Bj]
 ·simp[e]
theorem axL:∀a:List bR×List bR,ke a.1=true→arV a=decide (a.1=a.2):=fun a h=>by
 grind[arV,zp,at8,uq]
noncomputable def avC:dn:=⟨29,[.rd bV,.rd bV],[.v .bool],fun a:(List bR)×(List bR)=>ke a.1,fun a:(List bR)×(List bR)=>decide (a.1=a.2)⟩
theorem atj:zO avC:=fl ar3 anE [.tmp 4] mixed (ah atl (aC)) Tryz.func29 (bp asl axK axL)
noncomputable def avZ:cX:=zC [] (dE []) 8
noncomputable def avc(f:Nat)(a:eB):Option Rg:=aG avZ (eO []) (zK [.cell 2 72] [.g sF]) f [.code (aB Tryz.f64)] (aQ [.g tP] a)
theorem as5(f:Nat)(r:eB):avc (f+1) r =
  some (r.1,r.2.1):=by kernel_rfl
noncomputable def avu:eB→Rg
 | r=>(r.1,r.2.1)
noncomputable def auW:eB→Bool
 | r=>true
theorem asr:∀a:eB,de (fun f=>avc f a) (auW a) (avu a)
 | r=>ai (fun f=>as5 f _) ae
theorem ax0:∀a:eB,(fun _=>true) a=true→auW a=true:=fun a _=>rfl
theorem ax1:∀a:eB,(fun _=>true) a=true→avu a=(a.1,a.2.1):=fun a _=>rfl
noncomputable def avL:dn:=⟨64,[.g tP],[.g sF],fun _=>true,fun a:eB=>(a.1,a.2.1)⟩
theorem atF:zO avL:=fl avZ (eO []) [.cell 2 72] mixed (aC) Tryz.func64 (bp asr ax0 ax1)
def rgI(l:List eB)(r:Rg):Int:=bu (fun g=>contains ((g.1,g.2.1),r)) l 0
noncomputable def av1:cX:=zC [avL,R6] (dE [(4,([(0,[]),(1,[]),(2,[]),(3,[]),(5,[]),(4,[]),(6,[])],[(12,18)]))]) 20
def aqh:Nat→LD:=eO [(0,⟨[.rd 0 tP,.box 3 3 72 2 sF,.c 5 (zI)],[],0⟩)]
noncomputable def axu(f:Nat)(a:(List eB)×Rg):Option Int:=aG av1 aqh (zK [.tmp 4] [.v zI]) f [.code (aB Tryz.f22)] (aQ [.rd tP,.g sF] a)
noncomputable def anR(f:Nat)(x:(List eB)×Rg×Int):Option Int:=aG av1 aqh (zK [.tmp 4] [.v zI]) f (aV Tryz.f22 0) ((aqh 0).mk' x)
theorem avh(f:Nat)(l:List eB)(r:Rg):axu (f+1) (l,r) =
  anR f (l,r,0):=by kernel_rfl
theorem anY(f:Nat)(l:List eB)(r:Rg)(i:Int):anR (f+1) (l,r,i) =
  bif decide (i<(↑l.length:Int))then bif decide (0≤i)&&decide (i<(↑l.length:Int))then bif contains (((l.getD i.toNat (0,0,false)).1,(l.getD i.toNat (0,0,false)).2.1),r)then some i else anR f (l,r,i64.wrap (i+1))else none else some (-1):=by kernel_rfl
noncomputable def al4:List eB→((List eB)×Rg×Nat)→Int
 | [],(l,r,i)=>-1
 | uu::rest,(l,r,i)=>bif contains ((uu.1,uu.2.1),r)then(↑i:Int)else al4 rest (l,r,i+1)
noncomputable def aju:List eB→((List eB)×Rg×Nat)→Bool
 | [],(l,r,i)=>true
 | uu::rest,(l,r,i)=>bif contains ((uu.1,uu.2.1),r)then true else aju rest (l,r,i+1)
theorem asg:∀(rest:List eB) (l:List eB) (r:Rg) (i:Nat) (hd:l.drop i=rest) (hl:l.length≤1099511627776),de (fun f=>anR f (l,r,((i:Nat):Int))) (aju rest (l,r,i)) (al4 rest (l,r,i))
 | [],l,r,i,hd,hl=>ai (fun f=>(anY f _ _ _).trans (by simp only[fA (bT hd),fW,azP,azI]<;>rfl)) ae
 | uu::rest,l,r,i,hd,hl=>ai (fun f=>(anY f _ _ _).trans (by simp only[cK (ak hd),bC hd,bk (ak hd) hl,fW,azQ,azH]<;>rfl)) (ao ae (asg rest _ _ _ (aH hd) hl))
noncomputable def avx:((List eB)×Rg)→Int
 | (l,r)=>al4 l (l,r,0)
noncomputable def auY:((List eB)×Rg)→Bool
 | (l,r)=>decide (l.length≤1099511627776)&&aju l (l,r,0)
theorem auu:∀a:(List eB)×Rg,de (fun f=>axu f a) (auY a) (avx a)
 | (l,r)=>ai (fun f=>avh f _ _) (bL fun hh=>asg _ _ _ _ rfl (azZ hh))
theorem auv(l:List eB)(rr:Rg):∀(r:List eB) (k:Nat),al4 r (l,rr,k)=bu (fun g=>contains ((g.1,g.2.1),rr)) r k∧aju r (l,rr,k)=true
 | [],k=>⟨rfl,rfl⟩
 | u::r,k=>by
  obtain⟨i1,i2⟩:=auv l rr r (k+1);grind[al4,aju,bu,contains]
theorem azB:∀a:List eB×Rg,af a.1=true→auY a=true:=fun a h=>by simp only[auY,(auv _ _ _ _).2,aAt];exact h
theorem aCr:∀a:List eB×Rg,af a.1=true→avx a=rgI a.1 a.2:=fun a h=>by simp only[avx,(auv _ _ _ _).1];rfl
noncomputable def axB:dn:=⟨22,[.rd tP,.g sF],[.v zI],fun a:(List eB)×Rg=>af a.1,fun a:(List eB)×Rg=>rgI a.1 a.2⟩
theorem avQ:zO axB:=fl av1 aqh [.tmp 4] mixed (ah atF (ah OM (aC))) Tryz.func22 (bp auu azB aCr)
def rgP(l:List eB)(r:Rg):Int×Bool:=bif decide (rgI l r≥0)then(rgI l r,true)else(0,false)
noncomputable def aeb:cX:=zC [adM] (dE []) 24
def G2:Nat→LD:=eO [(0,⟨[.box 3 3 72 2 sF,.rd 8 tP,.c 9 (zI),.c 10 (zI)],[],0⟩)]
noncomputable def ai9(f:Nat)(a:(List eB)×Rg):Option (Int×Bool):=aG aeb G2 (zK [.tmp 4,.tmp 5] [.v zI,.v .bool]) f [.code (aB Tryz.f59)] (aQ [.rd tP,.g sF] a)
noncomputable def Ar(f:Nat)(x:Rg×(List eB)×Int×Int):Option (Int×Bool):=aG aeb G2 (zK [.tmp 4,.tmp 5] [.v zI,.v .bool]) f (aV Tryz.f59 0) ((G2 0).mk' x)
theorem abL(f:Nat)(l:List eB)(r:Rg):ai9 (f+1) (l,r) =
  Ar f (r,l,(↑l.length:Int),0):=by kernel_rfl
theorem CN(f:Nat)(r:Rg)(x8:List eB)(x9:Int)(dB:Int):Ar (f+1) (r,x8,x9,dB) =
  bif decide (dB<x9)then bif decide (0≤dB)&&decide (dB<(↑x8.length:Int))then bif contains (((x8.getD dB.toNat (0,0,false)).1,(x8.getD dB.toNat (0,0,false)).2.1),r)then some (dB,true)else Ar f (r,x8,x9,i64.wrap (dB+1))else none else some (0,false):=by kernel_rfl
noncomputable def wa:List eB→(Rg×(List eB)×Int×Nat)→Int×Bool
 | [],(r,x8,x9,dB)=>(0,false)
 | uu::rest,(r,x8,x9,dB)=>bif contains ((uu.1,uu.2.1),r)then((↑dB:Int),true)else wa rest (r,x8,x9,dB+1)
noncomputable def vv:List eB→(Rg×(List eB)×Int×Nat)→Bool
 | [],(r,x8,x9,dB)=>true
 | uu::rest,(r,x8,x9,dB)=>bif contains ((uu.1,uu.2.1),r)then true else vv rest (r,x8,x9,dB+1)
theorem Sw:∀(rest:List eB) (r:Rg) (x8:List eB) (x9:Int) (dB:Nat) (hd:x8.drop dB=rest) (hn:x9=((x8.length:Nat):Int)) (hl:x8.length≤1099511627776),de (fun f=>Ar f (r,x8,x9,((dB:Nat):Int))) (vv rest (r,x8,x9,dB)) (wa rest (r,x8,x9,dB))
 | [],r,x8,x9,dB,hd,hn,hl=>ai (fun f=>(CN f _ _ _ _).trans (by simp only[iZ hn (bT hd),fW,azP,azI]<;>rfl)) ae
 | uu::rest,r,x8,x9,dB,hd,hn,hl=>ai (fun f=>(CN f _ _ _ _).trans (by simp only[iW hn (ak hd),cK (ak hd),bC hd,bk (ak hd) hl,fW,azQ,azH]<;>rfl)) (ao ae (Sw rest _ _ _ _ (aH hd) (by grind) hl))
noncomputable def acK:((List eB)×Rg)→Int×Bool
 | (l,r)=>wa l (r,l,(↑l.length:Int),0)
noncomputable def aaZ:((List eB)×Rg)→Bool
 | (l,r)=>decide (l.length≤1099511627776)&&vv l (r,l,(↑l.length:Int),0)
theorem XK:∀a:(List eB)×Rg,de (fun f=>ai9 f a) (aaZ a) (acK a)
 | (l,r)=>ai (fun f=>abL f _ _) (bL fun hh=>Sw _ _ _ _ _ rfl (by grind) (azZ hh))
theorem XL(l:List eB)(n:Int)(rr:Rg):∀(r:List eB) (k:Nat),wa r (rr,l,n,k)=(bif decide (bu (fun g=>contains ((g.1,g.2.1),rr)) r k≥0)then(bu (fun g=>contains ((g.1,g.2.1),rr)) r k,true)else(0,false))∧vv r (rr,l,n,k)=true
 | [],k=>⟨rfl,rfl⟩
 | u::r,k=>by
  obtain⟨i1,i2⟩:=XL l n rr r (k+1);simp only[wa,vv,bu,i1,i2];grind
theorem ao2:∀a:List eB×Rg,af a.1=true→aaZ a=true:=fun a h=>by simp only[aaZ,(XL _ _ _ _ _).2,aAt];exact h
theorem ao3:∀a:List eB×Rg,af a.1=true→acK a=rgP a.1 a.2:=fun a h=>by simp only[acK,(XL _ _ _ _ _).1];rfl
noncomputable def art:dn:=⟨59,[.rd tP,.g sF],[.v zI,.v .bool],fun a:(List eB)×Rg=>af a.1,fun a:(List eB)×Rg=>rgP a.1 a.2⟩
theorem adr:zO art:=fl aeb G2 [.tmp 4,.tmp 5] mixed (ah VO (aC)) Tryz.func59 (bp XK ao2 ao3)
open Go.Proofs
def aiz(s:ay):Bool:=ct s.1&&(ke s.2.1&&(af s.2.2.1&&(af s.2.2.2.1&&(wL s.2.2.2.2.1&&af s.2.2.2.2.2))))
def aqD(a b:ay):Bool:=decide (a.1=b.1)&&(decide (a.2.1=b.2.1)&&(decide (a.2.2.1=b.2.2.1)&&(decide (a.2.2.2.1=b.2.2.2.1)&&(decide (a.2.2.2.2.1=b.2.2.2.2.1)&&decide (a.2.2.2.2.2=b.2.2.2.2.2)))))
noncomputable def axD:cX:=zC [axz,avC,avF,avI,avG,adb] (dE []) 45
noncomputable def axr(f:Nat)(a:ay×ay):Option Bool:=aG axD (eO []) (zK [.tmp 4] [.v .bool]) f [.code (aB Tryz.f38)] (aQ [.g bl,.g bl] a)
theorem au1(f:Nat)(a:ay)(b:ay):axr (f+1) (a,b) =
  bif ct a.1 then bif decide (a.1=b.1)then bif ke a.2.1 then bif decide (a.2.1=b.2.1)then bif af a.2.2.1 then bif decide (a.2.2.1=b.2.2.1)then bif af a.2.2.2.1 then bif decide (a.2.2.2.1=b.2.2.2.1)then bif wL a.2.2.2.2.1 then bif decide (a.2.2.2.2.1=b.2.2.2.2.1)then bif af a.2.2.2.2.2 then some (decide (a.2.2.2.2.2=b.2.2.2.2.2))else none else some false else none else some false else none else some false else none else some false else none else some false else none:=by kernel_rfl
noncomputable def avr:(ay×ay)→Bool
 | (a,b)=>bif decide (a.1=b.1)then bif decide (a.2.1=b.2.1)then bif decide (a.2.2.1=b.2.2.1)then bif decide (a.2.2.2.1=b.2.2.2.1)then bif decide (a.2.2.2.2.1=b.2.2.2.2.1)then decide (a.2.2.2.2.2=b.2.2.2.2.2)else false else false else false else false else false
noncomputable def auT:(ay×ay)→Bool
 | (a,b)=>ct a.1&&bif decide (a.1=b.1)then ke a.2.1&&bif decide (a.2.1=b.2.1)then af a.2.2.1&&bif decide (a.2.2.1=b.2.2.1)then af a.2.2.2.1&&bif decide (a.2.2.2.1=b.2.2.2.1)then wL a.2.2.2.2.1&&bif decide (a.2.2.2.2.1=b.2.2.2.2.1)then af a.2.2.2.2.2 else true else true else true else true else true
theorem at4:∀a:ay×ay,de (fun f=>axr f a) (auT a) (avr a)
 | (a,b)=>ai (fun f=>au1 f _ _) (aI (ao (aI (ao (aI (ao (aI (ao (aI (ao (cS ae) ae)) ae)) ae)) ae)) ae))
theorem azt:∀a:ay×ay,aiz a.1=true→auT a=true:=fun a h=>by
 simp only[aiz,azF]at h;simp only[auT,h.1,h.2.1,h.2.2.1,h.2.2.2.1,h.2.2.2.2.1,h.2.2.2.2.2,azP];grind
theorem azu:∀a:ay×ay,aiz a.1=true→avr a=aqD a.1 a.2:=fun a h=>by
 grind[avr,aqD]
noncomputable def axx:dn:=⟨38,[.g bl,.g bl],[.v .bool],fun a:ay×ay=>aiz a.1,fun a:ay×ay=>aqD a.1 a.2⟩
theorem avA:zO axx:=fl axD (eO []) [.tmp 4] mixed (ah avB (ah atj (ah ato (ah aty (ah atx (ah Vv (aC))))))) Tryz.func38 (bp at4 azt azu)
