/- AI. -/
import Derived.Test.YtfggefeflojnkaaGreatEf1
set_option linter.unusedVariables false
open Go.IntKind (i64 u64)
noncomputable section
namespace Go.AL
open Go.Proofs
abbrev l7:List Ty:=[.bool,zI,zI,zI,zI,zI,zI,zI,zI,.bool]
abbrev iz:=Bool×Int×Int×Int×Int×Int×Int×Int×Int×Bool
def OZ:cX:=zC [gY,ajC,adm,ajL,adp,adf,ado] (dE [(9,([(0,[]),(1,[]),(2,[]),(3,[]),(4,[]),(5,[]),(6,[]),(7,[])],[(11,11),(61,67)])),(13,([(0,[]),(1,[]),(2,[]),(3,[]),(4,[]),(5,[]),(7,[]),(8,[]),(10,[]),(11,[]),(13,[]),(14,[]),(6,[]),(9,[]),(12,[]),(15,[]),(16,[]),(17,[]),(18,[]),(19,[]),(20,[]),(21,[]),(22,[])],[(14,15),(84,104)])),(20,([(0,[]),(1,[]),(2,[]),(3,[]),(4,[]),(5,[]),(6,[]),(7,[]),(8,[]),(13,[]),(9,[]),(10,[]),(11,[]),(12,[]),(14,[]),(15,[])],[(17,18),(122,134)]))]) 146
def Af:Nat→LD:=eO [(0,⟨[.c 0 (.sl aF),.c 2 (zI),.c 7 (zI),.c 8 (zI),.box 10 10 54 11 gA,.list 11 999 52 7 aev,.c 16 (zI)],[],0⟩)]
def abZ(f:Nat)(a:(List ag)×iz×Int):Option ((List ag)):=aG OZ Af (zK [.tmp 6] [.v (.sl aF)]) f [.code (aB Tryz.f67)] (aQ [.c (.sl aF),.g l7,.c zI] a)
def qG(f:Nat)(x:(List ag)×Int×Int×Int×cu×(List bP)×Int):Option ((List ag)):=aG OZ Af (zK [.tmp 6] [.v (.sl aF)]) f (aV Tryz.f67 0) ((Af 0).mk' x)
theorem Vc(f:Nat)(l:List ag)(s:iz)(op:Int):abZ (f+1) (l,s,op) =
  bif s.1 then bif ff (l,(0,0,0),[fY (s.2.2.2.2.2.1,s.2.2.2.2.2.2.1)])then bif mz (l,(0,0,0),[fY (s.2.2.2.2.2.1,s.2.2.2.2.2.2.1)])then some l else bif gQ (l,place (s.2.2.1,4),place (s.2.2.2.1,8),place (s.2.2.1,4),op,0,[],fY (s.2.2.2.2.2.1,s.2.2.2.2.2.2.1))then some (sg (l,place (s.2.2.1,4),place (s.2.2.2.1,8),place (s.2.2.1,4),op,0,[],fY (s.2.2.2.2.2.1,s.2.2.2.2.2.2.1)))else none else none else bif(↑l.length:Int) == 0 then bif ff (l,(0,0,0),[fY (s.2.2.2.2.2.1,s.2.2.2.2.2.2.1)])then bif mz (l,(0,0,0),[fY (s.2.2.2.2.2.1,s.2.2.2.2.2.2.1)])then some l else bif gQ (l,place (s.2.2.1,4),place (s.2.2.2.1,8),place (s.2.2.1,4),op,0,[],fY (s.2.2.2.2.2.1,s.2.2.2.2.2.2.1))then some (sg (l,place (s.2.2.1,4),place (s.2.2.2.1,8),place (s.2.2.1,4),op,0,[],fY (s.2.2.2.2.2.1,s.2.2.2.2.2.2.1)))else none else none else bif cP (s.2.1,(↑l.length:Int))then bif decide (0≤place (s.2.1,(↑l.length:Int)))&&decide (place (s.2.1,(↑l.length:Int))<(↑l.length:Int))then bif !s.2.2.2.2.2.2.2.2.2 then bif decide (0≤i64.wrap (i64.wrap (1+place (s.2.2.2.2.1,6))-1))&&decide (i64.wrap (i64.wrap (1+place (s.2.2.2.2.1,6))-1)<(↑[i64.wrap (6+place (s.2.2.2.2.2.2.1,10)),12,12,6,10,16].length:Int))then bif decide (0≤u64.wrap ([i64.wrap (6+place (s.2.2.2.2.2.2.1,10)),12,12,6,10,16].getD (i64.wrap (i64.wrap (1+place (s.2.2.2.2.1,6))-1)).toNat 0))then bif(j9 ((l.getD (place (s.2.1,(↑l.length:Int))).toNat zq1).2.2.2.2.2.2,i64.wrap (1+place (s.2.2.2.2.1,6)),[i64.wrap (6+place (s.2.2.2.2.2.2.1,10)),12,12,6,10,16].getD (i64.wrap (i64.wrap (1+place (s.2.2.2.2.1,6))-1)).toNat 0,place (s.2.2.2.2.2.2.2.2.1,2),32,i64.wrap (place (s.2.2.2.2.2.1,8)*2 ^ min (u64.wrap ([i64.wrap (6+place (s.2.2.2.2.2.2.1,10)),12,12,6,10,16].getD (i64.wrap (i64.wrap (1+place (s.2.2.2.2.1,6))-1)).toNat 0)).toNat i64.bits),i64.wrap (1+place (s.2.2.2.2.2.2.2.1,3)))).2 != 0 then some l else bif ff (l,((l.getD (place (s.2.1,(↑l.length:Int))).toNat zq1).2.2.1,(l.getD (place (s.2.1,(↑l.length:Int))).toNat zq1).2.2.2.1,(l.getD (place (s.2.1,(↑l.length:Int))).toNat zq1).2.2.2.2.1),(j9 ((l.getD (place (s.2.1,(↑l.length:Int))).toNat zq1).2.2.2.2.2.2,i64.wrap (1+place (s.2.2.2.2.1,6)),[i64.wrap (6+place (s.2.2.2.2.2.2.1,10)),12,12,6,10,16].getD (i64.wrap (i64.wrap (1+place (s.2.2.2.2.1,6))-1)).toNat 0,place (s.2.2.2.2.2.2.2.2.1,2),32,i64.wrap (place (s.2.2.2.2.2.1,8)*2 ^ min (u64.wrap ([i64.wrap (6+place (s.2.2.2.2.2.2.1,10)),12,12,6,10,16].getD (i64.wrap (i64.wrap (1+place (s.2.2.2.2.1,6))-1)).toNat 0)).toNat i64.bits),i64.wrap (1+place (s.2.2.2.2.2.2.2.1,3)))).1)then bif mz (l,((l.getD (place (s.2.1,(↑l.length:Int))).toNat zq1).2.2.1,(l.getD (place (s.2.1,(↑l.length:Int))).toNat zq1).2.2.2.1,(l.getD (place (s.2.1,(↑l.length:Int))).toNat zq1).2.2.2.2.1),(j9 ((l.getD (place (s.2.1,(↑l.length:Int))).toNat zq1).2.2.2.2.2.2,i64.wrap (1+place (s.2.2.2.2.1,6)),[i64.wrap (6+place (s.2.2.2.2.2.2.1,10)),12,12,6,10,16].getD (i64.wrap (i64.wrap (1+place (s.2.2.2.2.1,6))-1)).toNat 0,place (s.2.2.2.2.2.2.2.2.1,2),32,i64.wrap (place (s.2.2.2.2.2.1,8)*2 ^ min (u64.wrap ([i64.wrap (6+place (s.2.2.2.2.2.2.1,10)),12,12,6,10,16].getD (i64.wrap (i64.wrap (1+place (s.2.2.2.2.1,6))-1)).toNat 0)).toNat i64.bits),i64.wrap (1+place (s.2.2.2.2.2.2.2.1,3)))).1)then some l else qG f (l,op,place (s.2.2.1,4),place (s.2.2.2.1,8),((l.getD (place (s.2.1,(↑l.length:Int))).toNat zq1).2.2.1,(l.getD (place (s.2.1,(↑l.length:Int))).toNat zq1).2.2.2.1,(l.getD (place (s.2.1,(↑l.length:Int))).toNat zq1).2.2.2.2.1,(l.getD (place (s.2.1,(↑l.length:Int))).toNat zq1).2.2.2.2.2.1,(l.getD (place (s.2.1,(↑l.length:Int))).toNat zq1).2.2.2.2.2.2),(j9 ((l.getD (place (s.2.1,(↑l.length:Int))).toNat zq1).2.2.2.2.2.2,i64.wrap (1+place (s.2.2.2.2.1,6)),[i64.wrap (6+place (s.2.2.2.2.2.2.1,10)),12,12,6,10,16].getD (i64.wrap (i64.wrap (1+place (s.2.2.2.2.1,6))-1)).toNat 0,place (s.2.2.2.2.2.2.2.2.1,2),32,i64.wrap (place (s.2.2.2.2.2.1,8)*2 ^ min (u64.wrap ([i64.wrap (6+place (s.2.2.2.2.2.2.1,10)),12,12,6,10,16].getD (i64.wrap (i64.wrap (1+place (s.2.2.2.2.1,6))-1)).toNat 0)).toNat i64.bits),i64.wrap (1+place (s.2.2.2.2.2.2.2.1,3)))).1,0)else none else none else none else qG f (l,op,place (s.2.2.1,4),place (s.2.2.2.1,8),((l.getD (place (s.2.1,(↑l.length:Int))).toNat zq1).2.2.1,(l.getD (place (s.2.1,(↑l.length:Int))).toNat zq1).2.2.2.1,(l.getD (place (s.2.1,(↑l.length:Int))).toNat zq1).2.2.2.2.1,(l.getD (place (s.2.1,(↑l.length:Int))).toNat zq1).2.2.2.2.2.1,(l.getD (place (s.2.1,(↑l.length:Int))).toNat zq1).2.2.2.2.2.2),[eE ((l.getD (place (s.2.1,(↑l.length:Int))).toNat zq1).2.2.2.2.2.2,place (s.2.2.2.2.2.2.2.2.1,8))],0)else none else none:=by kernel_rfl
theorem yy(f:Nat)(l:List ag)(op core slot:Int)(src:cu)(aw:List bP)(i:Int):qG (f+1) (l,op,core,slot,src,aw,i) =
  bif decide (i<(↑aw.length:Int))then bif decide (0≤i)&&decide (i<(↑aw.length:Int))then bif(rY (src,(core,op,i),aw.getD i.toNat (0,0,0,0,0,0,false))).2 != 0 then some l else bif gQ (l,core,i64.wrap (slot+i),(rY (src,(core,op,i),aw.getD i.toNat (0,0,0,0,0,0,false))).1)then qG f (sg (l,core,i64.wrap (slot+i),(rY (src,(core,op,i),aw.getD i.toNat (0,0,0,0,0,0,false))).1),op,core,slot,src,aw,i64.wrap (i+1))else none else none else some l:=by kernel_rfl
def eK:List bP→((List ag)×Int×Int×Int×cu×(List bP)×Nat)→(List ag)
 | [],(l,op,core,slot,src,aw,i)=>l
 | uu::rest,(l,op,core,slot,src,aw,i)=>bif(rY (src,(core,op,(↑i:Int)),uu)).2 != 0 then l else eK rest (sg (l,core,i64.wrap (slot+(↑i:Int)),(rY (src,(core,op,(↑i:Int)),uu)).1),op,core,slot,src,aw,i+1)
def gw:List bP→((List ag)×Int×Int×Int×cu×(List bP)×Nat)→Bool
 | [],(l,op,core,slot,src,aw,i)=>true
 | uu::rest,(l,op,core,slot,src,aw,i)=>bif(rY (src,(core,op,(↑i:Int)),uu)).2 != 0 then true else gQ (l,core,i64.wrap (slot+(↑i:Int)),(rY (src,(core,op,(↑i:Int)),uu)).1)&&gw rest (sg (l,core,i64.wrap (slot+(↑i:Int)),(rY (src,(core,op,(↑i:Int)),uu)).1),op,core,slot,src,aw,i+1)
theorem C2:∀(rest:List bP) (l:List ag) (op core slot:Int) (src:cu) (aw:List bP) (i:Nat) (hd:aw.drop i=rest) (hl:aw.length≤1099511627776),de (fun f=>qG f (l,op,core,slot,src,aw,((i:Nat):Int))) (gw rest (l,op,core,slot,src,aw,i)) (eK rest (l,op,core,slot,src,aw,i))
 | [],l,op,core,slot,src,aw,i,hd,hl=>ai (fun f=>(yy f _ _ _ _ _ _ _).trans (by simp only[fA (bT hd),fW,azP,azI]<;>rfl)) ae
 | uu::rest,l,op,core,slot,src,aw,i,hd,hl=>ai (fun f=>(yy f _ _ _ _ _ _ _).trans (by simp only[cK (ak hd),bC hd,bk (ak hd) hl,fW,azQ,azH]<;>rfl)) (ao ae (aI (C2 rest _ _ _ _ _ _ _ (aH hd) hl)))
def iM:((List ag)×iz×Int)→(List ag)
 | (l,s,op)=>bif s.1 then bif mz (l,(0,0,0),[fY (s.2.2.2.2.2.1,s.2.2.2.2.2.2.1)])then l else sg (l,place (s.2.2.1,4),place (s.2.2.2.1,8),place (s.2.2.1,4),op,0,[],fY (s.2.2.2.2.2.1,s.2.2.2.2.2.2.1))else bif(↑l.length:Int) == 0 then bif mz (l,(0,0,0),[fY (s.2.2.2.2.2.1,s.2.2.2.2.2.2.1)])then l else sg (l,place (s.2.2.1,4),place (s.2.2.2.1,8),place (s.2.2.1,4),op,0,[],fY (s.2.2.2.2.2.1,s.2.2.2.2.2.2.1))else bif !s.2.2.2.2.2.2.2.2.2 then bif(j9 ((l.getD (place (s.2.1,(↑l.length:Int))).toNat zq1).2.2.2.2.2.2,i64.wrap (1+place (s.2.2.2.2.1,6)),[i64.wrap (6+place (s.2.2.2.2.2.2.1,10)),12,12,6,10,16].getD (i64.wrap (i64.wrap (1+place (s.2.2.2.2.1,6))-1)).toNat 0,place (s.2.2.2.2.2.2.2.2.1,2),32,i64.wrap (place (s.2.2.2.2.2.1,8)*2 ^ min (u64.wrap ([i64.wrap (6+place (s.2.2.2.2.2.2.1,10)),12,12,6,10,16].getD (i64.wrap (i64.wrap (1+place (s.2.2.2.2.1,6))-1)).toNat 0)).toNat i64.bits),i64.wrap (1+place (s.2.2.2.2.2.2.2.1,3)))).2 != 0 then l else bif mz (l,((l.getD (place (s.2.1,(↑l.length:Int))).toNat zq1).2.2.1,(l.getD (place (s.2.1,(↑l.length:Int))).toNat zq1).2.2.2.1,(l.getD (place (s.2.1,(↑l.length:Int))).toNat zq1).2.2.2.2.1),(j9 ((l.getD (place (s.2.1,(↑l.length:Int))).toNat zq1).2.2.2.2.2.2,i64.wrap (1+place (s.2.2.2.2.1,6)),[i64.wrap (6+place (s.2.2.2.2.2.2.1,10)),12,12,6,10,16].getD (i64.wrap (i64.wrap (1+place (s.2.2.2.2.1,6))-1)).toNat 0,place (s.2.2.2.2.2.2.2.2.1,2),32,i64.wrap (place (s.2.2.2.2.2.1,8)*2 ^ min (u64.wrap ([i64.wrap (6+place (s.2.2.2.2.2.2.1,10)),12,12,6,10,16].getD (i64.wrap (i64.wrap (1+place (s.2.2.2.2.1,6))-1)).toNat 0)).toNat i64.bits),i64.wrap (1+place (s.2.2.2.2.2.2.2.1,3)))).1)then l else eK (j9 ((l.getD (place (s.2.1,(↑l.length:Int))).toNat zq1).2.2.2.2.2.2,i64.wrap (1+place (s.2.2.2.2.1,6)),[i64.wrap (6+place (s.2.2.2.2.2.2.1,10)),12,12,6,10,16].getD (i64.wrap (i64.wrap (1+place (s.2.2.2.2.1,6))-1)).toNat 0,place (s.2.2.2.2.2.2.2.2.1,2),32,i64.wrap (place (s.2.2.2.2.2.1,8)*2 ^ min (u64.wrap ([i64.wrap (6+place (s.2.2.2.2.2.2.1,10)),12,12,6,10,16].getD (i64.wrap (i64.wrap (1+place (s.2.2.2.2.1,6))-1)).toNat 0)).toNat i64.bits),i64.wrap (1+place (s.2.2.2.2.2.2.2.1,3)))).1 (l,op,place (s.2.2.1,4),place (s.2.2.2.1,8),((l.getD (place (s.2.1,(↑l.length:Int))).toNat zq1).2.2.1,(l.getD (place (s.2.1,(↑l.length:Int))).toNat zq1).2.2.2.1,(l.getD (place (s.2.1,(↑l.length:Int))).toNat zq1).2.2.2.2.1,(l.getD (place (s.2.1,(↑l.length:Int))).toNat zq1).2.2.2.2.2.1,(l.getD (place (s.2.1,(↑l.length:Int))).toNat zq1).2.2.2.2.2.2),(j9 ((l.getD (place (s.2.1,(↑l.length:Int))).toNat zq1).2.2.2.2.2.2,i64.wrap (1+place (s.2.2.2.2.1,6)),[i64.wrap (6+place (s.2.2.2.2.2.2.1,10)),12,12,6,10,16].getD (i64.wrap (i64.wrap (1+place (s.2.2.2.2.1,6))-1)).toNat 0,place (s.2.2.2.2.2.2.2.2.1,2),32,i64.wrap (place (s.2.2.2.2.2.1,8)*2 ^ min (u64.wrap ([i64.wrap (6+place (s.2.2.2.2.2.2.1,10)),12,12,6,10,16].getD (i64.wrap (i64.wrap (1+place (s.2.2.2.2.1,6))-1)).toNat 0)).toNat i64.bits),i64.wrap (1+place (s.2.2.2.2.2.2.2.1,3)))).1,0)else eK [eE ((l.getD (place (s.2.1,(↑l.length:Int))).toNat zq1).2.2.2.2.2.2,place (s.2.2.2.2.2.2.2.2.1,8))] (l,op,place (s.2.2.1,4),place (s.2.2.2.1,8),((l.getD (place (s.2.1,(↑l.length:Int))).toNat zq1).2.2.1,(l.getD (place (s.2.1,(↑l.length:Int))).toNat zq1).2.2.2.1,(l.getD (place (s.2.1,(↑l.length:Int))).toNat zq1).2.2.2.2.1,(l.getD (place (s.2.1,(↑l.length:Int))).toNat zq1).2.2.2.2.2.1,(l.getD (place (s.2.1,(↑l.length:Int))).toNat zq1).2.2.2.2.2.2),[eE ((l.getD (place (s.2.1,(↑l.length:Int))).toNat zq1).2.2.2.2.2.2,place (s.2.2.2.2.2.2.2.2.1,8))],0)
def nf:((List ag)×iz×Int)→Bool
 | (l,s,op)=>bif s.1 then ff (l,(0,0,0),[fY (s.2.2.2.2.2.1,s.2.2.2.2.2.2.1)])&&bif mz (l,(0,0,0),[fY (s.2.2.2.2.2.1,s.2.2.2.2.2.2.1)])then true else gQ (l,place (s.2.2.1,4),place (s.2.2.2.1,8),place (s.2.2.1,4),op,0,[],fY (s.2.2.2.2.2.1,s.2.2.2.2.2.2.1))else bif(↑l.length:Int) == 0 then ff (l,(0,0,0),[fY (s.2.2.2.2.2.1,s.2.2.2.2.2.2.1)])&&bif mz (l,(0,0,0),[fY (s.2.2.2.2.2.1,s.2.2.2.2.2.2.1)])then true else gQ (l,place (s.2.2.1,4),place (s.2.2.2.1,8),place (s.2.2.1,4),op,0,[],fY (s.2.2.2.2.2.1,s.2.2.2.2.2.2.1))else cP (s.2.1,(↑l.length:Int))&&(decide (0≤place (s.2.1,(↑l.length:Int)))&&decide (place (s.2.1,(↑l.length:Int))<(↑l.length:Int))&&bif !s.2.2.2.2.2.2.2.2.2 then decide (0≤i64.wrap (i64.wrap (1+place (s.2.2.2.2.1,6))-1))&&decide (i64.wrap (i64.wrap (1+place (s.2.2.2.2.1,6))-1)<(↑[i64.wrap (6+place (s.2.2.2.2.2.2.1,10)),12,12,6,10,16].length:Int))&&(decide (0≤u64.wrap ([i64.wrap (6+place (s.2.2.2.2.2.2.1,10)),12,12,6,10,16].getD (i64.wrap (i64.wrap (1+place (s.2.2.2.2.1,6))-1)).toNat 0))&&bif(j9 ((l.getD (place (s.2.1,(↑l.length:Int))).toNat zq1).2.2.2.2.2.2,i64.wrap (1+place (s.2.2.2.2.1,6)),[i64.wrap (6+place (s.2.2.2.2.2.2.1,10)),12,12,6,10,16].getD (i64.wrap (i64.wrap (1+place (s.2.2.2.2.1,6))-1)).toNat 0,place (s.2.2.2.2.2.2.2.2.1,2),32,i64.wrap (place (s.2.2.2.2.2.1,8)*2 ^ min (u64.wrap ([i64.wrap (6+place (s.2.2.2.2.2.2.1,10)),12,12,6,10,16].getD (i64.wrap (i64.wrap (1+place (s.2.2.2.2.1,6))-1)).toNat 0)).toNat i64.bits),i64.wrap (1+place (s.2.2.2.2.2.2.2.1,3)))).2 != 0 then true else ff (l,((l.getD (place (s.2.1,(↑l.length:Int))).toNat zq1).2.2.1,(l.getD (place (s.2.1,(↑l.length:Int))).toNat zq1).2.2.2.1,(l.getD (place (s.2.1,(↑l.length:Int))).toNat zq1).2.2.2.2.1),(j9 ((l.getD (place (s.2.1,(↑l.length:Int))).toNat zq1).2.2.2.2.2.2,i64.wrap (1+place (s.2.2.2.2.1,6)),[i64.wrap (6+place (s.2.2.2.2.2.2.1,10)),12,12,6,10,16].getD (i64.wrap (i64.wrap (1+place (s.2.2.2.2.1,6))-1)).toNat 0,place (s.2.2.2.2.2.2.2.2.1,2),32,i64.wrap (place (s.2.2.2.2.2.1,8)*2 ^ min (u64.wrap ([i64.wrap (6+place (s.2.2.2.2.2.2.1,10)),12,12,6,10,16].getD (i64.wrap (i64.wrap (1+place (s.2.2.2.2.1,6))-1)).toNat 0)).toNat i64.bits),i64.wrap (1+place (s.2.2.2.2.2.2.2.1,3)))).1)&&bif mz (l,((l.getD (place (s.2.1,(↑l.length:Int))).toNat zq1).2.2.1,(l.getD (place (s.2.1,(↑l.length:Int))).toNat zq1).2.2.2.1,(l.getD (place (s.2.1,(↑l.length:Int))).toNat zq1).2.2.2.2.1),(j9 ((l.getD (place (s.2.1,(↑l.length:Int))).toNat zq1).2.2.2.2.2.2,i64.wrap (1+place (s.2.2.2.2.1,6)),[i64.wrap (6+place (s.2.2.2.2.2.2.1,10)),12,12,6,10,16].getD (i64.wrap (i64.wrap (1+place (s.2.2.2.2.1,6))-1)).toNat 0,place (s.2.2.2.2.2.2.2.2.1,2),32,i64.wrap (place (s.2.2.2.2.2.1,8)*2 ^ min (u64.wrap ([i64.wrap (6+place (s.2.2.2.2.2.2.1,10)),12,12,6,10,16].getD (i64.wrap (i64.wrap (1+place (s.2.2.2.2.1,6))-1)).toNat 0)).toNat i64.bits),i64.wrap (1+place (s.2.2.2.2.2.2.2.1,3)))).1)then true else decide (List.length (j9 ((l.getD (place (s.2.1,(↑l.length:Int))).toNat zq1).2.2.2.2.2.2,i64.wrap (1+place (s.2.2.2.2.1,6)),[i64.wrap (6+place (s.2.2.2.2.2.2.1,10)),12,12,6,10,16].getD (i64.wrap (i64.wrap (1+place (s.2.2.2.2.1,6))-1)).toNat 0,place (s.2.2.2.2.2.2.2.2.1,2),32,i64.wrap (place (s.2.2.2.2.2.1,8)*2 ^ min (u64.wrap ([i64.wrap (6+place (s.2.2.2.2.2.2.1,10)),12,12,6,10,16].getD (i64.wrap (i64.wrap (1+place (s.2.2.2.2.1,6))-1)).toNat 0)).toNat i64.bits),i64.wrap (1+place (s.2.2.2.2.2.2.2.1,3)))).1≤1099511627776)&&gw (j9 ((l.getD (place (s.2.1,(↑l.length:Int))).toNat zq1).2.2.2.2.2.2,i64.wrap (1+place (s.2.2.2.2.1,6)),[i64.wrap (6+place (s.2.2.2.2.2.2.1,10)),12,12,6,10,16].getD (i64.wrap (i64.wrap (1+place (s.2.2.2.2.1,6))-1)).toNat 0,place (s.2.2.2.2.2.2.2.2.1,2),32,i64.wrap (place (s.2.2.2.2.2.1,8)*2 ^ min (u64.wrap ([i64.wrap (6+place (s.2.2.2.2.2.2.1,10)),12,12,6,10,16].getD (i64.wrap (i64.wrap (1+place (s.2.2.2.2.1,6))-1)).toNat 0)).toNat i64.bits),i64.wrap (1+place (s.2.2.2.2.2.2.2.1,3)))).1 (l,op,place (s.2.2.1,4),place (s.2.2.2.1,8),((l.getD (place (s.2.1,(↑l.length:Int))).toNat zq1).2.2.1,(l.getD (place (s.2.1,(↑l.length:Int))).toNat zq1).2.2.2.1,(l.getD (place (s.2.1,(↑l.length:Int))).toNat zq1).2.2.2.2.1,(l.getD (place (s.2.1,(↑l.length:Int))).toNat zq1).2.2.2.2.2.1,(l.getD (place (s.2.1,(↑l.length:Int))).toNat zq1).2.2.2.2.2.2),(j9 ((l.getD (place (s.2.1,(↑l.length:Int))).toNat zq1).2.2.2.2.2.2,i64.wrap (1+place (s.2.2.2.2.1,6)),[i64.wrap (6+place (s.2.2.2.2.2.2.1,10)),12,12,6,10,16].getD (i64.wrap (i64.wrap (1+place (s.2.2.2.2.1,6))-1)).toNat 0,place (s.2.2.2.2.2.2.2.2.1,2),32,i64.wrap (place (s.2.2.2.2.2.1,8)*2 ^ min (u64.wrap ([i64.wrap (6+place (s.2.2.2.2.2.2.1,10)),12,12,6,10,16].getD (i64.wrap (i64.wrap (1+place (s.2.2.2.2.1,6))-1)).toNat 0)).toNat i64.bits),i64.wrap (1+place (s.2.2.2.2.2.2.2.1,3)))).1,0))else decide ([eE ((l.getD (place (s.2.1,(↑l.length:Int))).toNat zq1).2.2.2.2.2.2,place (s.2.2.2.2.2.2.2.2.1,8))].length≤1099511627776)&&gw [eE ((l.getD (place (s.2.1,(↑l.length:Int))).toNat zq1).2.2.2.2.2.2,place (s.2.2.2.2.2.2.2.2.1,8))] (l,op,place (s.2.2.1,4),place (s.2.2.2.1,8),((l.getD (place (s.2.1,(↑l.length:Int))).toNat zq1).2.2.1,(l.getD (place (s.2.1,(↑l.length:Int))).toNat zq1).2.2.2.1,(l.getD (place (s.2.1,(↑l.length:Int))).toNat zq1).2.2.2.2.1,(l.getD (place (s.2.1,(↑l.length:Int))).toNat zq1).2.2.2.2.2.1,(l.getD (place (s.2.1,(↑l.length:Int))).toNat zq1).2.2.2.2.2.2),[eE ((l.getD (place (s.2.1,(↑l.length:Int))).toNat zq1).2.2.2.2.2.2,place (s.2.2.2.2.2.2.2.2.1,8))],0))
theorem T1:∀a:(List ag)×iz×Int,de (fun f=>abZ f a) (nf a) (iM a)
 | (l,s,op)=>ai (fun f=>Vc f _ _ _) (ao (aI (ao ae (cS ae))) (ao (aI (ao ae (cS ae))) (aI (aI (ao (aI (aI (ao ae (aI (ao ae (bL fun hh=>C2 _ _ _ _ _ _ _ _ rfl (azZ hh))))))) (bL fun hh=>C2 _ _ _ _ _ _ _ _ rfl (azZ hh)))))))
theorem Wm{src:cu}{id:aj}{c:bP}(h:(rY (src,id,c)).2=0):(rY (src,id,c)).1=TD id (aZ src++[jm src]) c∧gG (TD id (aZ src++[jm src]) c)=true∧gG src=true:=by
 simp only[rY]at h ⊢;cases h1:(!gG src || (!fX id || (!cQ c || (decide (id=jm src) || cJ id (aZ src)))))
 case true=>grind
 cases h2:decide ((aZ src).length=8)
 case true=>grind
 refine⟨rfl,?_⟩;simp only[aCb,aBG,aB6,Br]at h1 h2;obtain⟨a1,a2,a3,a4,a5⟩:=h1;refine⟨?_,a1⟩;rw[ji]at a1 ⊢;obtain⟨b1,b2,b3,b4,b5,b6⟩:=a1;refine⟨a2,a3,?_,?_,?_,?_⟩
 ·show(aZ src++[jm src]).length≤8
  simp;omega
 ·intro q hq
  rcases aAp.1 hq with hq | hq
  all_goals grind
 ·show(aZ src++[jm src]).Nodup
  grind
 ·show ¬ id∈aZ src++[jm src]
  grind
theorem XY{m:Int}{l:List ag}(h:Vf m l)(hl:l.length≤1000):wL l=true:=
 FM (by omega) (fun e he=>azC (by have:=h.path he;show(lF e).length≤_;omega))
theorem Pj{m:Int}{l:List ag}(h:Vf m l){a b:ag}(ha:a∈l)(hb:b∈l)(he:fv a=fv b):a=b:=by
 have hs:=h.sorted;clear h;induction l with
 | nil=>cases ha
 | cons u r ih=>
  rw[aAq]at hs;grind[im]
theorem CD(l:List ag)(c s:Int)(n:cu):sg (l,c,s,n)=l∨(sg (l,c,s,n)=oK (c,s,n) l∧(∀x∈l,fv x ≠ jm n)∧∀x∈l,¬ (x.1=c∧x.2.1=s)):=by
 cases f1:decide (dV l (jm n)≥0)
 case true=>
  left;have:wR (l,c,s,n)=([],false):=by show(bif decide (dV l (jm n)≥0) || _ then _ else _)=_;rw[f1];rfl
  grind[sg]
 cases f2:decide (atE l c s≥0)
 case true=>
  grind[wR,dV,jm,atE,sg]
 right;have:wR (l,c,s,n)=(oK (c,s,n) l,true):=by show(bif decide (dV l (jm n)≥0) || decide (atE l c s≥0)then _ else _)=_;grind
 exact⟨by simp only[sg,this];rfl,T6 f1,ahi f2⟩
theorem Ny(l:List ag)(op core slot:Int)(sE:ag)(aw:List bP)(h0:Vf (op-1) l)(s6:1≤op)(hs:sE∈l)(hlen:l.length≤900)(En:0≤core∧core<4)(apJ:0≤slot∧slot<8):
  ∀(r done:List bP) (l':List ag) (i:Nat),i=done.length→done.length+r.length≤8→(done++r).Pairwise (fun a b=>overlaps (nV a,nV b)=false)→
   (∀u∈r,cQ u=true∧contains (JF sE,nV u)=true∧((gb sE).1=1∨rQ (gb sE,u)=true)∧∀x∈l,sw (gb x,u)=true)→
   Vf op l'→(∀x∈l,x∈l')→(∀x∈l',x∈l∨(gb x∈done∧(fv x).2.1=op∧lF x=aZ sE.2.2++[jm sE.2.2]))→l'.length≤l.length+i→
   gw r (l',op,core,slot,sE.2.2,aw,i)=true∧Vf op (eK r (l',op,core,slot,sE.2.2,aw,i))∧(eK r (l',op,core,slot,sE.2.2,aw,i)).length≤l.length+8
 | [],done,l',i,hi,h8,hp,hu,hv,oL,hof,hl=>⟨rfl,hv,by simp only[eK];simp at h8;omega⟩
 | u::r,done,l',i,hi,h8,hp,hu,hv,oL,hof,hl=>by
  simp only[azL]at h8;obtain⟨u1,u2,u3,u4⟩:=hu u (az1 ..);have hw:i64.wrap (slot+(i:Int))=slot+(i:Int):=az (by omega) (by omega);simp only[eK,gw,hw,ahe];by_cases hc:(rY (sE.2.2,(core,op,(i:Int)),u)).2=0
  case neg=>
   grind
  obtain⟨c1,c2,c3⟩:=Wm hc;simp only[azC hc,aBr,azI,c1];have aO:gQ (l',core,slot+(i:Int),TD (core,op,(i:Int)) (aZ sE.2.2++[jm sE.2.2]) u)=true:=by
   simp only[gQ,kF,azF];refine⟨XY hv (by omega),azC ?_⟩;have:=wB c2;show(aZ sE.2.2++[jm sE.2.2]).length≤_;exact az0 this (by omega)
  rw[aO,azP];have Zf:∀q∈aZ sE.2.2++[jm sE.2.2],q.2.1≤op-1:=by
   intro q hq;rcases aAp.1 hq with hq | hq
   ·exact(h0.ops sE hs).2 q hq
   ·simp at hq;rw[hq];exact(h0.ops sE hs).1
  have next:∀l2:List ag,Vf op l2→(∀x∈l,x∈l2)→(∀x∈l2,x∈l∨(gb x∈done++[u]∧(fv x).2.1=op∧lF x=aZ sE.2.2++[jm sE.2.2]))→l2.length≤l'.length+1→
    gw r (l2,op,core,slot,sE.2.2,aw,i+1)=true∧Vf op (eK r (l2,op,core,slot,sE.2.2,aw,i+1))∧(eK r (l2,op,core,slot,sE.2.2,aw,i+1)).length≤l.length+8:=fun l2 v2 s2 o2 n2=>
   Ny l op core slot sE aw h0 s6 hs hlen En apJ r (done++[u]) l2 (i+1) (by simp[hi]) (by simp;omega) (by grind) (fun v hv=>hu v (az6 _ hv)) v2 s2 o2 (by omega)
  have oA:∀x∈l',x∈l∨(gb x∈done++[u]∧(fv x).2.1=op∧lF x=aZ sE.2.2++[jm sE.2.2]):=fun x hx=>(hof x hx).imp id fun⟨a,b⟩=>⟨aBd _ a,b⟩
  rcases CD l' core (slot+(i:Int)) (TD (core,op,(i:Int)) (aZ sE.2.2++[jm sE.2.2]) u)with h | ⟨h,bf,fP⟩
  ·rw[h];exact next l' hv oL oA (by omega)
  rw[h];obtain⟨e,he⟩:∃e:ag,e=(core,slot+(i:Int),TD (core,op,(i:Int)) (aZ sE.2.2++[jm sE.2.2]) u):=⟨_,rfl⟩;rw[← he];have e1:fv e=(core,op,(i:Int)):=by rw[he];rfl
  have e2:lF e=aZ sE.2.2++[jm sE.2.2]:=by rw[he];rfl
  have e3:gb e=u:=by rw[he];rfl
  have e4:e.1=core:=by rw[he]
  have e5:e.2.1=slot+(i:Int):=by rw[he]
  have e6:e.2.2=TD (core,op,(i:Int)) (aZ sE.2.2++[jm sE.2.2]) u:=by rw[he]
  have bf:∀x∈l',fv x ≠ fv e:=by rw[e1];exact bf
  have fP:∀x∈l',¬ (x.1=e.1∧x.2.1=e.2.1):=by grind
  refine next (oK e l') ?_ (fun x hx=>cU.2 (.inr (oL x hx))) (fun x hx=>?_) (by grind[BD])
  ·refine hv.ins (aBl _) (by grind) ⟨by rw[e4];exact En,by rw[e5];omega⟩ bf fP (fun x hx=>?_) (fun p Kj k hk=>?_) (fun x hx hm=>?_) ⟨by rw[e1];exact aBl _,fun q hq=>by rw[e2]at hq;have:=Zf q hq;omega⟩ (by rw[e1,e4])
   ·rw[e3]
    rcases hof x hx with hx | ⟨hx,_⟩
    ·grind
    ·exact(gO _ _).2 (.inl ((aAI.1 hp).2.2 _ hx u (az1 ..)))
   ·rw[e2]at hk ⊢
    have hrg:JF e=nV u:=by grind[JF]
    rw[hrg,e3];have zw:=Zf _ (azO hk);have Qf:p∈l:=by
     grind
    by_cases Dv:k<(aZ sE.2.2).length
    ·rw[aAg Dv]at hk
     obtain⟨a1,a2,a3⟩:=h0.anc p Qf sE hs k hk;refine⟨by rw[a1,List.take_append_of_le_length (by omega)];rfl,B2 a2 u2,?_⟩;grind[Mp,DN]
    ·rw[aAa (by omega)]at hk
     have Kl:k-(aZ sE.2.2).length=0:=by
      grind
     rw[Kl]at hk;have hpe:fv p=fv sE:=by
      have h9:some (jm sE.2.2)=some (fv p):=hk;exact(az9 h9).symm
     have:=Pj h0 Qf hs hpe;subst this;refine⟨?_,u2,u3⟩;rw[show k=(aZ p.2.2).length by omega];simp;rfl
   ·rw[e1]at hm
    rcases hof x hx with hx | ⟨_,_,hx⟩
    ·have:=(h0.ops x hx).2 _ hm
     grind
    grind
  ·rcases cU.1 hx with rfl | hx
   all_goals grind
def Ky(l:List ag)(s:iz)(op:Int):List ag:=bif mz (l,(0,0,0),[fY (s.2.2.2.2.2.1,s.2.2.2.2.2.2.1)])then l
 else sg (l,place (s.2.2.1,4),place (s.2.2.2.1,8),TD (place (s.2.2.1,4),op,0) [] (fY (s.2.2.2.2.2.1,s.2.2.2.2.2.2.1)))
def iw(l:List ag)(s:iz):ag:=l.getD (place (s.2.1,((l.length:Nat):Int))).toNat zEn
def Ep(s:iz):Int:=i64.wrap (1+place (s.2.2.2.2.1,6))
def Qq(s:iz):Int:=[i64.wrap (6+place (s.2.2.2.2.2.2.1,10)),12,12,6,10,16].getD (i64.wrap (Ep s-1)).toNat 0
def oO(l:List ag)(s:iz):List bP×Int:=j9 (gb (iw l s),Ep s,Qq s,place (s.2.2.2.2.2.2.2.2.1,2),32,i64.wrap (place (s.2.2.2.2.2.1,8)*2 ^ min (u64.wrap (Qq s)).toNat i64.bits),i64.wrap (1+place (s.2.2.2.2.2.2.2.1,3)))
theorem agM(l:List ag)(s:iz)(op:Int):iM (l,s,op)=bif s.1 then Ky l s op else bif((l.length:Nat):Int) == 0 then Ky l s op
  else bif !s.2.2.2.2.2.2.2.2.2 then(bif(oO l s).2 != 0 then l else bif mz (l,fv (iw l s),(oO l s).1)then l else eK (oO l s).1 (l,op,place (s.2.2.1,4),place (s.2.2.2.1,8),(iw l s).2.2,(oO l s).1,0))
  else eK [eE (gb (iw l s),place (s.2.2.2.2.2.2.2.2.1,8))] (l,op,place (s.2.2.1,4),place (s.2.2.2.1,8),(iw l s).2.2,[eE (gb (iw l s),place (s.2.2.2.2.2.2.2.2.1,8))],0):=rfl
def PJ(l:List ag)(s:iz)(op:Int):Bool:=ff (l,(0,0,0),[fY (s.2.2.2.2.2.1,s.2.2.2.2.2.2.1)])&&bif mz (l,(0,0,0),[fY (s.2.2.2.2.2.1,s.2.2.2.2.2.2.1)])then true
 else gQ (l,place (s.2.2.1,4),place (s.2.2.2.1,8),TD (place (s.2.2.1,4),op,0) [] (fY (s.2.2.2.2.2.1,s.2.2.2.2.2.2.1)))
theorem agL(l:List ag)(s:iz)(op:Int):nf (l,s,op)=bif s.1 then PJ l s op else bif((l.length:Nat):Int) == 0 then PJ l s op
  else cP (s.2.1,((l.length:Nat):Int))&&(decide (0≤place (s.2.1,((l.length:Nat):Int)))&&decide (place (s.2.1,((l.length:Nat):Int))<((l.length:Nat):Int))&&
   bif !s.2.2.2.2.2.2.2.2.2 then(decide (0≤i64.wrap (Ep s-1))&&decide (i64.wrap (Ep s-1)<(([i64.wrap (6+place (s.2.2.2.2.2.2.1,10)),12,12,6,10,16].length:Nat):Int))&&(decide (0≤u64.wrap (Qq s))&&
    bif(oO l s).2 != 0 then true else ff (l,fv (iw l s),(oO l s).1)&&bif mz (l,fv (iw l s),(oO l s).1)then true else decide ((oO l s).1.length≤1099511627776)&&gw (oO l s).1 (l,op,place (s.2.2.1,4),place (s.2.2.2.1,8),(iw l s).2.2,(oO l s).1,0)))
   else decide ([eE (gb (iw l s),place (s.2.2.2.2.2.2.2.2.1,8))].length≤1099511627776)&&gw [eE (gb (iw l s),place (s.2.2.2.2.2.2.2.2.1,8))] (l,op,place (s.2.2.1,4),place (s.2.2.2.1,8),(iw l s).2.2,[eE (gb (iw l s),place (s.2.2.2.2.2.2.2.2.1,8))],0)):=rfl
theorem any_false{α:Type}{p:α→Bool}{l:List α}(h:l.any p=false):∀x∈l,p x=false:=fun x hx=>by
 grind
theorem aj8(a:Int×Int):cQ (fY a)=true:=by
 have h:=Jv a;obtain⟨h1,h2,_⟩:=gI h;simp only[cQ,fY,azF];grind[AV]
theorem Zn{l:List ag}{s:Int}(hs:s<0){c:bP}{e:ag}(h:Nq l s c e=false):sw (gb e,c)=true:=by
 simp only[Nq,azK (show ¬ s≥0 by omega),Bool.false_and,aBh,aAt]at h;exact(gO _ _).2 (.inl h)
theorem ZO{l:List ag}{id:aj}{e:ag}(he:e∈l)(bf:fv e=id):0≤dV l id∧dV l id<l.length∧∃x∈l,fv x=id∧l.getD (dV l id).toNat zEn=x:=by
 have h1:0≤dV l id:=by
  rcases uT (p:=fun e:ag=>decide (fv e=id)) (l:=l) (k:=0) (by omega)with h | h
  ·exact h
  ·have:=(fR (p:=fun e:ag=>decide (fv e=id)) (by omega)).2 h e he
   grind
 obtain⟨j,x,e1,e2,e3,_⟩:=s8 (p:=fun e:ag=>decide (fv e=id)) (l:=l) (k:=0) (by omega) h1;have hj:=(azR.1 e2).1;refine⟨h1,?_,x,azO e2,by simpa using e3,?_⟩
 ·show bu _ l 0<_;grind
 ·have:(dV l id).toNat=j:=by show(bu _ l 0).toNat=j;grind
  grind
theorem ND{m:Int}{l:List ag}(h:Vf m l):dV l (0,0,0)<0:=by
 rcases uT (p:=fun e:ag=>decide (fv e=(0,0,0))) (l:=l) (k:=0) (by omega)with h1 | h1
 ·obtain⟨j,x,e1,e2,e3,_⟩:=s8 (p:=fun e:ag=>decide (fv e=(0,0,0))) (l:=l) (k:=0) (by omega) h1
  have hx:=azO e2;have h2:=((ji x.2.2).1 (h.node x hx)).1;grind[fv,jm,AJ]
 ·show bu _ l 0<0;grind
theorem Kx{l:List ag}{op:Int}(h:Vf (op-1) l)(s6:1≤op)(alT:op≤1000)(hl:l.length≤900)(s:iz):PJ l s op=true∧Vf op (Ky l s op)∧(Ky l s op).length≤l.length+8:=by
 have k4:=cT s.2.2.1 (s:=4) (by omega);have k8:=cT s.2.2.2.1 (s:=8) (by omega);have hu:=aj8 (s.2.2.2.2.2.1,s.2.2.2.2.2.2.1);simp only[PJ,Ky];have p1:ff (l,(0,0,0),[fY (s.2.2.2.2.2.1,s.2.2.2.2.2.2.1)])=true:=by
  simp only[ff,azF];exact⟨azC (by omega),azC (by simp)⟩
 rw[p1,azP];cases hc:mz (l,(0,0,0),[fY (s.2.2.2.2.2.1,s.2.2.2.2.2.2.1)])
 case true=>exact⟨rfl,h.mono (by omega),by simp⟩
 simp only[azI];generalize fY (s.2.2.2.2.2.1,s.2.2.2.2.2.2.1)=u at hu hc ⊢;have hn:gG (TD (place (s.2.2.1,4),op,0) [] u)=true:=by
  rw[ji];refine⟨(AJ _).2 (by show 0≤place (s.2.2.1,4)∧place (s.2.2.1,4)<32∧1≤op∧op≤1073741824∧(0:Int)≤0∧(0:Int)<8;omega),hu,by show 0≤8;omega,fun q hq=>(by cases hq),List.nodup_nil,fun hq=>(by cases hq)⟩
 refine⟨?_,?_⟩
 ·simp only[gQ,kF,azF]
  exact⟨XY h (by omega),rfl⟩
 ·rcases CD l (place (s.2.2.1,4)) (place (s.2.2.2.1,8)) (TD (place (s.2.2.1,4),op,0) [] u)with h1 | ⟨h1,bf,fP⟩
  ·rw[h1];exact⟨h.mono (by omega),by omega⟩
  ·rw[h1]
   refine⟨h.ins (by omega) hn ⟨k4,⟨k8.1,show place (s.2.2.2.1,8)<64 by omega⟩⟩ bf fP (fun x hx=>?_) (fun p hp k hk=>?_) (fun x hx hm=>?_) ⟨aBl _,fun q hq=>by cases hq⟩ rfl,by rw[BD];omega⟩
   ·simp only[mz,aBS,List.any_nil,Bool.or_false]at hc
    exact Zn (ND h) (any_false hc x hx)
   ·have:lF ((place (s.2.2.1,4),place (s.2.2.2.1,8),TD (place (s.2.2.1,4),op,0) [] u):ag)=[]:=rfl
    grind
   ·have:=(h.ops x hx).2 _ hm
    have e:(fv ((place (s.2.2.1,4),place (s.2.2.2.1,8),TD (place (s.2.2.1,4),op,0) [] u):ag)).2.1=op:=rfl;grind
theorem ahg(c:bP)(m:Int):rQ (c,eE (c,m))=true:=(oh _ _).2 ⟨rfl,rfl,rfl,rfl,rfl,rfl⟩
theorem UE(r m:Int)(hr:0≤r∧r≤7)(hm:0≤m∧m≤7):0≤i64.wrap (((BitVec.ofInt i64.bits r&&&BitVec.ofInt i64.bits m).toNat:Nat):Int)∧i64.wrap (((BitVec.ofInt i64.bits r&&&BitVec.ofInt i64.bits m).toNat:Nat):Int)≤7:=by
 have h1:∀a:Fin 8,∀b:Fin 8,0≤i64.wrap (((BitVec.ofInt i64.bits (a.val:Int)&&&BitVec.ofInt i64.bits (b.val:Int)).toNat:Nat):Int)∧i64.wrap (((BitVec.ofInt i64.bits (a.val:Int)&&&BitVec.ofInt i64.bits (b.val:Int)).toNat:Nat):Int)≤7:=by decide +kernel
 have:=h1 ⟨r.toNat,by omega⟩ ⟨m.toNat,by omega⟩;grind
theorem ana{c:bP}(h:cQ c=true)(m:Int)(hm:0≤m∧m≤7):cQ (eE (c,m))=true:=by
 simp only[cQ,azF,azM]at h ⊢;have:=UE c.2.2.2.1 m ⟨h.2.2.1,h.2.2.2.1⟩ hm;exact⟨h.1,h.2.1,this.1,this.2,h.2.2.2.2⟩
theorem Qo{l:List ag}{op:Int}(h:Vf (op-1) l)(s6:1≤op)(alT:op≤1000)(hl:l.length≤900)(s:iz):nf (l,s,op)=true∧Vf op (iM (l,s,op))∧(iM (l,s,op)).length≤l.length+8:=by
 rw[agL,agM];cases avp:s.1
 case true=>grind[Kx]
 cases h0:(((l.length:Nat):Int) == 0)
 case true=>grind[Kx]
 simp only[azI];have dr:0<((l.length:Nat):Int):=by
  grind
 have kp:=cT s.2.1 dr;have k4:=cT s.2.2.1 (s:=4) (by omega);have k8:=cT s.2.2.2.1 (s:=8) (by omega);have k6:=cT s.2.2.2.2.1 (s:=6) (by omega);have k7:=cT s.2.2.2.2.2.2.2.2.1 (s:=8) (by omega);have VW:cP (s.2.1,((l.length:Nat):Int))=true:=azC (by grind);have Kh:iw l s∈l:=by
  have:(place (s.2.1,((l.length:Nat):Int))).toNat<l.length:=by omega
  grind[iw]
 rw[VW,azC kp.1,azC kp.2];simp only[azP];have hsv:=h.node _ Kh;have hsc:=((ji _).1 hsv).2.1;cases hcp:s.2.2.2.2.2.2.2.2.2
 case true=>
  simp only[aBr,azI];have:=Ny l op (place (s.2.2.1,4)) (place (s.2.2.2.1,8)) (iw l s) [eE (gb (iw l s),place (s.2.2.2.2.2.2.2.2.1,8))] h s6 Kh hl k4 k8 [eE (gb (iw l s),place (s.2.2.2.2.2.2.2.2.1,8))] [] l 0 rfl (by simp) (by simp)
   (fun u hu=>by
    simp at hu;subst hu;have hs:=ahg (gb (iw l s)) (place (s.2.2.2.2.2.2.2.2.1,8));refine⟨ana hsc _ (by omega),?_,.inr hs,fun x hx=>aaf (h.amS x hx _ Kh) hs⟩;show contains (nV (gb (iw l s)),_)=true;rw[← (Mp hs).1];exact Ug (IA hsc))
   (h.mono (by omega)) (fun x hx=>hx) (fun x hx=>.inl hx) (by omega)
  grind
 simp only[aBh,azH];have hk:Ep s=1+place (s.2.2.2.2.1,6):=az (by omega) (by omega);have wV:i64.wrap (Ep s-1)=place (s.2.2.2.2.1,6):=by grind[az]
 rw[wV,azC k6.1,azC (show place (s.2.2.2.2.1,6)<(([i64.wrap (6+place (s.2.2.2.2.2.2.1,10)),12,12,6,10,16].length:Nat):Int)from k6.2),azC (aka (Qq s))];simp only[azP,ahe];by_cases hr:(oO l s).2=0
 case neg=>simp only[azK hr,aBh,azH];exact⟨trivial,h.mono (by omega),by omega⟩
 simp only[azC hr,aBr,azI];have ro:aiR (gb (iw l s)) (oO l s).1:=afz hr;have p1:ff (l,fv (iw l s),(oO l s).1)=true:=by
  simp only[ff,azF];exact⟨azC (by omega),azC (by have:=ro.len;omega)⟩
 rw[p1,azP];cases hc:mz (l,fv (iw l s),(oO l s).1)
 case true=>exact⟨rfl,h.mono (by omega),by simp⟩
 simp only[azI];obtain⟨f1,f2,x0,f3,f4,f5⟩:=ZO Kh rfl;have hx0:x0=iw l s:=Pj h f3 Kh f4;rw[hx0]at f5;have:=Ny l op (place (s.2.2.1,4)) (place (s.2.2.2.1,8)) (iw l s) (oO l s).1 h s6 Kh hl k4 k8 (oO l s).1 [] l 0 rfl (by simpa using ro.len) (by simpa using ro.apart)
  (fun u hu=>by
   obtain⟨c1,c2⟩:=ro.aw u hu;refine⟨c1,c2,.inl ro.asz,fun x hx=>?_⟩;have hh:=any_false (any_false hc u hu) x hx;simp only[Nq,f5,azC (show dV l (fv (iw l s))≥0 from f1),azP,Bool.and_eq_false_imp,aBG,azF,azM]at hh;cases ho:overlaps (JF x,nV u)
   ·exact(gO _ _).2 (.inl ho)
   ·obtain⟨g1,g2⟩:=hh ho
    exact(gO _ _).2 (.inr (.inr (.inl ⟨g1,B2 g2 c2⟩))))
  (h.mono (by omega)) (fun x hx=>hx) (fun x hx=>.inl hx) (by omega)
 exact⟨by rw[this.1,azC (show(oO l s).1.length≤1099511627776 by have:=ro.len;omega)];rfl,this.2⟩
theorem amo:∀a,nf a=true→nf a=true:=fun _ h=>h
def adE:dn:=⟨67,[.c (.sl aF),.g l7,.c zI],[.v (.sl aF)],nf,iM⟩
theorem VJ:zO adE:=fl OZ Af [.tmp 6] mixed (ah fk (ah ac2 (ah VC (ah adR (ah VF (ah Vx (ah VE (aC)))))))) Tryz.func67 (bp T1 amo (fun _ _=>rfl))
def O0:cX:=zC [adE] (dE []) 29
def Ah:Nat→LD:=eO [(0,⟨[.rd 0 l7,.c 3 (.sl aF),.c 4 (zI)],[],0⟩)]
def ab0(f:Nat)(a:(List iz)):Option ((List ag)):=aG O0 Ah (zK [.tmp 2] [.v (.sl aF)]) f [.code (aB Tryz.f31)] (aQ [.rd l7] a)
def vY(f:Nat)(x:(List iz)×(List ag)×Int):Option ((List ag)):=aG O0 Ah (zK [.tmp 2] [.v (.sl aF)]) f (aV Tryz.f31 0) ((Ah 0).mk' x)
theorem Vd(f:Nat)(l:List iz):ab0 (f+1) l =
  vY f (l,[],0):=by kernel_rfl
theorem kt(f:Nat)(l:List iz)(out:List ag)(i:Int):vY (f+1) (l,out,i) =
  bif decide (i<(↑l.length:Int))then bif decide (i<40)then bif decide ((↑out.length:Int)<24)then bif decide (0≤i)&&decide (i<(↑l.length:Int))then bif nf (out,l.getD i.toNat (false,0,0,0,0,0,0,0,0,false),i64.wrap (i+1))then vY f (l,iM (out,l.getD i.toNat (false,0,0,0,0,0,0,0,0,false),i64.wrap (i+1)),i64.wrap (i+1))else none else none else some out else some out else some out:=by kernel_rfl
def gy:List iz→((List iz)×(List ag)×Nat)→(List ag)
 | [],(l,out,i)=>out
 | uu::rest,(l,out,i)=>bif decide ((↑i:Int)<40)then bif decide ((↑out.length:Int)<24)then gy rest (l,iM (out,uu,(↑(i+1):Int)),i+1)else out else out
def CH:List iz→((List iz)×(List ag)×Nat)→Bool
 | [],(l,out,i)=>true
 | uu::rest,(l,out,i)=>bif decide ((↑i:Int)<40)then bif decide ((↑out.length:Int)<24)then nf (out,uu,(↑(i+1):Int))&&CH rest (l,iM (out,uu,(↑(i+1):Int)),i+1)else true else true
def anp:(List iz)→(List ag)
 | l=>gy l (l,[],0)
theorem ZN(l:List iz):∀(r:List iz) (out:List ag) (i:Nat),Vf (i:Int) out→i≤40→out.length≤31→CH r (l,out,i)=true∧Vf 40 (gy r (l,out,i))∧(gy r (l,out,i)).length≤31
 | [],out,i,h,hi,hl=>⟨rfl,h.mono (by omega),hl⟩
 | u::r,out,i,h,hi,hl=>by
  simp only[gy,CH];by_cases h1:(i:Int)<40
  case neg=>grind
  by_cases h2:((out.length:Nat):Int)<24
  case neg=>simp only[azC h1,azK h2,azH,azI];exact⟨trivial,h.mono (by omega),hl⟩
  simp only[azC h1,azC h2,azH];obtain⟨g1,g2,g3⟩:=Qo (l:=out) (op:=((i+1:Nat):Int)) (by grind) (by omega) (by omega) (by omega) u;obtain⟨f1,f2,f3⟩:=ZN l r (iM (out,u,((i+1:Nat):Int))) (i+1) g2 (by omega) (by omega);grind
def aD(a:List iz):List ag:=anp a
theorem Er:∀(rest pre:List iz) (out:List ag),Vf ((pre.length:Nat):Int) out→pre.length≤40→out.length≤31→∃f,vY f (pre++rest,out,((pre.length:Nat):Int))=some (gy rest (pre++rest,out,pre.length))
 | [],pre,out,h,hp,hl=>⟨1,(kt 0 _ _ _).trans (by rw[alp];rfl)⟩
 | u::rest,pre,out,h,hp,hl=>by
  have e1:i64.wrap (((pre.length:Nat):Int)+1)=((pre.length+1:Nat):Int):=by grind[az]
  by_cases h1:((pre.length:Nat):Int)<40
  case neg=>
   refine⟨1,(kt 0 _ _ _).trans ?_⟩;rw[M9];simp only[gy,azK h1];rfl
  by_cases h2:((out.length:Nat):Int)<24
  case neg=>
   refine⟨1,(kt 0 _ _ _).trans ?_⟩;rw[M9];simp only[gy,azC h1,azK h2];rfl
  obtain⟨g1,g2,g3⟩:=Qo (l:=out) (op:=((pre.length+1:Nat):Int)) (by grind) (by omega) (by omega) (by omega) u;obtain⟨f,hf⟩:=Er rest (pre++[u]) (iM (out,u,((pre.length+1:Nat):Int))) (by grind) (by simp;omega) (by omega);refine⟨f+1,(kt f _ _ _).trans ?_⟩;rw[M9,ZH,fW,e1];simp only[gy,azC h1,azC h2,g1,azH,azQ];grind
theorem ZM:∀a,(fun _=>true) a=true→∃f,ab0 f a=some (aD a):=fun a _=>by
 obtain⟨f,hf⟩:=Er a [] [] (Vf.nil _) (by simp) (by simp);exact⟨f+1,(Vd f _).trans hf⟩
def ans:dn:=⟨31,[.rd l7],[.v (.sl aF)],fun _=>true,aD⟩
theorem VK:zO ans:=fl O0 Ah [.tmp 2] mixed (ah VJ (aC)) Tryz.func31 ZM
theorem rj(a:List iz):Vf 40 (aD a)∧(aD a).length≤31:=(ZN a a [] 0 (Vf.nil _) (by omega) (by simp)).2
