/- AI. -/
import Derived.Test.YtfggefeflojnkaaGreatYp
import Derived.MapFrom
set_option linter.unusedVariables false
open Go.IntKind (i64 u64)
namespace Go.AL
open Go.Proofs
def ga(n:Int):aj:=(place (n,4),1+place (i64.wrap (n.tdiv 4),20),0)
noncomputable def ajS:cX:=zC [gY] (dE []) 10
noncomputable def aje(f:Nat)(a:Int):Option aj:=aG ajS (eO []) (zK [.cell 2 48] [.g aE]) f [.code (aB Tryz.f69)] (aQ [.c zI] a)
theorem abU(f:Nat)(n:Int):aje (f+1) n =
  some (place (n,4),i64.wrap (1+place (i64.wrap (n.tdiv 4),20)),0):=by kernel_rfl
noncomputable def acP:Int→aj
 | n=>(place (n,4),i64.wrap (1+place (i64.wrap (n.tdiv 4),20)),0)
noncomputable def aiU:Int→Bool
 | n=>true
theorem Yq:∀a:Int,de (fun f=>aje f a) (aiU a) (acP a)
 | n=>ai (fun f=>abU f _) ae
theorem apk:∀a:Int,(fun _=>true) a=true→aiU a=true:=fun a _=>rfl
theorem jD(n k:Int)(hk:0<k)(hk2:k≤1000000):0≤place (n,k)∧place (n,k)<k:=by
 exact⟨kY _ _,oz _ hk⟩
theorem apl:∀a:Int,(fun _=>true) a=true→acP a=ga a:=fun a _=>by
 have:=jD (i64.wrap (a.tdiv 4)) 20 (by omega) (by omega);grind[acP,ga,az]
noncomputable def R9:dn:=⟨69,[.c zI],[.g aE],fun _=>true,ga⟩
theorem LM:zO R9:=fl ajS (eO []) [.cell 2 48] mixed (ah fk (aC)) Tryz.func69 (bp Yq apk apl)
noncomputable def ajX:cX:=zC [] (dE []) 12
noncomputable def ajr(f:Nat)(a:(List Int)×Int):Option ((List Int)):=aG ajX (eO []) (zK [.tmp 4] [.v (.sl [zI])]) f [.code (aB Tryz.f33)] (aQ [.c (.sl [zI]),.c zI] a)
theorem acj(f:Nat)(l:List Int)(n:Int):ajr (f+1) (l,n) =
  bif decide (n≥(↑l.length:Int))then some []else bif decide (0≤n)&&decide (n≤(↑l.length:Int))then some (List.drop n.toNat l)else none:=by kernel_rfl
noncomputable def ac0:((List Int)×Int)→(List Int)
 | (l,n)=>bif decide (n≥(↑l.length:Int))then[]else List.drop n.toNat l
noncomputable def abd:((List Int)×Int)→Bool
 | (l,n)=>bif decide (n≥(↑l.length:Int))then true else decide (0≤n)&&decide (n≤(↑l.length:Int))
theorem aaH:∀a:(List Int)×Int,de (fun f=>ajr f a) (abd a) (ac0 a)
 | (l,n)=>ai (fun f=>acj f _ _) (ao ae (cS ae))
theorem aq7:∀a:List Int×Int,decide (0≤a.2)=true→abd a=true:=fun a h=>by
 have h:0≤a.2:=azZ h;simp only[abd];grind
theorem aq8:∀a:List Int×Int,decide (0≤a.2)=true→ac0 a=a.1.drop a.2.toNat:=fun a h=>by
 have h:0≤a.2:=azZ h;simp only[ac0];by_cases h1:a.2≥(a.1.length:Nat)
 ·simp_all
 grind
noncomputable def adQ:dn:=⟨33,[.c (.sl [zI]),.c zI],[.v (.sl [zI])],fun a:(List Int)×Int=>decide (0≤a.2),fun a:(List Int)×Int=>a.1.drop a.2.toNat⟩
theorem LP:zO adQ:=fl ajX (eO []) [.tmp 4] mixed (aC) Tryz.func33 (bp aaH aq7 aq8)
noncomputable def O2:cX:=zC [gY] (dE []) 20
def Aj:Nat→LD:=eO [(0,⟨[.c 0 (zI),.list 3 999 3 1 [zI],.c 4 (zI)],[],0⟩)]
noncomputable def ab7(f:Nat)(a:Int):Option ((List Int)):=aG O2 Aj (zK [.tmp 2] [.v (.sl [zI])]) f [.code (aB Tryz.f39)] (aQ [.c zI] a)
noncomputable def qI(f:Nat)(x:Int×(List Int)×Int):Option ((List Int)):=aG O2 Aj (zK [.tmp 2] [.v (.sl [zI])]) f (aV Tryz.f39 0) ((Aj 0).mk' x)
theorem Vh(f:Nat)(n:Int):ab7 (f+1) n =
  qI f (n,[],0):=by kernel_rfl
theorem yA(f:Nat)(n:Int)(out:List Int)(i:Int):qI (f+1) (n,out,i) =
  bif decide (i<4)then bif decide (0≤u64.wrap i)then bif place (n.fdiv (2 ^ min (u64.wrap i).toNat i64.bits),2) == 1 then bif decide ((out.length+[i].length)*8≤140737488355328)then qI f (n,out++[i],i64.wrap (i+1))else none else qI f (n,out,i64.wrap (i+1))else none else some out:=by kernel_rfl
noncomputable def aeu:Nat→(Int×(List Int)×Nat)→(List Int)
 | 0,(n,out,i)=>out
 | rest+1,(n,out,i)=>bif place (n.fdiv (2 ^ min (u64.wrap (↑i:Int)).toNat i64.bits),2) == 1 then aeu rest (n,out++[(↑i:Int)],i+1)else aeu rest (n,out,i+1)
noncomputable def lR:Nat→(Int×(List Int)×Nat)→Bool
 | 0,(n,out,i)=>true
 | rest+1,(n,out,i)=>decide (0≤u64.wrap (↑i:Int))&&bif place (n.fdiv (2 ^ min (u64.wrap (↑i:Int)).toNat i64.bits),2) == 1 then decide ((out.length+1)*8≤140737488355328)&&lR rest (n,out++[(↑i:Int)],i+1)else lR rest (n,out,i+1)
theorem C4:∀(rest:Nat) (n:Int) (out:List Int) (i:Nat) (hd:((4:Int)-((i:Nat):Int)).toNat=rest) (hl:(4:Int)≤1099511627776),de (fun f=>qI f (n,out,((i:Nat):Int))) (lR rest (n,out,i)) (aeu rest (n,out,i))
 | 0,n,out,i,hd,hl=>ai (fun f=>(yA f _ _ _).trans (by simp only[aah hd,azI]<;>rfl)) ae
 | rest+1,n,out,i,hd,hl=>ai (fun f=>(yA f _ _ _).trans (by simp only[aag hd,KQ hd hl,azH]<;>rfl)) (aI (ao (aI (C4 rest _ _ _ (u7 hd) (by grind))) (C4 rest _ _ _ (u7 hd) (by grind))))
noncomputable def bt:Int→(List Int)
 | n=>aeu (4-(↑0:Int)).toNat (n,[],0)
noncomputable def aa6:Int→Bool
 | n=>lR (4-(↑0:Int)).toNat (n,[],0)
theorem Ue:∀a:Int,de (fun f=>ab7 f a) (aa6 a) (bt a)
 | n=>ai (fun f=>Vh f _) (C4 _ _ _ _ rfl (by decide))
theorem amQ:∀a:Int,(fun _=>true) a=true→aa6 a=true:=fun a _=>by
 have key:∀(r:Nat) (out:List Int) (i:Nat),out.length+r≤100→i+r≤100→lR r (a,out,i)=true:=by
  intro r;induction r with
  | zero=>intro out i h h2;rfl
  | succ r ih=>
   intro out i h h2;simp only[lR];rw[ih _ _ (by simp;omega) (by omega),ih _ _ (by omega) (by omega)];have:u64.wrap ((i:Nat):Int)=i:=by rw[IntKind.wrap_u64];omega
   rw[this,azC (show(0:Int)≤(i:Nat)by omega),azC (show(out.length+1)*8≤140737488355328 by omega)];grind
 exact key 4 [] 0 (by simp) (by omega)
noncomputable def adJ:dn:=⟨39,[.c zI],[.v (.sl [zI])],fun _=>true,bt⟩
theorem VN:zO adJ:=fl O2 Aj [.tmp 2] mixed (ah fk (aC)) Tryz.func39 (bp Ue amQ (fun _ _=>rfl))
def ub:List eB:=[(0,15,false),(32768,15,false)]
noncomputable def ad2:cX:=zC [] (dE []) 4
noncomputable def abA(f:Nat)(a:Unit):Option ((List eB)):=aG ad2 (eO []) (zK [.tmp 0] [.v (.sl tP)]) f [.code (aB Tryz.f13)] (aQ [] a)
theorem UW(f:Nat):abA (f+1) () =
  some [(0,15,false),(32768,15,false)]:=by kernel_rfl
noncomputable def acG:Unit→(List eB)
 | ()=>[(0,15,false),(32768,15,false)]
noncomputable def aaS:Unit→Bool
 | ()=>true
theorem Ta:∀a:Unit,de (fun f=>abA f a) (aaS a) (acG a)
 | ()=>ai (fun f=>UW f) ae
noncomputable def Hn:dn:=⟨13,[],[.v (.sl tP)],fun _=>true,fun _=>ub⟩
theorem E1:zO Hn:=fl ad2 (eO []) [.tmp 0] mixed (aC) Tryz.func13 (bp Ta (fun _ _=>rfl) (fun _ _=>rfl))
noncomputable def ajR:cX:=zC [ahB,R9,gY,ni] (dE [(1,([(0,[]),(3,[]),(6,[]),(7,[]),(12,[]),(15,[]),(1,[]),(2,[]),(4,[]),(5,[]),(8,[]),(9,[]),(10,[]),(11,[]),(13,[]),(14,[]),(16,[])],[(5,20)]))]) 69
noncomputable def ajd(f:Nat)(a:(List Int)×cu):Option bR:=aG ajR (eO []) (zK [.cell 4 56] [.g bV]) f [.code (aB Tryz.f70)] (aQ [.rd [zI],.g gA] a)
theorem abT(f:Nat)(l:List Int)(n:cu):ajd (f+1) (l,n) =
  bif decide (0≤place (ba (l,2),2))&&decide (place (ba (l,2),2)<(↑[32,39].length:Int))then bif af n.2.2.2.1 then bif i64.wrap (1+place (ba (l,3),6)) == 1 then some ((ga (ba (l,0))).1,(ga (ba (l,0))).2.1,(ga (ba (l,0))).2.2,i64.wrap (1+place (ba (l,3),6)),place (ba (l,4),8),place (ba (l,5),8),place (ba (l,6),4),place (ba (l,7),8),i64.wrap (1+place (ba (l,8),6)),i64.wrap (12+place (ba (l,9),3)),place (ba (l,10),2),i64.wrap (place (ba (l,11),8)*2 ^ min (Int.toNat 12) i64.bits),i64.wrap (1+place (ba (l,12),3)),ba (l,13),ba (l,14),place (ba (l,1),3),[32,39].getD (place (ba (l,2),2)).toNat 0,0,0,0,[],0,0,0,0,0,0,false)else some ((ga (ba (l,0))).1,(ga (ba (l,0))).2.1,(ga (ba (l,0))).2.2,i64.wrap (1+place (ba (l,3),6)),place (ba (l,4),8),place (ba (l,5),8),place (ba (l,6),4),place (ba (l,7),8),i64.wrap (1+place (ba (l,8),6)),i64.wrap (12+place (ba (l,9),3)),place (ba (l,10),2),i64.wrap (place (ba (l,11),8)*2 ^ min (Int.toNat 12) i64.bits),i64.wrap (1+place (ba (l,12),3)),ba (l,13),ba (l,14),place (ba (l,1),3),[32,39].getD (place (ba (l,2),2)).toNat 0,n)else none else none:=by kernel_rfl
noncomputable def RP:((List Int)×cu)→bR
 | (l,n)=>bif i64.wrap (1+place (ba (l,3),6)) == 1 then((ga (ba (l,0))).1,(ga (ba (l,0))).2.1,(ga (ba (l,0))).2.2,i64.wrap (1+place (ba (l,3),6)),place (ba (l,4),8),place (ba (l,5),8),place (ba (l,6),4),place (ba (l,7),8),i64.wrap (1+place (ba (l,8),6)),i64.wrap (12+place (ba (l,9),3)),place (ba (l,10),2),i64.wrap (place (ba (l,11),8)*2 ^ min (Int.toNat 12) i64.bits),i64.wrap (1+place (ba (l,12),3)),ba (l,13),ba (l,14),place (ba (l,1),3),[32,39].getD (place (ba (l,2),2)).toNat 0,0,0,0,[],0,0,0,0,0,0,false)else((ga (ba (l,0))).1,(ga (ba (l,0))).2.1,(ga (ba (l,0))).2.2,i64.wrap (1+place (ba (l,3),6)),place (ba (l,4),8),place (ba (l,5),8),place (ba (l,6),4),place (ba (l,7),8),i64.wrap (1+place (ba (l,8),6)),i64.wrap (12+place (ba (l,9),3)),place (ba (l,10),2),i64.wrap (place (ba (l,11),8)*2 ^ min (Int.toNat 12) i64.bits),i64.wrap (1+place (ba (l,12),3)),ba (l,13),ba (l,14),place (ba (l,1),3),[32,39].getD (place (ba (l,2),2)).toNat 0,n)
noncomputable def QR:((List Int)×cu)→Bool
 | (l,n)=>decide (0≤place (ba (l,2),2))&&decide (place (ba (l,2),2)<(↑[32,39].length:Int))&&af n.2.2.2.1
theorem Yo:∀a:(List Int)×cu,de (fun f=>ajd f a) (QR a) (RP a)
 | (l,n)=>ai (fun f=>abT f _ _) (aI (cS (aT ae ae)))
def wN(a:List Int×cu):bR:=apm (ga (ba (a.1,0))) (1+place (ba (a.1,3),6),place (ba (a.1,4),8),place (ba (a.1,5),8),place (ba (a.1,6),4),place (ba (a.1,7),8),1+place (ba (a.1,8),6),12+place (ba (a.1,9),3),place (ba (a.1,10),2),place (ba (a.1,11),8)*4096,1+place (ba (a.1,12),3),ba (a.1,13),ba (a.1,14)) (place (ba (a.1,1),3)) ([32,39].getD (place (ba (a.1,2),2)).toNat 0) (bif decide (place (ba (a.1,3),6)=0)then sz else a.2)
theorem JX:∀a:List Int×cu,af a.2.2.2.2.1=true→QR a=true∧RP a=wN a:=by
 rintro⟨l,n⟩ h;have p3:=jD (ba (l,3)) 6 (by omega) (by omega);have p8:=jD (ba (l,8)) 6 (by omega) (by omega);have p9:=jD (ba (l,9)) 3 (by omega) (by omega);have p11:=jD (ba (l,11)) 8 (by omega) (by omega);have H8:=jD (ba (l,12)) 3 (by omega) (by omega);have p2:=jD (ba (l,2)) 2 (by omega) (by omega);have e12:(2:Int) ^ min (Int.toNat 12) i64.bits=4096:=by decide
 constructor
 ·simp only[QR,h,aAt,azF,azM]
  grind
 ·simp only[RP,wN,e12]
  rw[az (n:=1+place (ba (l,3),6)) (by omega) (by omega),az (n:=1+place (ba (l,8),6)) (by omega) (by omega),az (n:=12+place (ba (l,9),3)) (by omega) (by omega),az (n:=place (ba (l,11),8)*4096) (by omega) (by omega),az (n:=1+place (ba (l,12),3)) (by omega) (by omega)];by_cases h0:place (ba (l,3),6)=0
  ·rw[azC h0,show(1+place (ba (l,3),6) == 1)=true from by rw[xm];exact azC (by omega)]
   rfl
  ·rw[azK h0,show(1+place (ba (l,3),6) == 1)=false from by rw[xm];exact azK (by omega)]
   rfl
theorem api:∀a:List Int×cu,af a.2.2.2.2.1=true→QR a=true:=fun a h=>(JX a h).1
theorem apj:∀a:List Int×cu,af a.2.2.2.2.1=true→RP a=wN a:=fun a h=>(JX a h).2
noncomputable def adx:dn:=⟨70,[.rd [zI],.g gA],[.g bV],fun a:(List Int)×cu=>af a.2.2.2.2.1,wN⟩
theorem adw:zO adx:=fl ajR (eO []) [.cell 4 56] mixed (ah Hs (ah LM (ah fk (ah gR (aC))))) Tryz.func70 (bp Yo api apj)
noncomputable def aej:cX:=⟨Tryz.prog,[ajJ,adk],dE [],50,[],[(21,bg),(33,bV),(45,gJ)],[],[]⟩
def G5:Nat→LD:=eO [(0,⟨[.rd 0 eG,.list 3 999 40 20 eG,.c 4 (zI)],[],0⟩)]
noncomputable def ajm(f:Nat)(a:(List cC)):Option ((List cC)):=aG aej G5 (zK [.tmp 2] [.v (.sl eG)]) f [.code (aB Tryz.f18)] (aQ [.rd eG] a)
noncomputable def Ay(f:Nat)(x:(List cC)×(List cC)×Int):Option ((List cC)):=aG aej G5 (zK [.tmp 2] [.v (.sl eG)]) f (aV Tryz.f18 0) ((G5 0).mk' x)
theorem ab6(f:Nat)(l:List cC):ajm (f+1) l =
  bif decide (l.length*416≤140737488355328)then Ay f (l,l,0)else none:=by kernel_rfl
theorem CS(f:Nat)(l out:List cC)(i:Int):Ay (f+1) (l,out,i) =
  bif decide (i<(↑out.length:Int))then bif decide (0≤i)&&decide (i<(↑l.length:Int))then bif ct (l.getD i.toNat zq5).2.2.2.2.1 then bif decide (0≤i)&&decide (i<(↑out.length:Int))then bif decide (0≤i)&&decide (i<(↑l.length:Int))then bif ke (l.getD i.toNat zq5).2.2.2.2.2.1 then bif decide (0≤i)&&decide (i<(↑(out.set i.toNat (bG (bG (bG (bG (H7 (l.getD i.toNat zq5).2.2.2.2.1)))) (out.getD i.toNat zq5))).length:Int))then bif decide (0≤i)&&decide (i<(↑l.length:Int))then bif decide (List.length (l.getD i.toNat zq5).2.2.2.2.2.2.1*32≤140737488355328)then bif decide (0≤i)&&decide (i<(↑((out.set i.toNat (bG (bG (bG (bG (H7 (l.getD i.toNat zq5).2.2.2.2.1)))) (out.getD i.toNat zq5))).set i.toNat (bG (bG (bG (bG (bG (H7 (l.getD i.toNat zq5).2.2.2.2.2.1))))) ((out.set i.toNat (bG (bG (bG (bG (H7 (l.getD i.toNat zq5).2.2.2.2.1)))) (out.getD i.toNat zq5))).getD i.toNat zq5))).length:Int))then Ay f (l,((out.set i.toNat (bG (bG (bG (bG (H7 (l.getD i.toNat zq5).2.2.2.2.1)))) (out.getD i.toNat zq5))).set i.toNat (bG (bG (bG (bG (bG (H7 (l.getD i.toNat zq5).2.2.2.2.2.1))))) ((out.set i.toNat (bG (bG (bG (bG (H7 (l.getD i.toNat zq5).2.2.2.2.1)))) (out.getD i.toNat zq5))).getD i.toNat zq5))).set i.toNat (bG (bG (bG (bG (bG (bG (H7 (l.getD i.toNat zq5).2.2.2.2.2.2.1)))))) (((out.set i.toNat (bG (bG (bG (bG (H7 (l.getD i.toNat zq5).2.2.2.2.1)))) (out.getD i.toNat zq5))).set i.toNat (bG (bG (bG (bG (bG (H7 (l.getD i.toNat zq5).2.2.2.2.2.1))))) ((out.set i.toNat (bG (bG (bG (bG (H7 (l.getD i.toNat zq5).2.2.2.2.1)))) (out.getD i.toNat zq5))).getD i.toNat zq5))).getD i.toNat zq5)),i64.wrap (i+1))else none else none else none else none else none else none else none else none else none else some out:=by kernel_rfl
def NM(l:List cC):Bool:=decide (l.length≤100)&&l.all fun r=>ct r.2.2.2.2.1&&(ke r.2.2.2.2.2.1&&decide ((rR r).length≤1000))
theorem aiL(l:List cC)(hl:l.length≤100)(hp:∀r∈l,ct r.2.2.2.2.1=true∧ke r.2.2.2.2.2.1=true∧(rR r).length≤1000):∀(r:List cC) (k:Nat),l.drop k=r→∃f,Ay f (l,l,((k:Nat):Int))=some l
 | [],k,h=>⟨1,(CS 0 _ _ _).trans (by grind[fA,bT])⟩
 | u::r,k,h=>by
  have hk:=ak h;obtain⟨f,hf⟩:=aiL l hl hp r (k+1) (aH h);obtain⟨h1,h2,h3⟩:=hp u (azO (rn h));have h3:decide (List.length u.2.2.2.2.2.2.1*32≤140737488355328)=true:=azC (by grind);have e1:bG (bG (bG (bG (H7 u.2.2.2.2.1)))) u=u:=rfl;have e2:bG (bG (bG (bG (bG (H7 u.2.2.2.2.2.1))))) u=u:=rfl;have e3:bG (bG (bG (bG (bG (bG (H7 u.2.2.2.2.2.2.1)))))) u=u:=rfl;refine⟨f+1,(CS f _ _ _).trans ?_⟩;simp only[cK hk,fW,bC h,h1,h2,h3,e1,e2,e3,tW h,azQ,azH];grind[az]
theorem ag5:∀l:List cC,NM l=true→∃f,ajm f l=some l:=fun l h=>by
 simp only[NM,azF,azM]at h;obtain⟨f,hf⟩:=aiL l h.1 (fun r hr=>by have:=azU.1 h.2 r hr;simp only[azF,azM]at this;exact this) l 0 rfl;refine⟨f+1,(ab6 f _).trans ?_⟩;grind
noncomputable def adI:dn:=⟨18,[.rd eG],[.v (.sl eG)],NM,fun a=>(fun l=>l:(List cC)→(List cC)) a⟩
theorem adH:zO adI:=fl aej G5 [.tmp 2] mixed (ah adG (ah VA (aC))) Tryz.func18 ag5
def dp(a:Int×Int×List cC):ay:=bif decide (bu (fun q=>decide (q.1=a.1)) a.2.2 0<0)then(List.replicate (max a.2.1 0).toNat iR,[],[],[],[],[])
 else((a.2.2.getD (bu (fun q=>decide (q.1=a.1)) a.2.2 0).toNat zq5).2.2.2.2.1,(a.2.2.getD (bu (fun q=>decide (q.1=a.1)) a.2.2 0).toNat zq5).2.2.2.2.2.1,[],[],[],[])
def SM(a:Int×Int×List cC):Bool:=decide (a.2.1≤1000000)&&(decide (a.2.2.length≤100)&&a.2.2.all AZ)
open Go.Proofs Go.MapKept
def Zc.prun{α:Type}(P:Program):Sem α→Option α
 | .pure a=>some a
 | .program k=>Zc.prun P (k P)
 | _=>none
theorem Zc.ui{α:Type}{P:Program}{m:Sem α}{a:α}(h:Zc.prun P m=some a)(w:World):m.run P w=.ok a w:=by
 induction m with
 | pure b=>simp only[Zc.prun,azN]at h;simp_all
 | program k ih=>exact ih P h
 | _=>grind[Zc.prun]
def Yh.v(x:aj):Value:=.agg #[.int .i64 x.1,.int .i64 x.2.1,.int .i64 x.2.2]
theorem Yh.bit{a b c d e f:Int}:((a == d)&&((b == e)&&((c == f)&&true)))=decide ((a,b,c)=(d,e,f)):=by
 grind
theorem Yh.ao4(w:World)(x:aj):nT w (fun _=>False) [.int .i64 x.1,.int .i64 x.2.1,.int .i64 x.2.2] [.int .i64 x.1,.int .i64 x.2.1,.int .i64 x.2.2]:=by
 refine⟨rfl,fun j y hy=>?_⟩
 match j,hy with
 | 0,hy=>simp at hy;subst hy;exact⟨_,rfl,.int _ _⟩
 | 1,hy=>simp at hy;subst hy;exact⟨_,rfl,.int _ _⟩
 | 2,hy=>simp at hy;subst hy;exact⟨_,rfl,.int _ _⟩
 | j+3,hy=>simp at hy
theorem Yh.row(x:aj):valOf Tryz.prog 48 [.int .i64 x.1,.int .i64 x.2.1,.int .i64 x.2.2]=Yh.v x:=by kernel_rfl
theorem Yh.eq(x y:aj)(w:World):(Op.equal 48 (Yh.v x) (Yh.v y)).run Tryz.prog w=.ok (decide (x=y)) w:=by
 obtain⟨a,b,c⟩:=x;obtain⟨d,e,f⟩:=y;have h:=sM (P:=Tryz.prog) (fun _=>False) w 2 48 [true,true,true] (by kernel_rfl) Op.maxDepth (by decide) _ _ _ _ (decide ((a,b,c)=(d,e,f))) (Yh.ao4 w (a,b,c)) (Yh.ao4 w (d,e,f)) rfl
  (by show some _=some _;exact azT some Yh.bit) w
 rw[Yh.row (a,b,c),Yh.row (d,e,f)]at h;unfold Op.equal;exact h
theorem Yh.ck0(x:aj)(e:Bool):Zc.prun Tryz.prog (Instr.checkKey e 10000 48 (Yh.v x))=some ():=by kernel_rfl
theorem Yh.ck(x:aj)(e:Bool)(w:World):(Instr.checkKey e 10000 48 (Yh.v x)).run Tryz.prog w=.ok () w:=Zc.ui (Yh.ck0 x e) w
def Yh.E(ids:List aj)(l:List MapEntry):Prop:=l.map (fun e=>(e.key,e.val))=ids.map fun x=>(Yh.v x,.bool true)
theorem Yh.ask(x:aj)(w:World):∀(ids:List aj) (l:List MapEntry) (i:Nat),Yh.E ids l→
  ∃r,(Instr.findAsking 48 (Yh.v x) l i).run Tryz.prog w=.ok r w∧((x∉ids∧r=none)∨(x∈ids∧∃j e,r=some (i+j,.bool true)∧l[j]? = some e∧e.key=Yh.v x∧e.val=.bool true))
 | [],[],i,_=>⟨none,rfl,.inl ⟨by simp,rfl⟩⟩
 | [],_::_,i,h=>by grind[Yh.E]
 | _::_,[],i,h=>by grind[Yh.E]
 | y::ids,e::l,i,h=>by
  simp only[Yh.E,aAy,aBw,azY]at h;obtain⟨⟨h1,h2⟩,h3⟩:=h;by_cases uH:x=y
  ·subst uH
   refine⟨some (i,.bool true),?_,.inr ⟨by simp,0,e,rfl,rfl,h1,h2⟩⟩;simp only[Instr.findAsking,Sem.run_bind,h1,Yh.eq,Result.andThen_ok,aBP,aAo,h2];rfl
  ·obtain⟨r,g1,g2⟩:=Yh.ask x w ids l (i+1) h3
   refine⟨r,?_,?_⟩
   ·simp only[Instr.findAsking,Sem.run_bind,h1,Yh.eq,Result.andThen_ok,uH,decide_false,aAE,aAd]
    exact g1
   ·rcases g2 with⟨g2,g3⟩ | ⟨g2,j,e',g3,g4,g5⟩
    ·grind
    ·exact .inr ⟨by simp[g2],j+1,e',by rw[g3];congr 2;omega,g4,g5⟩
theorem Yh.find(x:aj)(w:World)(ids:List aj)(l:List MapEntry)(h:Yh.E ids l):
  ∃r,(Instr.findKey 48 (Yh.v x) l).run Tryz.prog w=.ok r w∧((x∉ids∧r=none)∨(x∈ids∧∃j e,r=some (j,.bool true)∧l[j]? = some e∧e.key=Yh.v x∧e.val=.bool true)):=by
 have hu:=Tryz.underlying48;cases ids with
 | nil=>
  cases l with
  | cons=>grind[Yh.E]
  | nil=>
   refine⟨none,?_,.inl ⟨by simp,rfl⟩⟩;simp only[Instr.findKey,Sem.run_bind,run_underlying hu,Result.andThen_ok,Instr.findNow];rfl
 | cons y ids=>
  cases l with
  | nil=>grind[Yh.E]
  | cons e l=>
   obtain⟨r,g1,g2⟩:=Yh.ask x w (y::ids) (e::l) 0 h;refine⟨r,?_,?_⟩
   ·have h1:e.key=Yh.v y:=by
     simp only[Yh.E,aAy,aBw,azY]at h;grind
    simp only[Instr.findKey,Sem.run_bind,run_underlying hu,Result.andThen_ok,Instr.findNow,h1,Yh.v,Instr.sameNow];exact g1
   grind
def Yh.M(w:World)(r:Nat)(ids:List aj):Prop:=∃es c,w.heap[r]? = some (.map es c)∧Yh.E ids es.toList
def Yh.add(ids:List aj)(x:aj):List aj:=if x∈ids then ids else ids++[x]
theorem Yh.af0{ids:List aj}{x y:aj}:y∈Yh.add ids x↔y=x∨y∈ids:=by
 grind[Yh.add]
theorem Yh.look{w:World}{r:Nat}{ids:List aj}(h:Yh.M w r ids)(x:aj):(Instr.lookup 111 (.map (some r)) (Yh.v x) false).run Tryz.prog w=.ok (.bool (decide (x∈ids))) w:=by
 obtain⟨es,c,h1,h2⟩:=h;have hu:=Tryz.underlying111;obtain⟨f,g1,g2⟩:=Yh.find x w ids es.toList h2;rcases g2 with⟨g2,rfl⟩ | ⟨g2,j,e,rfl,g4⟩
 ·have hz:(zeroValue 4).run Tryz.prog w=.ok (.bool false) w:=Zc.ui (by kernel_rfl) w
  simp only[Instr.lookup,Sem.run_bind,run_underlying hu,Result.andThen_ok,Sem.run_pure,MapKept.run_getObj_map h1,Yh.ck,g1,hz];simp[g2]
 ·simp only[Instr.lookup,Sem.run_bind,run_underlying hu,Result.andThen_ok,Sem.run_pure,MapKept.run_getObj_map h1,Yh.ck,g1]
  simp[g2]
theorem Yh.sb(x:aj):Instr.sameBits 10000 (Yh.v x) (Yh.v x)=true:=by
 simp[Yh.v,Instr.sameBits]
theorem Yh.H3{w:World}{r:Nat}{ids:List aj}(h:Yh.M w r ids)(x:aj):∃w',(Instr.mapUpdate 111 (.map (some r)) (Yh.v x) (.bool true)).run Tryz.prog w=.ok () w'∧Yh.M w' r (Yh.add ids x)∧∃o,w'={w with heap:=w.heap.setIfInBounds r o }:=by
 obtain⟨es,c,h1,h2⟩:=h;have hu:=Tryz.underlying111;obtain⟨f,g1,g2⟩:=Yh.find x w ids es.toList h2;rcases g2 with⟨g2,rfl⟩ | ⟨g2,j,e,rfl,g4,g5,g6⟩
 ·refine⟨{w with heap:=w.heap.setIfInBounds r (.map (es.push ⟨Yh.v x,.bool true,c⟩) (c+1)) },?_,⟨_,_,(heap_set h1).1,?_⟩,_,rfl⟩
  ·simp only[Instr.mapUpdate,Sem.run_bind,run_underlying hu,Result.andThen_ok,MapKept.run_getObj_map h1,Yh.ck,g1,MapKept.run_setObj_map _ h1]
  ·unfold Yh.add
   rw[azD g2];simp only[Yh.E,Array.toList_push,List.map_append,aAy,aBq];rw[h2]
 ·have hj:es[j]? = some e:=by grind
  refine⟨{w with heap:=w.heap.setIfInBounds r (.map (es.modify j fun e=>{e with key:=Yh.v x,val:=.bool true }) c) },?_,⟨_,_,(heap_set h1).1,?_⟩,_,rfl⟩
  ·simp only[Instr.mapUpdate,Sem.run_bind,run_underlying hu,Result.andThen_ok,MapKept.run_getObj_map h1,Yh.ck,g1,hj,az7,aAK,g5,Instr.keyThatStays,Yh.sb,aAo,Sem.run_pure,MapKept.run_setObj_map _ h1]
  ·unfold Yh.add
   rw[azE g2];unfold Yh.E at h2 ⊢;rw[← h2];apply List.ext_getElem?;grind
theorem Yh.mk(w:World):(Instr.makeMap 111 none).run Tryz.prog w=.ok (.map (some w.heap.size)) (w.alloc (.map #[] 0))∧Yh.M (w.alloc (.map #[] 0)) w.heap.size []:=
 ⟨by simp[Instr.makeMap,Result.andThen],_,_,(heap_alloc w _).1,rfl⟩
theorem Yh.M.frame{w w':World}{r:Nat}{ids:List aj}(h:Yh.M w r ids)(he:w'.heap[r]? = w.heap[r]?):Yh.M w' r ids:=by
 obtain⟨es,c,h1,h2⟩:=h;exact⟨es,c,by rw[he];exact h1,h2⟩
open Go.Proofs
def uN(o:List aj)(l:List aL):List aj:=l.foldl (fun o s=>bif cB s then o else Yh.add o (xH s)) o
def jK(all:List ay):List aj:=all.foldl (fun o s=>uN o s.1) []
theorem J1(x:aj):∀(l:List aL) (o:List aj),x∈uN o l↔x∈o∨l.any (ZC x)=true
 | [],o=>by simp[uN]
 | s::l,o=>by
  have ih:=J1 x l (bif cB s then o else Yh.add o (xH s));show x∈uN (bif cB s then o else Yh.add o (xH s)) l↔_;rw[ih,aBS,aA8];have e:x∈(bif cB s then o else Yh.add o (xH s))↔x∈o∨ZC x s=true:=by
   unfold ZC;cases cB s with
   | true=>simp
   | false=>
    simp only[azI,aBh,azP,azM];grind[Yh.af0]
  grind
theorem PW(x:aj)(all:List ay):x∈jK all↔jL all x=true:=by
 have key:∀(l:List ay) (o:List aj),x∈l.foldl (fun o s=>uN o s.1) o↔x∈o∨l.any (fun s=>s.1.any (ZC x))=true:=by
  intro l;induction l with
  | nil=>grind
  | cons s l ih=>
   intro o;rw[aAN,ih,J1,aBS,aA8,or_assoc]
 grind[jK,jL]
theorem agt(all:List ay):(fun x=>decide (x∈jK all))=jL all:=by
 funext x
 cases h:jL all x with
 | true=>exact azC ((PW x all).2 h)
 | false=>exact azK fun h2=>by rw[(PW x all).1 h2]at h;cases h
def sf(h:aj→Bool)(d:List aj)(m:List Int)(l0:List aL):List bR→List aL→List bR→List dv→List aL×List bR×List dv
 | [],l,left,an=>(l,left,an)
 | r::q,l,left,an=>bif(ij h l0 r d m).2 then sf h d m l0 q (ny (l,(tZ r).2.1)) left (an++[((tZ r).2.1,(ij h l0 r d m).1)])else sf h d m l0 q l (left++[r]) an
def vq(h:aj→Bool)(d:List aj)(m:List Int)(s:ay):ay:=((sf h d m s.1 s.2.1 s.1 [] s.2.2.2.1).1,(sf h d m s.1 s.2.1 s.1 [] s.2.2.2.1).2.1,s.2.2.1,ca uB (sf h d m s.1 s.2.1 s.1 [] s.2.2.2.1).2.2,s.2.2.2.2)
def SmT(l l0:List aL):Prop:=l.map (fun s=>(cB s,xH s))=l0.map fun s=>(cB s,xH s)
theorem SmT.thr{l l0:List aL}(h:SmT l l0)(r:bR):Fq l r=Fq l0 r:=by
 have hl:l.length=l0.length:=by have:=azT List.length h;grind
 have hg:∀k:Nat,cB (l.getD k iR)=cB (l0.getD k iR)∧xH (l.getD k iR)=xH (l0.getD k iR):=fun k=>by
  have:=azT (fun z=>z[k]?) h;grind
 grind[sQ,Fq]
theorem SmT.out{l l0:List aL}(h:SmT l l0)(b:aj→Bool)(r:bR)(d:List aj)(m:List Int):ij b l r d m=ij b l0 r d m:=by
 unfold ij;rw[h.thr r]
theorem SmT.rel{l l0:List aL}(h:SmT l l0)(op:Int):SmT (ny (l,op)) l0:=by
 unfold SmT at *;rw[← h];unfold ny;rw[List.map_map];apply aAA;intro s hs;show(cB (mg op s),xH (mg op s))=(cB s,xH s);unfold mg;cases decide (Ju s=op)<;>rfl
theorem GK(h:aj→Bool)(d:List aj)(m:List Int)(l0:List aL):∀(q:List bR) (l:List aL) (left:List bR) (an:List dv),SmT l l0→sf h d m l0 q l left an=og h d m q l left an
 | [],l,left,an,hs=>rfl
 | r::q,l,left,an,hs=>by
  simp only[sf,og,hs.out];rw[GK h d m l0 q _ _ _ (hs.rel _),GK h d m l0 q _ _ _ hs]
theorem aaD(h:aj→Bool)(d:List aj)(m:List Int)(s:ay)(hs:s.2.2.2.1=[]):vq h d m s=sJ h d m s:=by
 unfold vq sJ;rw[hs,GK h d m s.1 s.2.1 s.1 [] [] rfl]
theorem PK(rs:List eB)(ow:List Int)(c:Int):∀(ss:List (ay×Int)) (out:List ag),XS rs ow c ss out=(ss.flatMap fun p=>(jQ (p.1.1,p.2)).filter (iG rs ow c)).foldl (fun s x=>cA cj x s) out
 | [],out=>rfl
 | (s,m)::r,out=>by
  rw[XS,PK rs ow c r,aBO,aBU]
def MK(rs:List eB)(ow:List Int)(c:Int)(ss:List (ay×Int)):List ag:=ca cj (ss.flatMap fun p=>(jQ (p.1.1,p.2)).filter (iG rs ow c))
theorem MJ(rs:List eB)(ow:List Int)(c:Int)(ss:List (ay×Int)):MK rs ow c ss=XS rs ow c ss []:=(PK rs ow c ss []).symm
def ig(au:Int)(ab:List cC)(d:List aj)(c:Int):ay:=((oe (dp (c,au,ab)).1 d).map nY,(dp (c,au,ab)).2.1,[],[],[],d)
theorem WR(x:aj):nw x iR=iR:=by
 unfold nw;cases h:sH x iR with
 | false=>rfl
 | true=>rfl
theorem WN(d:List aj)(n:Nat):oe (List.replicate n iR) d=List.replicate n iR:=by
 unfold oe;induction d with
 | nil=>rfl
 | cons x d ih=>
  rw[aAN];have:(tS (List.replicate n iR,x)).1=List.replicate n iR:=by
   show(List.replicate n iR).map (nw x)=_;rw[List.map_replicate,WR]
  grind
theorem Bc(au:Int)(ab:List cC)(d:List aj)(c:Int):ig au ab d c=iU au ab d c:=by
 unfold ig iU dp
 dsimp only
 cases decide (bu (fun q:cC=>decide (q.1=c)) ab 0<0)with
 | true=>simp only[azH,WN,List.map_replicate];rfl
 | false=>rfl
def kZ(rs:List eB)(v:jf)(all:List ay):List ay→List Int→List ay
 | s::r,c::m=>(s.1,s.2.1,s.2.2.1,s.2.2.2.1,MK rs v.2.2 c (all.zip v.2.1),s.2.2.2.2.2)::kZ rs v all r m
 | _,_=>[]
theorem PF(rs:List eB)(v:jf)(all:List ay):∀(r:List ay) (m:List Int) (k:Nat),r.length=m.length→v.2.1.drop k=m→kZ rs v all r m=BZ rs v all r k
 | [],[],k,_,_=>rfl
 | s::r,c::m,k,h,hd=>by
  have e:v.2.1.getD k 0=c:=by
   rw[aAm,← List.head?_drop,hd];rfl
  simp only[kZ,BZ];rw[PF rs v all r m (k+1) (by grind) (by rw[← List.tail_drop,hd];rfl),MJ,← e];rfl
 | [],_::_,k,h,_=>by simp at h
 | _::_,[],k,h,_=>by simp at h
def JH(a:List eB×Int×List cC×jf):List ay:=
 (fun d=>(fun o=>(fun o2=>kZ a.1 a.2.2.2 o2 o2 a.2.2.2.2.1) (o.map (vq (fun x=>decide (x∈jK o)) d a.2.2.2.2.1))) (a.2.2.2.2.1.map (ig a.2.1 a.2.2.1 d))) (nD (ca yK (allM a.2.2.1)))
theorem afI(a:List eB×Int×List cC×jf):JH a=gi a:=by
 obtain⟨rs,au,ab,v⟩:=a;unfold JH gi
 dsimp only
 rw[Gk,show ig au ab (aX ab)=iU au ab (aX ab)from funext fun c=>Bc _ _ _ c,agt];have e:(v.2.1.map (iU au ab (aX ab))).map (vq (jL (v.2.1.map (iU au ab (aX ab)))) (aX ab) v.2.1)=(v.2.1.map (iU au ab (aX ab))).map (sJ (jL (v.2.1.map (iU au ab (aX ab)))) (aX ab) v.2.1):=by
  apply aAA;intro s hs;obtain⟨c,_,rfl⟩:=az4.1 hs;refine aaD _ _ _ _ ?_;grind[iU]
 grind[PF]
open Go.Proofs
def tQ(d:List aj)(s:aL):aL:=bif !cB s&&(decide (nU s∈d)&&!decide (nU s=(0,0,0)))then Ys sz (Ju s) (0,0,0)else s
theorem aeX(s:aL):tQ [] s=s:=by simp[tQ]
theorem aeY(d:List aj){s:aL}(h:cB s=true):tQ d s=s:=by grind[tQ]
theorem WO(x:aj)(d:List aj)(s:aL):tQ d (nw x s)=tQ (x::d) s:=by
 unfold nw;cases h:sH x s with
 | true=>
  rw[azH,aeY d (show cB (Ys sz (Ju s) (0,0,0))=true from rfl)];unfold sH at h;simp only[azF,azM,aAi,aB6]at h;obtain⟨h1,h2,h3⟩:=h;grind[tQ]
 | false=>
  rw[azI];unfold tQ;cases h1:cB s with
  | true=>rfl
  | false=>
   by_cases h3:nU s=(0,0,0)
   ·grind
   ·have hx:¬ nU s=x:=fun e=>by
     unfold sH at h;grind
    grind
theorem Fs:∀(d:List aj) (l:List aL),oe l d=l.map (tQ d)
 | [],l=>by
  show l=_;rw[show tQ []=id from funext aeX,aAW]
 | x::d,l=>by
  show oe (l.map (nw x)) d=_;rw[Fs d,List.map_map];exact aAA fun s _=>WO x d s
theorem uW(rs:List eB)(v:jf)(all:List ay):∀(r:List ay) (k i:Nat),(BZ rs v all r k)[i]? = (r[i]?).map fun s=>(s.1,s.2.1,s.2.2.1,s.2.2.2.1,MR (rs,all,((k+i:Nat):Int),v),s.2.2.2.2.2)
 | [],k,i=>rfl
 | s::r,k,0=>rfl
 | s::r,k,i+1=>by
  simp only[BZ,aBp];rw[uW rs v all r (k+1) i,show k+1+i=k+(i+1)by omega]
def Dr(a:List eB×Int×List cC×jf):List ay:=a.2.2.2.2.1.map (iU a.2.1 a.2.2.1 (aX a.2.2.1))
theorem zi(a:List eB×Int×List cC×jf){i:Nat}{c:Int}(hc:a.2.2.2.2.1[i]? = some c):
  ∃s,(gi a)[i]? = some s∧(s.1,s.2.1,s.2.2.1,s.2.2.2.1,s.2.2.2.2.2)=(fun t:ay=>(t.1,t.2.1,t.2.2.1,t.2.2.2.1,t.2.2.2.2.2)) (sJ (jL (Dr a)) (aX a.2.2.1) a.2.2.2.2.1 (iU a.2.1 a.2.2.1 (aX a.2.2.1) c)):=by
 unfold gi
 dsimp only
 rw[uW,aAv,aAv,hc];exact⟨_,rfl,rfl⟩
theorem PA(a:List eB×Int×List cC×jf):(gi a).length=a.2.2.2.2.1.length:=by
 unfold gi
 dsimp only
 rw[KH,aA7,aA7]
theorem Fu(h:aj→Bool)(d:List aj)(m:List Int)(l0:List aL):∀(q:List bR) (l:List aL) (left:List bR) (an:List dv),SmT l l0→
  og h d m q l left an=((q.filter fun r=>(ij h l0 r d m).2).foldl (fun l r=>ny (l,(tZ r).2.1)) l,left++q.filter (fun r=>!(ij h l0 r d m).2),an++(q.filter fun r=>(ij h l0 r d m).2).map fun r=>((tZ r).2.1,(ij h l0 r d m).1))
 | [],l,left,an,hs=>by simp[og]
 | r::q,l,left,an,hs=>by
  simp only[og,hs.out];cases hb:(ij h l0 r d m).2 with
  | true=>rw[azH,Fu h d m l0 q _ _ _ (hs.rel _),aCp (by exact hb),aB7 (by grind)];simp
  | false=>rw[azI,Fu h d m l0 q _ _ _ hs,aB7 (by grind),aCp (by rw[hb];rfl)];simp
def UJ(op:Int)(l:List aL):Prop:=∀s∈l,Ju s ≠ op
theorem X7{op:Int}(h:op ≠ 0)(l:List aL):UJ op (ny (l,op)):=fun s hs=>by
 obtain⟨x,_,rfl⟩:=az4.1 (show s∈l.map (mg op)from hs);unfold mg;by_cases hx:Ju x=op
 ·rw[azC hx];exact fun e=>h e.symm
 grind
theorem Tx{op:Int}(h:op ≠ 0)(op':Int){l:List aL}(hl:UJ op l):UJ op (ny (l,op')):=fun s hs=>by
 obtain⟨x,hx,rfl⟩:=az4.1 (show s∈l.map (mg op')from hs);unfold mg;cases decide (Ju x=op')with
 | true=>exact fun e=>h e.symm
 | false=>exact hl x hx
theorem Ea{op:Int}(h:op ≠ 0):∀(q:List bR) (l:List aL),(UJ op l∨∃r∈q,(tZ r).2.1=op)→UJ op (q.foldl (fun l r=>ny (l,(tZ r).2.1)) l)
 | [],l,hl=>by
  grind
 | r::q,l,hl=>by
  rw[aAN];refine Ea h q _ ?_;grind[Tx,X7]
def knB(a:List eB×Int×List cC×jf)(c:Int)(r:bR):Bool:=(ij (jL (Dr a)) (iU a.2.1 a.2.2.1 (aX a.2.2.1) c).1 r (aX a.2.2.1) a.2.2.2.2.1).2
theorem aft(a:List eB×Int×List cC×jf){i:Nat}{c:Int}(hc:a.2.2.2.2.1[i]? = some c):
  ∃s,(gi a)[i]? = some s∧s.2.1=(dp (c,a.2.1,a.2.2.1)).2.1.filter (fun r=>!knB a c r)∧s.2.2.2.1.length=((dp (c,a.2.1,a.2.2.1)).2.1.filter (knB a c)).length∧
   ∀r∈(dp (c,a.2.1,a.2.2.1)).2.1,knB a c r=true→(tZ r).2.1 ≠ 0→UJ (tZ r).2.1 s.1:=by
 obtain⟨s,h1,h2⟩:=zi a hc;have hq:(iU a.2.1 a.2.2.1 (aX a.2.2.1) c).2.1=(dp (c,a.2.1,a.2.2.1)).2.1:=by rw[← Bc];rfl
 have e1:s.1=(sJ (jL (Dr a)) (aX a.2.2.1) a.2.2.2.2.1 (iU a.2.1 a.2.2.1 (aX a.2.2.1) c)).1:=azT (·.1) h2;have e2:s.2.1=(sJ (jL (Dr a)) (aX a.2.2.1) a.2.2.2.2.1 (iU a.2.1 a.2.2.1 (aX a.2.2.1) c)).2.1:=azT (·.2.1) h2;have e3:s.2.2.2.1=(sJ (jL (Dr a)) (aX a.2.2.1) a.2.2.2.2.1 (iU a.2.1 a.2.2.1 (aX a.2.2.1) c)).2.2.2.1:=azT (·.2.2.2.1) h2;unfold sJ at e1 e2 e3;rw[Fu _ _ _ (iU a.2.1 a.2.2.1 (aX a.2.2.1) c).1 _ _ _ _ rfl,hq]at e1 e2 e3;refine⟨s,h1,?_,?_,fun r hr hk h0=>?_⟩
 ·rw[e2];rfl
 ·rw[e3,bh];simp only[aAs,aA7];rfl
 ·rw[e1]
  exact Ea h0 _ _ (.inr ⟨r,aBN.2 ⟨hr,hk⟩,rfl⟩)
open Go.Proofs
def Tw(a:List eB×Int×List cC×jf):List ay:=(Dr a).map (sJ (jL (Dr a)) (aX a.2.2.1) a.2.2.2.2.1)
theorem MA(a:List eB×Int×List cC×jf):gi a=BZ a.1 a.2.2.2 (Tw a) (Tw a) 0:=rfl
open Go.Proofs
open Go.Proofs
theorem J3(c:Int)(e:ag):∀(l:List aL) (k:Nat),e∈wZ c l k↔∃(j:Nat) (s:aL),l[j]? = some s∧cB s=false∧e=(c,((k+j:Nat):Int),snd s)
 | [],k=>by simp[wZ]
 | s::l,k=>by
  have ih:=J3 c e l (k+1);have key:(∃(j:Nat) (t:aL),(s::l)[j]? = some t∧cB t=false∧e=(c,((k+j:Nat):Int),snd t))↔(cB s=false∧e=(c,((k:Nat):Int),snd s))∨∃(j:Nat) (t:aL),l[j]? = some t∧cB t=false∧e=(c,((k+1+j:Nat):Int),snd t):=by
   constructor
   ·grind
   ·rintro(⟨h1,h2⟩ | ⟨j,t,h1,h2,h3⟩)
    ·exact⟨0,s,rfl,h1,h2⟩
    ·exact⟨j+1,t,by simpa using h1,h2,by rw[h3];congr 3;omega⟩
  rw[key,← ih];simp only[wZ];cases hb:cB s with
  | true=>simp
  | false=>simp;rfl
theorem J2(c:Int)(e:ag)(l:List aL):e∈jQ (l,c)↔∃(j:Nat) (s:aL),l[j]? = some s∧cB s=false∧e=(c,((j:Nat):Int),snd s):=by
 unfold jQ;rw[(lb _).mem_iff,J3];grind
theorem afZ(rs:List eB)(all:List ay)(v:jf)(k:Nat)(e:ag):e∈MR (rs,all,((k:Nat):Int),v)↔iG rs v.2.2 (v.2.1.getD k 0) e=true∧∃(i:Nat) (t:ay) (c:Int),all[i]? = some t∧v.2.1[i]? = some c∧∃(j:Nat) (s:aL),t.1[j]? = some s∧cB s=false∧e=(c,((j:Nat):Int),snd s):=by
 have e1:MR (rs,all,((k:Nat):Int),v)=MK rs v.2.2 (v.2.1.getD k 0) (all.zip v.2.1):=by
  rw[MJ];rfl
 rw[e1];unfold MK;rw[(lb _).mem_iff,aCc];constructor
 ·rintro⟨⟨t,c⟩,hp,he⟩
  obtain⟨h1,h2⟩:=aBN.1 he;obtain⟨i,hi⟩:=aBW.1 hp;obtain⟨h3,h4⟩:=aCq.1 hi;grind[J2]
 ·rintro⟨h2,i,t,c,h3,h4,h5⟩
  have hz:(all.zip v.2.1)[i]? = some (t,c):=aCq.2 ⟨h3,h4⟩;exact⟨(t,c),azO hz,aBN.2 ⟨(J2 c e t.1).2 h5,h2⟩⟩
theorem Xr(a:List eB×Int×List cC×jf){k:Nat}{t:ay}(ht:(gi a)[k]? = some t)(e:ag):
  e∈t.2.2.2.2.1↔iG a.1 a.2.2.2.2.2 (a.2.2.2.2.1.getD k 0) e=true∧∃(i:Nat) (u:ay) (c:Int),(gi a)[i]? = some u∧a.2.2.2.2.1[i]? = some c∧∃(j:Nat) (s:aL),u.1[j]? = some s∧cB s=false∧e=(c,((j:Nat):Int),snd s):=by
 have h2:=ht;rw[MA,uW]at h2;obtain⟨t0,_,rfl⟩:=aBu.1 h2;show e∈MR (a.1,Tw a,((0+k:Nat):Int),a.2.2.2)↔_;rw[az8,afZ];have key:∀(i j:Nat) (s:aL),(∃u:ay,(Tw a)[i]? = some u∧u.1[j]? = some s)↔∃u:ay,(gi a)[i]? = some u∧u.1[j]? = some s:=fun i j s=>by
  have hf:(gi a).map (·.1)=(Tw a).map (·.1):=by rw[MA,KJ]
  have hfi:=azT (fun z=>z[i]?) hf;grind
 constructor
 ·rintro⟨h1,i,u,c,h3,h4,j,s,h5,h6,h7⟩
  obtain⟨u',g1,g2⟩:=(key i j s).1 ⟨u,h3,h5⟩;grind
 ·rintro⟨h1,i,u,c,h3,h4,j,s,h5,h6,h7⟩
  obtain⟨u',g1,g2⟩:=(key i j s).2 ⟨u,h3,h5⟩;grind
open Go.Proofs
