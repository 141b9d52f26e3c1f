/- AI. -/
import Derived.Test.YtfggefeflojnkaaGreatY4
set_option linter.unusedVariables false
open Go.IntKind (i64 u64)
namespace Go.AL
open Go.Proofs
noncomputable def aqB:cX:=zC [avW] (dE []) 36
def aiw:Nat→LD:=eO [(0,⟨[.rd 0 eG,.c 3 (.sl aE),.c 4 (zI)],[],0⟩),(2,⟨[.rd 0 eG,.c 3 (.sl aE),.c 4 (zI),.c 5 (zI)],[],0⟩)]
noncomputable def avj(f:Nat)(a:(List cC)):Option ((List aj)):=aG aqB aiw (zK [.tmp 2] [.v (.sl aE)]) f [.code (aB Tryz.f26)] (aQ [.rd eG] a)
noncomputable def aif(f:Nat)(x:(List cC)×(List aj)×Int):Option ((List aj)):=aG aqB aiw (zK [.tmp 2] [.v (.sl aE)]) f (aV Tryz.f26 0) ((aiw 0).mk' x)
noncomputable def alW(f:Nat)(x:(List cC)×(List aj)×Int×Int):Option ((List aj)):=aG aqB aiw (zK [.tmp 2] [.v (.sl aE)]) f (aV Tryz.f26 2) ((aiw 2).mk' x)
theorem ata(f:Nat)(ab:List cC):avj (f+1) ab =
  aif f (ab,[],0):=by kernel_rfl
theorem anw(f:Nat)(ab:List cC)(out:List aj)(i:Int):aif (f+1) (ab,out,i) =
  bif decide (i<(↑ab.length:Int))then alW f (ab,out,i,0)else some out:=by kernel_rfl
theorem ann(f:Nat)(ab:List cC)(out:List aj)(i:Int)(k:Int):alW (f+1) (ab,out,i,k) =
  bif decide (0≤i)&&decide (i<(↑ab.length:Int))then bif decide (k<(↑(List.length (ab.getD i.toNat zq5).2.2.2.2.2.2.1):Int))then bif decide (0≤i)&&decide (i<(↑ab.length:Int))then bif decide (0≤k)&&decide (k<(↑(List.length (ab.getD i.toNat zq5).2.2.2.2.2.2.1):Int))then bif decide (out.length≤1000000)then alW f (ab,qf out (List.getD (ab.getD i.toNat zq5).2.2.2.2.2.2.1 k.toNat (0,0,0,0)).2,i,i64.wrap (k+1))else none else none else none else aif f (ab,out,i64.wrap (i+1))else none:=by kernel_rfl
abbrev rR(r:cC):List tm:=r.2.2.2.2.2.2.1
def aX(l:List cC):List aj:=l.foldl (fun o r=>(rR r).foldl (fun o m=>qf o m.2) o) []
def xe(l:List cC):Bool:=decide (l.length≤100)&&l.all fun r=>decide ((rR r).length≤1000)
theorem KO:∀(m:List tm) (o:List aj),(m.foldl (fun o m=>qf o m.2) o).length≤o.length+m.length
 | [],o=>azJ _
 | x::m,o=>by
  have h1:=KO m (qf o x.2);have h2:=Lj x.2 o;grind
theorem ayd{l p q:List cC}{s:cC}{R:List aj}(hl:l=p++s::q)(hp:p.length≤1000):∀(m pm:List tm) (out:List aj),rR s=pm++m→pm.length+m.length≤1000→out.length+m.length≤1000000→
  (∃f,aif f (l,m.foldl (fun o m=>qf o m.2) out,((p.length+1:Nat):Int))=some R)→∃f,alW f (l,out,((p.length:Nat):Int),((pm.length:Nat):Int))=some R:=by
 subst hl;intro m;induction m with
 | nil=>
  rintro pm out hm h1 h2 ⟨f,hf⟩;refine⟨f+1,(ann f _ _ _ _).trans ?_⟩;have hm:s.2.2.2.2.2.2.1=pm++[]:=hm;rw[M9,ZH,fW,hm,alp];simp only[azQ,azH,azI];grind[az]
 | cons x m ih=>
  rintro pm out hm h1 h2 hR;simp only[azL]at h1 h2;have h3:=Lj x.2 out;have e:(pm++[x]).length=pm.length+1:=by simp
  obtain⟨f,hf⟩:=ih (pm++[x]) (qf out x.2) (by grind) (by grind) (by omega) hR;refine⟨f+1,(ann f _ _ _ _).trans ?_⟩;have hm:s.2.2.2.2.2.2.1=pm++x::m:=hm;rw[M9,ZH,fW,hm,M9,ZH,fW,azC (show out.length≤1000000 by omega)];simp only[azQ,azH];grind[az]
theorem auz:∀(r p:List cC) (out:List aj),p.length+r.length≤100→(∀x∈r,(rR x).length≤1000)→out.length≤1000*p.length→∃f,aif f (p++r,out,((p.length:Nat):Int))=some (r.foldl (fun o r=>(rR r).foldl (fun o m=>qf o m.2) o) out)
 | [],p,out,hl,hr,ho=>⟨1,(anw 0 _ _ _).trans (by grind)⟩
 | s::r,p,out,hl,hr,ho=>by
  simp only[azL]at hl;have h1:=hr s (az1 ..);have h2:=KO (rR s) out;have e:(p++[s]).length=p.length+1:=by simp
  obtain⟨f,hf⟩:=auz r (p++[s]) ((rR s).foldl (fun o m=>qf o m.2) out) (by grind) (fun x hx=>hr x (az6 _ hx)) (by grind);rw[e,aAB,aCf]at hf;obtain⟨g,hg⟩:=ayd (p:=p) (q:=r) (s:=s) rfl (by omega) (rR s) [] out rfl (by grind) (by omega) ⟨f,hf⟩;refine⟨g+1,(anw g _ _ _).trans ?_⟩;grind
theorem auy:∀a:List cC,xe a=true→∃f,avj f a=some (aX a):=fun a h=>by
 simp only[xe,azF,azM]at h;obtain⟨f,hf⟩:=auz a [] [] (by grind) (fun x hx=>by have:=azU.1 h.2 x hx;simpa using this) (azJ _);exact⟨f+1,(ata f _).trans hf⟩
noncomputable def ar1:dn:=⟨26,[.rd eG],[.v (.sl aE)],xe,aX⟩
theorem apD:zO ar1:=fl aqB aiw [.tmp 2] mixed (ah atY (aC)) Tryz.func26 auy
noncomputable def ar2:cX:=zC [avO,avM,avE] (dE []) 71
def anD:Nat→LD:=eO [(0,⟨[.rd 0 bl,.rd 2 aE,.box 7 7 30 3 Jp,.box 8 8 38 6 bl,.box 9 9 38 6 bl,.c 10 (.sl bg),.list 11 999 56 28 bV,.list 12 998 100 2 dH,.c 13 (zI)],[],0⟩)]
noncomputable def au0(f:Nat)(a:(List ay)×Int×(List aj)×jf):Option ay:=aG ar2 anD (zK [.cell 8 38] [.g bl]) f [.code (aB Tryz.f74)] (aQ [.rd bl,.c zI,.rd aE,.g Jp] a)
noncomputable def ahS(f:Nat)(x:(List ay)×(List aj)×jf×ay×ay×(List aL)×(List bR)×(List dv)×Int):Option ay:=aG ar2 anD (zK [.cell 8 38] [.g bl]) f (aV Tryz.f74 0) ((anD 0).mk' x)
theorem asP(f:Nat)(all:List ay)(aix:Int)(jb:List aj)(next:jf):au0 (f+1) (all,aix,jb,next) =
  bif decide (0≤aix)&&decide (aix<(↑all.length:Int))then ahS f (all,jb,next,([],[],[],[],[],[]),all.getD aix.toNat ([],[],[],[],[],[]),(all.getD aix.toNat ([],[],[],[],[],[])).1,[],[],0)else none:=by kernel_rfl
theorem amb(f:Nat)(all:List ay)(jb:List aj)(aav:jf)(x8:ay)(s:ay)(l:List aL)(left:List bR)(answers:List dv)(i:Int):ahS (f+1) (all,jb,aav,x8,s,l,left,answers,i) =
  bif decide (i<(↑(List.length s.2.1):Int))then bif decide (0≤i)&&decide (i<(↑(List.length s.2.1):Int))then bif apF (all,l,List.getD s.2.1 i.toNat zq3,jb,aav)then bif !(ij (jL all) l (List.getD s.2.1 i.toNat zq3) jb aav.2.1).2 then bif decide ((left.length+[List.getD s.2.1 i.toNat zq3].length)*240≤140737488355328)then ahS f (all,jb,aav,x8,s,l,left++[List.getD s.2.1 i.toNat zq3],answers,i64.wrap (i+1))else none else bif decide ((answers.length+[((List.getD s.2.1 i.toNat zq3).2.1,(ij (jL all) l (List.getD s.2.1 i.toNat zq3) jb aav.2.1).1)].length)*16≤140737488355328)then bif ct l then ahS f (all,jb,aav,x8,s,ny (l,(List.getD s.2.1 i.toNat zq3).2.1),left,answers++[((List.getD s.2.1 i.toNat zq3).2.1,(ij (jL all) l (List.getD s.2.1 i.toNat zq3) jb aav.2.1).1)],i64.wrap (i+1))else none else none else none else none else bif decide (answers.length≤1000000)then some (l,left,s.2.2.1,ca uB answers,s.2.2.2.2)else none:=by kernel_rfl
noncomputable def aeF:List bR→((List ay)×(List aj)×jf×ay×ay×(List aL)×(List bR)×(List dv)×Nat)→ay
 | [],(all,jb,aav,x8,s,l,left,answers,i)=>(l,left,s.2.2.1,ca uB answers,s.2.2.2.2)
 | uu::rest,(all,jb,aav,x8,s,l,left,answers,i)=>bif !(ij (jL all) l uu jb aav.2.1).2 then aeF rest (all,jb,aav,x8,s,l,left++[uu],answers,i+1)else aeF rest (all,jb,aav,x8,s,ny (l,uu.2.1),left,answers++[(uu.2.1,(ij (jL all) l uu jb aav.2.1).1)],i+1)
noncomputable def aez:List bR→((List ay)×(List aj)×jf×ay×ay×(List aL)×(List bR)×(List dv)×Nat)→Bool
 | [],(all,jb,aav,x8,s,l,left,answers,i)=>decide (answers.length≤1000000)
 | uu::rest,(all,jb,aav,x8,s,l,left,answers,i)=>apF (all,l,uu,jb,aav)&&bif !(ij (jL all) l uu jb aav.2.1).2 then decide ((left.length+[uu].length)*240≤140737488355328)&&aez rest (all,jb,aav,x8,s,l,left++[uu],answers,i+1)else decide ((answers.length+[(uu.2.1,(ij (jL all) l uu jb aav.2.1).1)].length)*16≤140737488355328)&&(ct l&&aez rest (all,jb,aav,x8,s,ny (l,uu.2.1),left,answers++[(uu.2.1,(ij (jL all) l uu jb aav.2.1).1)],i+1))
theorem an4:∀(rest:List bR) (all:List ay) (jb:List aj) (aav:jf) (x8:ay) (s:ay) (l:List aL) (left:List bR) (answers:List dv) (i:Nat) (hd:s.snd.fst.drop i=rest) (hl:s.snd.fst.length≤1099511627776),de (fun f=>ahS f (all,jb,aav,x8,s,l,left,answers,((i:Nat):Int))) (aez rest (all,jb,aav,x8,s,l,left,answers,i)) (aeF rest (all,jb,aav,x8,s,l,left,answers,i))
 | [],all,jb,aav,x8,s,l,left,answers,i,hd,hl=>ai (fun f=>(amb f _ _ _ _ _ _ _ _ _).trans (by simp only[fA (bT hd),fW,azP,azI]<;>rfl)) (cS ae)
 | uu::rest,all,jb,aav,x8,s,l,left,answers,i,hd,hl=>ai (fun f=>(amb f _ _ _ _ _ _ _ _ _).trans (by simp only[cK (ak hd),bC hd,bk (ak hd) hl,fW,azQ,azH]<;>rfl)) (aI (ao (aI (an4 rest _ _ _ _ _ _ _ _ _ (aH hd) hl)) (aI (aI (an4 rest _ _ _ _ _ _ _ _ _ (aH hd) hl)))))
noncomputable def aql:((List ay)×Int×(List aj)×jf)→ay
 | (all,aix,jb,next)=>aeF (all.getD aix.toNat ([],[],[],[],[],[])).2.1 (all,jb,next,([],[],[],[],[],[]),all.getD aix.toNat ([],[],[],[],[],[]),(all.getD aix.toNat ([],[],[],[],[],[])).1,[],[],0)
noncomputable def apT:((List ay)×Int×(List aj)×jf)→Bool
 | (all,aix,jb,next)=>decide (0≤aix)&&decide (aix<(↑all.length:Int))&&(decide (List.length (all.getD aix.toNat ([],[],[],[],[],[])).2.1≤1099511627776)&&aez (all.getD aix.toNat ([],[],[],[],[],[])).2.1 (all,jb,next,([],[],[],[],[],[]),all.getD aix.toNat ([],[],[],[],[],[]),(all.getD aix.toNat ([],[],[],[],[],[])).1,[],[],0))
theorem asi:∀a:(List ay)×Int×(List aj)×jf,de (fun f=>au0 f a) (apT a) (aql a)
 | (all,aix,jb,next)=>ai (fun f=>asP f _ _ _ _) (aI (bL fun hh=>an4 _ _ _ _ _ _ _ _ _ _ rfl (azZ hh)))
def og(h:aj→Bool)(d:List aj)(m:List Int):List bR→List aL→List bR→List dv→List aL×List bR×List dv
 | [],l,left,an=>(l,left,an)
 | r::q,l,left,an=>bif(ij h l r d m).2 then og h d m q (ny (l,(tZ r).2.1)) left (an++[((tZ r).2.1,(ij h l r d m).1)])else og h d m q l (left++[r]) an
def sJ(h:aj→Bool)(d:List aj)(m:List Int)(s:ay):ay:=((og h d m s.2.1 s.1 [] []).1,(og h d m s.2.1 s.1 [] []).2.1,s.2.2.1,ca uB (og h d m s.2.1 s.1 [] []).2.2,s.2.2.2.2)
theorem PD{l:List aL}(op:Int)(h:ct l=true):ct (ny (l,op))=true:=by
 refine uo (by grind[ny,fD]) fun s hs=>?_
 obtain⟨x,hx,rfl⟩:=az4.1 (show s∈l.map (mg op)from hs);show af (mg op x).2.2.2.1=true;unfold mg;have h2:af x.2.2.2.1=true:=gk h hx;cases decide (Ju x=op)
 ·exact h2
 ·exact h2
theorem arD(all:List ay)(d:List aj)(v:jf)(x8 s:ay)(hA:af all=true)(hS:(all.all fun s=>af s.1)=true)(hd:af d=true)(hv:af v.2.1=true):∀(q:List bR) (l:List aL) (left:List bR) (an:List dv) (k:Nat),ct l=true→left.length+q.length≤1000000→an.length+q.length≤1000000→
  aeF q (all,d,v,x8,s,l,left,an,k)=((og (jL all) d v.2.1 q l left an).1,(og (jL all) d v.2.1 q l left an).2.1,s.2.2.1,ca uB (og (jL all) d v.2.1 q l left an).2.2,s.2.2.2.2)∧aez q (all,d,v,x8,s,l,left,an,k)=true
 | [],l,left,an,k,h,h1,h2=>⟨rfl,azC (by grind)⟩
 | r::q,l,left,an,k,h,h1,h2=>by
  simp only[azL]at h1 h2;have hP:apF (all,l,r,d,v)=true:=by simp only[apF,hA,hS,hd,hv,azQ]
  obtain⟨i1,i2⟩:=arD all d v x8 s hA hS hd hv q l (left++[r]) an (k+1) h (by simp;omega) (by omega);obtain⟨j1,j2⟩:=arD all d v x8 s hA hS hd hv q (ny (l,(tZ r).2.1)) left (an++[((tZ r).2.1,(ij (jL all) l r d v.2.1).1)]) (k+1) (PD _ h) (by omega) (by simp;omega);have j1':aeF q (all,d,v,x8,s,ny (l,r.2.1),left,an++[(r.2.1,(ij (jL all) l r d v.2.1).1)],k+1)=_:=j1;have j2':aez q (all,d,v,x8,s,ny (l,r.2.1),left,an++[(r.2.1,(ij (jL all) l r d v.2.1).1)],k+1)=_:=j2;simp only[aeF,aez,i1,i2,j1',j2',hP,h,azP,aAt,og];grind
def aqC(a:List ay×Int×List aj×jf):Bool:=af a.1&&((a.1.all fun s=>af s.1)&&(af a.2.2.1&&(af a.2.2.2.2.1&&(decide (0≤a.2.1)&&(decide (a.2.1<(a.1.length:Nat))&&(ct (a.1.getD a.2.1.toNat ([],[],[],[],[],[])).1&&decide ((a.1.getD a.2.1.toNat ([],[],[],[],[],[])).2.1.length≤1000000)))))))
theorem apn:∀a,aqC a=true→apT a=true∧aql a=sJ (jL a.1) a.2.2.1 a.2.2.2.2.1 (a.1.getD a.2.1.toNat ([],[],[],[],[],[])):=by
 rintro⟨all,x,d,v⟩ h;simp only[aqC,azF]at h;obtain⟨h1,h2,h3,h4,h5,h6,h7,h8⟩:=h;have h8:=azZ h8;obtain⟨i1,i2⟩:=arD all d v ([],[],[],[],[],[]) (all.getD x.toNat ([],[],[],[],[],[])) h1 h2 h3 h4 (all.getD x.toNat ([],[],[],[],[],[])).2.1 (all.getD x.toNat ([],[],[],[],[],[])).1 [] [] 0 h7 (by grind) (by grind);simp only[apT,aql,i1,i2,h5,h6,azQ,aAt,azP];exact⟨azC (by omega),rfl⟩
theorem axH:∀a,aqC a=true→apT a=true:=fun a h=>(apn a h).1
theorem axI:∀a,aqC a=true→aql a=sJ (jL a.1) a.2.2.1 a.2.2.2.2.1 (a.1.getD a.2.1.toNat ([],[],[],[],[],[])):=fun a h=>(apn a h).2
noncomputable def avz:dn:=⟨74,[.rd bl,.c zI,.rd aE,.g Jp],[.g bl],aqC,fun a:(List ay)×Int×(List aj)×jf=>sJ (jL a.1) a.2.2.1 a.2.2.2.2.1 (a.1.getD a.2.1.toNat ([],[],[],[],[],[]))⟩
theorem ati:zO avz:=fl ar2 anD [.cell 8 38] mixed (ah atP (ah atG (ah atn (aC)))) Tryz.func74 (bp asi axH axI)
noncomputable def an2:cX:=zC [avK,OI,axB,Hq] (dE [(5,([(0,[]),(1,[]),(2,[]),(3,[]),(4,[]),(5,[]),(6,[]),(7,[]),(8,[]),(9,[]),(10,[]),(11,[])],[(11,11),(21,31)])),(10,([(0,[]),(1,[]),(2,[]),(3,[]),(4,[]),(5,[]),(6,[]),(7,[]),(8,[]),(9,[]),(10,[]),(11,[]),(12,[]),(13,[]),(14,[]),(15,[]),(16,[]),(17,[]),(18,[]),(19,[]),(20,[]),(21,[])],[(47,68)])),(12,([(0,[]),(1,[]),(2,[]),(3,[]),(4,[]),(5,[]),(6,[]),(7,[]),(8,[]),(9,[]),(10,[]),(11,[]),(12,[]),(13,[]),(14,[]),(15,[]),(16,[]),(17,[])],[(71,88)])),(14,([(0,[]),(1,[]),(2,[]),(4,[]),(5,[]),(6,[3]),(7,[3]),(8,[3]),(10,[]),(11,[]),(12,[]),(3,[]),(9,[]),(13,[]),(14,[])],[(9,9),(91,104)]))]) 106
def af5:Nat→LD:=eO [(0,⟨[.rd 0 tP,.rd 1 bl,.c 2 (zI),.box 7 7 30 3 Jp,.c 9 (.sl aF),.c 10 (zI)],[],0⟩),(2,⟨[.rd 0 tP,.rd 1 bl,.c 2 (zI),.box 7 7 30 3 Jp,.c 9 (.sl aF),.c 10 (zI),.c 11 (.sl aF),.c 12 (zI)],[],0⟩),(4,⟨[.rd 0 tP,.rd 1 bl,.c 2 (zI),.box 7 7 30 3 Jp,.c 9 (.sl aF),.c 10 (zI),.c 11 (.sl aF),.c 12 (zI),.c 14 (zI)],[],0⟩)]
noncomputable def avk(f:Nat)(a:(List eB)×(List ay)×Int×jf):Option ((List ag)):=aG an2 af5 (zK [.tmp 8] [.v (.sl aF)]) f [.code (aB Tryz.f75)] (aQ [.rd tP,.rd bl,.c zI,.g Jp] a)
noncomputable def aij(f:Nat)(x:(List eB)×(List ay)×Int×jf×(List ag)×Int):Option ((List ag)):=aG an2 af5 (zK [.tmp 8] [.v (.sl aF)]) f (aV Tryz.f75 0) ((af5 0).mk' x)
noncomputable def acC(f:Nat)(x:(List eB)×(List ay)×Int×jf×(List ag)×Int×(List ag)×Int):Option ((List ag)):=aG an2 af5 (zK [.tmp 8] [.v (.sl aF)]) f (aV Tryz.f75 2) ((af5 2).mk' x)
noncomputable def aii(f:Nat)(x:(List eB)×(List ay)×Int×jf×(List ag)×Int×(List ag)×Int×Int):Option ((List ag)):=aG an2 af5 (zK [.tmp 8] [.v (.sl aF)]) f (aV Tryz.f75 4) ((af5 4).mk' x)
theorem atb(f:Nat)(regions:List eB)(all:List ay)(aix:Int)(next:jf):avk (f+1) (regions,all,aix,next) =
  aij f (regions,all,aix,next,[],0):=by kernel_rfl
theorem anz(f:Nat)(regions:List eB)(all:List ay)(at0:Int)(aav:jf)(out:List ag)(i:Int):aij (f+1) (regions,all,at0,aav,out,i) =
  bif decide (i<(↑all.length:Int))then bif decide (0≤i)&&decide (i<(↑all.length:Int))then bif decide (0≤i)&&decide (i<(↑(List.length aav.2.1):Int))then bif auI ((all.getD i.toNat ([],[],[],[],[],[])).1,List.getD aav.2.1 i.toNat 0)then acC f (regions,all,at0,aav,out,i,jQ ((all.getD i.toNat ([],[],[],[],[],[])).1,List.getD aav.2.1 i.toNat 0),0)else none else none else none else some out:=by kernel_rfl
theorem anx(f:Nat)(regions:List eB)(all:List ay)(at0:Int)(aav:jf)(out:List ag)(i:Int)(l:List ag)(k:Int):acC (f+1) (regions,all,at0,aav,out,i,l,k) =
  bif decide (k<(↑l.length:Int))then bif decide (0≤k)&&decide (k<(↑l.length:Int))then bif af regions then bif decide (rgI regions ((l.getD k.toNat zq1).2.2.2.2.2.2.2.1,(l.getD k.toNat zq1).2.2.2.2.2.2.2.2.1)<0)then acC f (regions,all,at0,aav,out,i,l,i64.wrap (k+1))else bif decide (rgI regions ((l.getD k.toNat zq1).2.2.2.2.2.2.2.1,(l.getD k.toNat zq1).2.2.2.2.2.2.2.2.1)≥(↑(List.length aav.2.2):Int))then acC f (regions,all,at0,aav,out,i,l,i64.wrap (k+1))else bif decide (0≤rgI regions ((l.getD k.toNat zq1).2.2.2.2.2.2.2.1,(l.getD k.toNat zq1).2.2.2.2.2.2.2.2.1))&&decide (rgI regions ((l.getD k.toNat zq1).2.2.2.2.2.2.2.1,(l.getD k.toNat zq1).2.2.2.2.2.2.2.2.1)<(↑(List.length aav.2.2):Int))then bif decide (0≤at0)&&decide (at0<(↑(List.length aav.2.1):Int))then bif List.getD aav.2.2 (rgI regions ((l.getD k.toNat zq1).2.2.2.2.2.2.2.1,(l.getD k.toNat zq1).2.2.2.2.2.2.2.2.1)).toNat 0 != List.getD aav.2.1 at0.toNat 0 then acC f (regions,all,at0,aav,out,i,l,i64.wrap (k+1))else aii f (regions,all,at0,aav,out,i,l,k,(↑out.length:Int))else none else none else none else none else aij f (regions,all,at0,aav,out,i64.wrap (i+1)):=by kernel_rfl
theorem aih(f:Nat)(regions:List eB)(all:List ay)(at0:Int)(aav:jf)(out:List ag)(i:Int)(l:List ag)(k:Int)(j:Int):aii (f+1) (regions,all,at0,aav,out,i,l,k,j) =
  bif decide (j>0)then bif decide (0≤k)&&decide (k<(↑l.length:Int))then bif decide (0≤i64.wrap (j-1))&&decide (i64.wrap (j-1)<(↑out.length:Int))then bif cw (((l.getD k.toNat zq1).2.2.1,(l.getD k.toNat zq1).2.2.2.1,(l.getD k.toNat zq1).2.2.2.2.1),(out.getD (i64.wrap (j-1)).toNat zq1).2.2.1,(out.getD (i64.wrap (j-1)).toNat zq1).2.2.2.1,(out.getD (i64.wrap (j-1)).toNat zq1).2.2.2.2.1)then aii f (regions,all,at0,aav,out,i,l,k,i64.wrap (j-1))else bif decide (0≤j)&&decide (j≤(↑out.length:Int))then bif decide (0≤k)&&decide (k<(↑l.length:Int))then bif decide (0≤j)&&decide (j≤(↑out.length:Int))then bif decide ((List.take j.toNat out).length*120≤140737488355328)then bif decide (((List.take j.toNat out).length+[l.getD k.toNat zq1].length)*120≤140737488355328)then bif decide (((List.take j.toNat out++[l.getD k.toNat zq1]).length+(List.drop j.toNat out).length)*120≤140737488355328)then acC f (regions,all,at0,aav,List.take j.toNat out++[l.getD k.toNat zq1]++List.drop j.toNat out,i,l,i64.wrap (k+1))else none else none else none else none else none else none else none else none else bif decide (0≤j)&&decide (j≤(↑out.length:Int))then bif decide (0≤k)&&decide (k<(↑l.length:Int))then bif decide (0≤j)&&decide (j≤(↑out.length:Int))then bif decide ((List.take j.toNat out).length*120≤140737488355328)then bif decide (((List.take j.toNat out).length+[l.getD k.toNat zq1].length)*120≤140737488355328)then bif decide (((List.take j.toNat out++[l.getD k.toNat zq1]).length+(List.drop j.toNat out).length)*120≤140737488355328)then acC f (regions,all,at0,aav,List.take j.toNat out++[l.getD k.toNat zq1]++List.drop j.toNat out,i,l,i64.wrap (k+1))else none else none else none else none else none else none:=by kernel_rfl
def iK(e:ag):Rg:=(e.2.2.2.2.2.2.2.1,e.2.2.2.2.2.2.2.2.1)
def iG(rs:List eB)(ow:List Int)(c:Int)(e:ag):Bool:=decide (0≤rgI rs (iK e))&&(decide (rgI rs (iK e)<(ow.length:Nat))&&decide (ow.getD (rgI rs (iK e)).toNat 0=c))
theorem ayg{rs:List eB}{all:List ay}{aix i:Int}{v:jf}{l p q:List ag}{s:ag}{R:List ag}(hl:l=p++s::q)(hp:p.length≤10000000):∀(n:Nat) (a b:List ag),a.length=n→dD cj (a++b)→(∀z∈b,cj s z=true)→a.length+b.length≤100000000→
  (∃f,acC f (rs,all,aix,v,cA cj s (a++b),i,l,((p.length+1:Nat):Int))=some R)→∃f,aii f (rs,all,aix,v,a++b,i,l,((p.length:Nat):Int),((a.length:Nat):Int))=some R:=by
 subst hl;intro n;have w1:i64.wrap (((p.length:Nat):Int)+1)=((p.length+1:Nat):Int):=by grind[az]
 have nn:∀(n:Nat),n≤200000000→decide (n*120≤140737488355328)=true:=fun n h=>azC (by omega)
 induction n with
 | zero=>
  intro a b hn hsr hb hlen ⟨f,hf⟩;obtain rfl:=aAf hn;refine⟨f+1,(aih f _ _ _ _ _ _ _ _ _).trans ?_⟩;have e1:cA cj s ([]++b)=[]++[s]++b:=by
   cases b with
   | nil=>rfl
   | cons z b=>simp only[aAs,cA,hb z (az1 ..),azH];rfl
  rw[e1]at hf;simp only[az2,az8]at hlen;rw[show((([]:List ag).length:Nat):Int)=0 from rfl,show decide ((0:Int)>0)=false from rfl,azI,M9,ZH,fW,w1];grind
 | succ n ih=>
  intro a b hn hsr hb hlen hR;obtain⟨a,z,rfl⟩:∃a' z,a=a'++[z]:=⟨a.dropLast,a.getLast (by grind),(aBV _).symm⟩;have han:a.length=n:=by grind
  simp only[azG,azL,az2]at hlen;have wk:i64.wrap ((((a++[z]).length:Nat):Int)-1)=((a.length:Nat):Int):=by
   rw[az (by simp) (by grind)];grind
  have gz:(a++[z]++b).getD ((a.length:Nat):Int).toNat zq1=z:=by simp_all
  have hk:decide ((((a++[z]).length:Nat):Int)>0)=true:=azC (by grind);have Dv:decide (((a.length:Nat):Int)<(((a++[z]++b).length:Nat):Int))=true:=azC (by grind);have hle:=aqI s z;cases hc:cj s z
  ·obtain⟨f,hf⟩:=hR
   refine⟨f+1,(aih f _ _ _ _ _ _ _ _ _).trans ?_⟩;have Kj:∀y∈a++[z],cj s y=false:=fun y hy=>by
    have hsa:=(aAI.1 hsr).1;rcases aAp.1 hy with hy | hy
    ·exact gE.ntrans y z _ ((aAI.1 hsa).2.2 y hy z (aAD.2 rfl)) hc
    grind
   have e1:cA cj s (a++[z]++b)=a++[z]++[s]++b:=by
    cases b with
    | nil=>rw[aAc,gL gE Kj,aAc]
    | cons y b=>
     have hsb:dD cj (a++[z]++[y]):=hsr.sublist (aCo (by simp) _);rw[mu gE (s:=a++[z]) hsb (hb y (az1 ..)),gL gE Kj]
   rw[e1]at hf;rw[hc]at hle;rw[hk,azH,M9,ZH,fW,fW,wk,Dv,gz,hle,w1,fW];have d1:decide ((((a++[z]).length:Nat):Int)≤(((a++[z]++b).length:Nat):Int))=true:=azC (by grind);have t1:List.take ((((a++[z]).length:Nat):Int)).toNat (a++[z]++b)=a++[z]:=by grind
   have t2:List.drop ((((a++[z]).length:Nat):Int)).toNat (a++[z]++b)=b:=by grind
   simp only[t1,t2,d1,azQ,azH,azI];rw[nn _ (by grind),nn _ (by grind),nn _ (by grind)];exact hf
  ·obtain⟨f,hf⟩:=ih a (z::b) han (by simpa using hsr) (fun y hy=>by
    grind) (by grind) (by grind)
   refine⟨f+1,(aih f _ _ _ _ _ _ _ _ _).trans ?_⟩;rw[hc]at hle;rw[hk,azH,M9,ZH,fW,fW,wk,Dv,gz,hle];grind
theorem arG{rs:List eB}{all:List ay}{aix i:Int}{v:jf}(hr:af rs=true)(ha0:0≤aix)(ha1:aix<(v.2.1.length:Nat))(hi:0≤i∧i≤1000){R:List ag}:∀(r p:List ag) (out:List ag),p.length+r.length≤10000000→dD cj out→out.length+r.length≤100000000→
  (∃f,aij f (rs,all,aix,v,(r.filter (iG rs v.2.2 (v.2.1.getD aix.toNat 0))).foldl (fun s x=>cA cj x s) out,i+1)=some R)→∃f,acC f (rs,all,aix,v,out,i,p++r,((p.length:Nat):Int))=some R
 | [],p,out,hl,hs,ho,⟨f,hf⟩=>⟨f+1,(anx f _ _ _ _ _ _ _ _).trans (by rw[alp,azI,az (by omega) (by omega)];exact hf)⟩
 | s::r,p,out,hl,hs,ho,hR=>by
  simp only[azL]at hl ho;have el:(p++[s]).length=p.length+1:=by simp
  have w1:i64.wrap (((p.length:Nat):Int)+1)=((p.length+1:Nat):Int):=by grind[az]
  have skip:iG rs v.2.2 (v.2.1.getD aix.toNat 0) s=false→∃f,acC f (rs,all,aix,v,out,i,p++s::r,((p.length+1:Nat):Int))=some R:=fun hb=>by
   rw[List.filter_cons,hb]at hR;obtain⟨f,hf⟩:=arG hr ha0 ha1 hi r (p++[s]) out (by grind) hs (by omega) hR;grind
  have ew:∀f,acC (f+1) (rs,all,aix,v,out,i,p++s::r,((p.length:Nat):Int)) =
    bif decide (rgI rs (iK s)<0)then acC f (rs,all,aix,v,out,i,p++s::r,((p.length+1:Nat):Int))else bif decide (rgI rs (iK s)≥(v.2.2.length:Nat))then acC f (rs,all,aix,v,out,i,p++s::r,((p.length+1:Nat):Int))else bif decide (0≤rgI rs (iK s))&&decide (rgI rs (iK s)<(v.2.2.length:Nat))then bif v.2.2.getD (rgI rs (iK s)).toNat 0 != v.2.1.getD aix.toNat 0 then acC f (rs,all,aix,v,out,i,p++s::r,((p.length+1:Nat):Int))else aii f (rs,all,aix,v,out,i,p++s::r,((p.length:Nat):Int),((out.length:Nat):Int))else none:=fun f=>by
   refine(anx f _ _ _ _ _ _ _ _).trans ?_;rw[M9,ZH,fW,hr,w1,azC ha0,azC ha1];rfl
  by_cases h0:rgI rs (iK s)<0
  ·obtain⟨f,hf⟩:=skip (by simp only[iG];rw[azK (by omega)];rfl)
   grind
  ·by_cases h1:rgI rs (iK s)≥(v.2.2.length:Nat)
   ·obtain⟨f,hf⟩:=skip (by simp only[iG];rw[azK (show ¬ rgI rs (iK s)<(v.2.2.length:Nat)by omega)];simp)
    grind
   ·have g0:decide (0≤rgI rs (iK s))=true:=azC (by omega)
    have g1:decide (rgI rs (iK s)<(v.2.2.length:Nat))=true:=azC (by omega);by_cases h2:v.2.2.getD (rgI rs (iK s)).toNat 0=v.2.1.getD aix.toNat 0
    ·have hb:iG rs v.2.2 (v.2.1.getD aix.toNat 0) s=true:=by grind[iG]
     rw[List.filter_cons,hb,azE rfl,aAN]at hR;have hi2:=oJ (lt:=cj) s out;obtain⟨f,hf⟩:=arG hr ha0 ha1 hi r (p++[s]) (cA cj s out) (by grind) (kP gE hs) (by grind) hR;rw[el,aAB,aCf]at hf;obtain⟨g,hg⟩:=ayg (R:=R) (p:=p) (q:=r) (s:=s) rfl (by omega) out.length out [] rfl (by grind) (by simp) (by simp;omega) ⟨f,by simpa using hf⟩;grind
    ·obtain⟨f,hf⟩:=skip (by simp only[iG];rw[azK h2];simp)
     grind
def XS(rs:List eB)(ow:List Int)(c:Int):List (ay×Int)→List ag→List ag
 | [],out=>out
 | (s,m)::r,out=>XS rs ow c r (((jQ (s.1,m)).filter (iG rs ow c)).foldl (fun s x=>cA cj x s) out)
theorem asj(l:List ag):∀out:List ag,dD cj out→dD cj (l.foldl (fun s x=>cA cj x s) out):=fun out h=>BS gE l out h
theorem Ei:∀(l out:List ag),(l.foldl (fun s x=>cA cj x s) out).length=out.length+l.length
 | [],out=>rfl
 | x::l,out=>by rw[aAN,Ei l,oJ,azL];omega
theorem BY(l:List aL)(c:Int):(jQ (l,c)).length≤l.length:=by
 have h1:=KG c l 0;have h2:=Ei (wZ c l 0) [];show(ca cj (wZ c l 0)).length≤_;grind[ca]
theorem auC{rs:List eB}{aix:Int}{v:jf}(hr:af rs=true)(ha0:0≤aix)(ha1:aix<(v.2.1.length:Nat)):∀(r p:List ay) (mr mp:List Int) (out:List ag),v.2.1=mp++mr→mp.length=p.length→mr.length=r.length→p.length+r.length≤100→(∀s∈r,ct s.1=true∧s.1.length≤1000000)→out.length≤1000000*p.length→dD cj out→
  ∃f,aij f (rs,p++r,aix,v,out,((p.length:Nat):Int))=some (XS rs v.2.2 (v.2.1.getD aix.toNat 0) (r.zip mr) out)
 | [],p,mr,mp,out,hv,h1,h2,hl,hs,ho,dS=>⟨1,(anz 0 _ _ _ _ _ _).trans (by rw[alp];rfl)⟩
 | s::r,p,[],mp,out,hv,h1,h2,hl,hs,ho,dS=>by simp at h2
 | s::r,p,m::mr,mp,out,hv,h1,h2,hl,hs,ho,dS=>by
  simp only[azL]at h2 hl;obtain⟨k1,k2⟩:=hs s (az1 ..);have hen:=BY s.1 m;have hfl:((jQ (s.1,m)).filter (iG rs v.2.2 (v.2.1.getD aix.toNat 0))).length≤s.1.length:=az0 (aCk _ _) hen;have e:(p++[s]).length=p.length+1:=by simp
  obtain⟨f,hf⟩:=auC hr ha0 ha1 r (p++[s]) mr (mp++[m]) (((jQ (s.1,m)).filter (iG rs v.2.2 (v.2.1.getD aix.toNat 0))).foldl (fun s x=>cA cj x s) out) (by grind) (by simp[h1]) (by omega) (by grind) (fun x hx=>hs x (az6 _ hx)) (by grind[Ei]) (asj _ _ dS);rw[e,aAB,aCf]at hf;obtain⟨g,hg⟩:=arG (all:=p++s::r) (i:=((p.length:Nat):Int)) (R:=XS rs v.2.2 (v.2.1.getD aix.toNat 0) (r.zip mr) (((jQ (s.1,m)).filter (iG rs v.2.2 (v.2.1.getD aix.toNat 0))).foldl (fun s x=>cA cj x s) out)) hr ha0 ha1 ⟨by omega,by omega⟩ (jQ (s.1,m)) [] out (by simp;omega) dS (by omega) ⟨f,hf⟩;refine⟨g+1,(anz g _ _ _ _ _ _).trans ?_⟩;have gm:v.2.1.getD (Int.toNat ((p.length:Nat):Int)) 0=m:=by grind
  have lm:decide (((p.length:Nat):Int)<((v.2.1.length:Nat):Int))=true:=by grind
  have he:auI (s.1,m)=true:=by simp only[auI,k1,azP];grind
  rw[M9,ZH,fW,gm,lm,he];exact hg
def arI(a:List eB×List ay×Int×jf):Bool:=af a.1&&(decide (0≤a.2.2.1)&&(decide (a.2.2.1<(a.2.2.2.2.1.length:Nat))&&(decide (a.2.2.2.2.1.length=a.2.1.length)&&(decide (a.2.1.length≤100)&&a.2.1.all fun s=>ct s.1&&decide (s.1.length≤1000000)))))
def MR(a:List eB×List ay×Int×jf):List ag:=XS a.1 a.2.2.2.2.2 (a.2.2.2.2.1.getD a.2.2.1.toNat 0) (a.2.1.zip a.2.2.2.2.1) []
theorem auB:∀a,arI a=true→∃f,avk f a=some (MR a):=by
 rintro⟨rs,all,x,v⟩ h;simp only[arI,azF,azM]at h;obtain⟨h1,h2,h3,h4,h5,h6⟩:=h;obtain⟨f,hf⟩:=auC (rs:=rs) (aix:=x) (v:=v) h1 h2 h3 all [] v.2.1 [] [] rfl rfl h4 (by grind) (fun s hs=>by have:=azU.1 h6 s hs;simp only[azF,azM]at this;exact this) (azJ _) .nil;exact⟨f+1,(atb f _ _ _ _).trans hf⟩
noncomputable def avS:dn:=⟨75,[.rd tP,.rd bl,.c zI,.g Jp],[.v (.sl aF)],arI,MR⟩
theorem atV:zO avS:=fl an2 af5 [.tmp 8] mixed (ah atD (ah EZ (ah avQ (ah E5 (aC))))) Tryz.func75 auB
