/- AI. -/
import Derived.Test.YtfggefeflojnkaaGreatY5
set_option linter.unusedVariables false
namespace Go.AL
open Go.Proofs
noncomputable def an1:cX:=⟨Tryz.prog,[ar1,OR,axA,avy,adk,avz,avS],dE [],92,[],[(26,aE),(39,bg),(48,bg),(56,bV)],[],[]⟩
def afP:Nat→LD:=eO [(0,⟨[.rd 0 tP,.c 1 (zI),.rd 2 eG,.box 7 7 30 3 Jp,.c 9 (.sl aE),.list 10 999 38 6 bl,.c 11 (zI)],[],0⟩),(2,⟨[.rd 0 tP,.box 7 7 30 3 Jp,.c 9 (.sl aE),.list 10 999 38 6 bl,.c 14 (zI)],[],0⟩),(4,⟨[.rd 0 tP,.box 7 7 30 3 Jp,.list 10 999 38 6 bl,.c 15 (zI)],[],0⟩)]
noncomputable def avg(f:Nat)(a:(List eB)×Int×(List cC)×jf):Option ((List ay)):=aG an1 afP (zK [.tmp 8] [.o 38 6 bl]) f [.code (aB Tryz.f36)] (aQ [.rd tP,.c zI,.rd eG,.g Jp] a)
noncomputable def aid(f:Nat)(x:(List eB)×Int×(List cC)×jf×(List aj)×(List ay)×Int):Option ((List ay)):=aG an1 afP (zK [.tmp 8] [.o 38 6 bl]) f (aV Tryz.f36 0) ((afP 0).mk' x)
noncomputable def alV(f:Nat)(x:(List eB)×jf×(List aj)×(List ay)×Int):Option ((List ay)):=aG an1 afP (zK [.tmp 8] [.o 38 6 bl]) f (aV Tryz.f36 2) ((afP 2).mk' x)
noncomputable def alR(f:Nat)(x:(List eB)×jf×(List ay)×Int):Option ((List ay)):=aG an1 afP (zK [.tmp 8] [.o 38 6 bl]) f (aV Tryz.f36 4) ((afP 4).mk' x)
theorem as8(f:Nat)(regions:List eB)(au:Int)(ab:List cC)(next:jf):avg (f+1) (regions,au,ab,next) =
  bif xe ab then aid f (regions,au,ab,next,aX ab,[],0)else none:=by kernel_rfl
theorem am7(f:Nat)(regions:List eB)(au:Int)(ab:List cC)(aav:jf)(jb:List aj)(out:List ay)(i:Int):aid (f+1) (regions,au,ab,aav,jb,out,i) =
  bif decide (i<(↑(List.length aav.2.1):Int))then bif af jb then bif decide (0≤i)&&decide (i<(↑(List.length aav.2.1):Int))then bif af ab then bif decide (bu (fun q=>decide (q.1=List.getD aav.2.1 i.toNat 0)) ab 0<0)then bif decide (0≤if 0>au then 0 else au)&&(decide ((if 0>au then 0 else au)≤if 0>au then 0 else au)&&(decide (((↑136:Int)*if 0>au then 0 else au)≤140737488355328)&&decide ((if 0>au then 0 else au)≤9223372036854775807)))then bif decide ((out.length+1)*144≤140737488355328)then aid f (regions,au,ab,aav,jb,out++[(List.replicate (if 0>au then 0 else au).toNat zq2,[],[],[],[],jb)],IntKind.i64.wrap (i+1))else none else none else bif decide (0≤bu (fun q=>decide (q.1=List.getD aav.2.1 i.toNat 0)) ab 0)&&decide (bu (fun q=>decide (q.1=List.getD aav.2.1 i.toNat 0)) ab 0<(↑ab.length:Int))then bif ct (ab.getD (bu (fun q=>decide (q.1=List.getD aav.2.1 i.toNat 0)) ab 0).toNat zq5).2.2.2.2.1&&af jb then bif decide (0≤bu (fun q=>decide (q.1=List.getD aav.2.1 i.toNat 0)) ab 0)&&decide (bu (fun q=>decide (q.1=List.getD aav.2.1 i.toNat 0)) ab 0<(↑ab.length:Int))then bif ke (ab.getD (bu (fun q=>decide (q.1=List.getD aav.2.1 i.toNat 0)) ab 0).toNat zq5).2.2.2.2.2.1 then bif decide ((out.length+1)*144≤140737488355328)then aid f (regions,au,ab,aav,jb,out++[(List.map nY (oe (ab.getD (bu (fun q=>decide (q.1=List.getD aav.2.1 i.toNat 0)) ab 0).toNat zq5).2.2.2.2.1 jb),(ab.getD (bu (fun q=>decide (q.1=List.getD aav.2.1 i.toNat 0)) ab 0).toNat zq5).2.2.2.2.2.1,[],[],[],jb)],IntKind.i64.wrap (i+1))else none else none else none else none else none else none else none else none else alV f (regions,aav,jb,out,0):=by kernel_rfl
theorem am6(f:Nat)(regions:List eB)(aav:jf)(jb:List aj)(out:List ay)(i:Int):alV (f+1) (regions,aav,jb,out,i) =
  bif decide (i<(↑out.length:Int))then bif aqC (out,i,jb,aav)then bif decide (0≤i)&&decide (i<(↑out.length:Int))then alV f (regions,aav,jb,out.set i.toNat (sJ (jL out) jb aav.2.1 (out.getD i.toNat ([],[],[],[],[],[]))),IntKind.i64.wrap (i+1))else none else none else alR f (regions,aav,out,0):=by kernel_rfl
theorem amW(f:Nat)(regions:List eB)(aav:jf)(out:List ay)(i:Int):alR (f+1) (regions,aav,out,i) =
  bif decide (i<(↑out.length:Int))then bif arI (regions,out,i,aav)then bif decide (0≤i)&&decide (i<(↑out.length:Int))then alR f (regions,aav,out.set i.toNat (bG (bG (bG (bG (H7 (MR (regions,out,i,aav)))))) (out.getD i.toNat ([],[],[],[],[],[]))),IntKind.i64.wrap (i+1))else none else none else some out:=by kernel_rfl
noncomputable def afw:List ay→((List eB)×jf×(List ay)×Nat)→(List ay)
 | [],(regions,aav,out,i)=>out
 | uu::rest,(regions,aav,out,i)=>afw rest (regions,aav,out.set (↑i:Int).toNat (bG (bG (bG (bG (H7 (MR (regions,out,(↑i:Int),aav)))))) uu),i+1)
noncomputable def aeA:List ay→((List eB)×jf×(List ay)×Nat)→Bool
 | [],(regions,aav,out,i)=>true
 | uu::rest,(regions,aav,out,i)=>arI (regions,out,(↑i:Int),aav)&&aeA rest (regions,aav,out.set (↑i:Int).toNat (bG (bG (bG (bG (H7 (MR (regions,out,(↑i:Int),aav)))))) uu),i+1)
theorem arx:∀(rest:List ay) (regions:List eB) (aav:jf) (out:List ay) (i:Nat) (hd:out.drop i=rest) (hl:out.length≤1099511627776),de (fun f=>alR f (regions,aav,out,((i:Nat):Int))) (aeA rest (regions,aav,out,i)) (afw rest (regions,aav,out,i))
 | [],regions,aav,out,i,hd,hl=>ai (fun f=>(amW f _ _ _ _).trans (by simp only[fA (bT hd),fW,azP,azI]<;>rfl)) ae
 | uu::rest,regions,aav,out,i,hd,hl=>ai (fun f=>(amW f _ _ _ _).trans (by simp only[cK (ak hd),bC hd,bk (ak hd) hl,fW,azQ,azH]<;>rfl)) (aI (arx rest _ _ _ _ (by first | exact aH hd | exact drop_set hd | exact bB (drop_set hd)) (by grind)))
noncomputable def afE:List ay→((List eB)×jf×(List aj)×(List ay)×Nat)→(List ay)
 | [],(regions,aav,jb,out,i)=>afw out (regions,aav,out,0)
 | uu::rest,(regions,aav,jb,out,i)=>afE rest (regions,aav,jb,out.set (↑i:Int).toNat (sJ (jL out) jb aav.2.1 uu),i+1)
noncomputable def aeB:List ay→((List eB)×jf×(List aj)×(List ay)×Nat)→Bool
 | [],(regions,aav,jb,out,i)=>decide (out.length≤1099511627776)&&aeA out (regions,aav,out,0)
 | uu::rest,(regions,aav,jb,out,i)=>aqC (out,(↑i:Int),jb,aav)&&aeB rest (regions,aav,jb,out.set (↑i:Int).toNat (sJ (jL out) jb aav.2.1 uu),i+1)
theorem ary:∀(rest:List ay) (regions:List eB) (aav:jf) (jb:List aj) (out:List ay) (i:Nat) (hd:out.drop i=rest) (hl:out.length≤1099511627776),de (fun f=>alV f (regions,aav,jb,out,((i:Nat):Int))) (aeB rest (regions,aav,jb,out,i)) (afE rest (regions,aav,jb,out,i))
 | [],regions,aav,jb,out,i,hd,hl=>ai (fun f=>(am6 f _ _ _ _ _).trans (by simp only[fA (bT hd),fW,azP,azI]<;>rfl)) (bL fun hh=>arx _ _ _ _ _ rfl (azZ hh))
 | uu::rest,regions,aav,jb,out,i,hd,hl=>ai (fun f=>(am6 f _ _ _ _ _).trans (by simp only[cK (ak hd),bC hd,bk (ak hd) hl,fW,azQ,azH]<;>rfl)) (aI (ary rest _ _ _ _ _ (by first | exact aH hd | exact drop_set hd | exact bB (drop_set hd)) (by grind)))
noncomputable def afM:List Int→((List eB)×Int×(List cC)×jf×(List aj)×(List ay)×Nat)→(List ay)
 | [],(regions,au,ab,aav,jb,out,i)=>afE out (regions,aav,jb,out,0)
 | uu::rest,(regions,au,ab,aav,jb,out,i)=>bif decide (bu (fun q=>decide (q.1=uu)) ab 0<0)then afM rest (regions,au,ab,aav,jb,out++[(List.replicate (if 0>au then 0 else au).toNat zq2,[],[],[],[],jb)],i+1)else afM rest (regions,au,ab,aav,jb,out++[(List.map nY (oe (ab.getD (bu (fun q=>decide (q.1=uu)) ab 0).toNat zq5).2.2.2.2.1 jb),(ab.getD (bu (fun q=>decide (q.1=uu)) ab 0).toNat zq5).2.2.2.2.2.1,[],[],[],jb)],i+1)
noncomputable def aeC:List Int→((List eB)×Int×(List cC)×jf×(List aj)×(List ay)×Nat)→Bool
 | [],(regions,au,ab,aav,jb,out,i)=>decide (out.length≤1099511627776)&&aeB out (regions,aav,jb,out,0)
 | uu::rest,(regions,au,ab,aav,jb,out,i)=>af jb&&(af ab&&bif decide (bu (fun q=>decide (q.1=uu)) ab 0<0)then decide (0≤if 0>au then 0 else au)&&(decide ((if 0>au then 0 else au)≤if 0>au then 0 else au)&&(decide (((↑136:Int)*if 0>au then 0 else au)≤140737488355328)&&decide ((if 0>au then 0 else au)≤9223372036854775807)))&&(decide ((out.length+1)*144≤140737488355328)&&aeC rest (regions,au,ab,aav,jb,out++[(List.replicate (if 0>au then 0 else au).toNat zq2,[],[],[],[],jb)],i+1))else decide (0≤bu (fun q=>decide (q.1=uu)) ab 0)&&decide (bu (fun q=>decide (q.1=uu)) ab 0<(↑ab.length:Int))&&(ct (ab.getD (bu (fun q=>decide (q.1=uu)) ab 0).toNat zq5).2.2.2.2.1&&af jb&&(decide (0≤bu (fun q=>decide (q.1=uu)) ab 0)&&decide (bu (fun q=>decide (q.1=uu)) ab 0<(↑ab.length:Int))&&(ke (ab.getD (bu (fun q=>decide (q.1=uu)) ab 0).toNat zq5).2.2.2.2.2.1&&(decide ((out.length+1)*144≤140737488355328)&&aeC rest (regions,au,ab,aav,jb,out++[(List.map nY (oe (ab.getD (bu (fun q=>decide (q.1=uu)) ab 0).toNat zq5).2.2.2.2.1 jb),(ab.getD (bu (fun q=>decide (q.1=uu)) ab 0).toNat zq5).2.2.2.2.2.1,[],[],[],jb)],i+1))))))
theorem ao5:∀(rest:List Int) (regions:List eB) (au:Int) (ab:List cC) (aav:jf) (jb:List aj) (out:List ay) (i:Nat) (hd:aav.snd.fst.drop i=rest) (hl:aav.snd.fst.length≤1099511627776),de (fun f=>aid f (regions,au,ab,aav,jb,out,((i:Nat):Int))) (aeC rest (regions,au,ab,aav,jb,out,i)) (afM rest (regions,au,ab,aav,jb,out,i))
 | [],regions,au,ab,aav,jb,out,i,hd,hl=>ai (fun f=>(am7 f _ _ _ _ _ _ _).trans (by simp only[fA (bT hd),fW,azP,azI]<;>rfl)) (bL fun hh=>ary _ _ _ _ _ _ rfl (azZ hh))
 | uu::rest,regions,au,ab,aav,jb,out,i,hd,hl=>ai (fun f=>(am7 f _ _ _ _ _ _ _).trans (by simp only[cK (ak hd),bC hd,bk (ak hd) hl,fW,azQ,azH]<;>rfl)) (aI (aI (ao (aI (aI (ao5 rest _ _ _ _ _ _ _ (aH hd) hl))) (aI (aI (aI (aI (aI (ao5 rest _ _ _ _ _ _ _ (aH hd) hl)))))))))
noncomputable def aqr:((List eB)×Int×(List cC)×jf)→(List ay)
 | (regions,au,ab,next)=>afM next.2.1 (regions,au,ab,next,aX ab,[],0)
noncomputable def ap1:((List eB)×Int×(List cC)×jf)→Bool
 | (regions,au,ab,next)=>xe ab&&(decide (next.2.1.length≤1099511627776)&&aeC next.2.1 (regions,au,ab,next,aX ab,[],0))
theorem asI:∀a:(List eB)×Int×(List cC)×jf,de (fun f=>avg f a) (ap1 a) (aqr a)
 | (regions,au,ab,next)=>ai (fun f=>as8 f _ _ _ _) (aI (bL fun hh=>ao5 _ _ _ _ _ _ _ _ rfl (azZ hh)))
def iU(au:Int)(ab:List cC)(d:List aj)(c:Int):ay:=
 bif decide (bu (fun q=>decide (q.1=c)) ab 0<0)then(List.replicate (max au 0).toNat iR,[],[],[],[],d)
 else((oe (ab.getD (bu (fun q=>decide (q.1=c)) ab 0).toNat zq5).2.2.2.2.1 d).map nY,(ab.getD (bu (fun q=>decide (q.1=c)) ab 0).toNat zq5).2.2.2.2.2.1,[],[],[],d)
def AZ(r:cC):Bool:=ct r.2.2.2.2.1&&(decide (r.2.2.2.2.1.length≤1000000)&&(ke r.2.2.2.2.2.1&&decide (r.2.2.2.2.2.1.length≤1000000)))
theorem max_eq(n:Int):(if 0>n then 0 else n)=max n 0:=by omega
theorem aut{rs:List eB}{au:Int}{ab:List cC}{v:jf}{d:List aj}(hd:af d=true)(hs:au≤1000000)(hr:ab.length≤100)(hp:∀r∈ab,AZ r=true):∀(m:List Int) (out:List ay) (k:Nat),out.length+m.length≤100→
  afM m (rs,au,ab,v,d,out,k)=afE (out++m.map (iU au ab d)) (rs,v,d,out++m.map (iU au ab d),0)∧(aeB (out++m.map (iU au ab d)) (rs,v,d,out++m.map (iU au ab d),0)=true→aeC m (rs,au,ab,v,d,out,k)=true)
 | [],out,k,ho=>by
  simp only[afM,aeC,aBq,aAc,true_and];grind
 | c::m,out,k,ho=>by
  simp only[azL]at ho;have aEE:af ab=true:=azC (by omega);have ho3:decide ((out.length+1)*144≤140737488355328)=true:=azC (by omega);obtain⟨i1,i2⟩:=aut hd hs hr hp m (out++[iU au ab d c]) (k+1) (by simp;omega);have ea:out++[iU au ab d c]++m.map (iU au ab d)=out++(c::m).map (iU au ab d):=by simp
  rw[ea]at i1 i2;simp only[afM,aeC,hd,aEE,ho3,max_eq,azP];by_cases h0:bu (fun q=>decide (q.1=c)) ab 0<0
  ·have e:iU au ab d c=(List.replicate (max au 0).toNat iR,[],[],[],[],d):=by simp only[iU,azC h0,azH]
   rw[e]at i1 i2;rw[azC h0];simp only[azH];refine⟨i1,fun h=>?_⟩;have m0:(0:Int)≤max au 0:=by omega
   have m1:max au 0≤1000000:=by omega
   simp only[azF,azM];exact⟨⟨m0,by omega,by show(136:Int)*max au 0≤140737488355328;omega,by omega⟩,i2 h⟩
  ·have bO:bu (fun q:cC=>decide (q.1=c)) ab 0<0+(ab.length:Nat):=jO _ ab 0 (aBl 0)
   have hm:=hp (ab.getD (bu (fun q=>decide (q.1=c)) ab 0).toNat zq5) (by
    grind)
   simp only[AZ,azF]at hm;simp only[iU,azK h0,azI]at i1 i2;grind
theorem auw(id:aj)(op:Int):∀l:List aL,(ny (l,op)).any (ZC id)=l.any (ZC id):=fun l=>by
 show(l.map (mg op)).any (ZC id)=_;rw[List.any_map]
 congr 1
 funext s
 show ZC id (mg op s)=ZC id s;unfold mg;cases decide (Ju s=op)<;>rfl
theorem anS(h:aj→Bool)(d:List aj)(m:List Int)(id:aj):∀(q:List bR) (l:List aL) (left:List bR) (an:List dv),(og h d m q l left an).1.any (ZC id)=l.any (ZC id)
 | [],l,left,an=>rfl
 | r::q,l,left,an=>by
  simp only[og];cases (ij h l r d m).2
  ·exact anS h d m id q l _ an
  ·exact(anS h d m id q _ left _).trans (auw id _ l)
theorem zg(h:aj→Bool)(d:List aj)(m:List Int):∀(q:List bR) (l:List aL) (left:List bR) (an:List dv),ct l=true→ct (og h d m q l left an).1=true∧(og h d m q l left an).1.length=l.length
 | [],l,left,an,hl=>⟨hl,rfl⟩
 | r::q,l,left,an,hl=>by
  simp only[og];cases (ij h l r d m).2
  ·exact zg h d m q l _ an hl
  ·obtain⟨h1,h2⟩:=zg h d m q (ny (l,(tZ r).2.1)) left (an++[((tZ r).2.1,(ij h l r d m).1)]) (PD _ hl)
   grind[ny]
theorem auF(h:aj→Bool)(d:List aj)(m:List Int)(q r:List ay):jL (q.map (sJ h d m)++r)=jL (q++r):=by
 funext id
 simp only[jL,List.any_append,List.any_map]
 congr 1
 congr 1
 funext s
 exact anS h d m id s.2.1 s.1 [] []
def SK(s:ay):Bool:=ct s.1&&(decide (s.1.length≤1000000)&&decide (s.2.1.length≤1000000))
theorem WT{h:aj→Bool}{d:List aj}{m:List Int}{s:ay}(hs:SK s=true):ct (sJ h d m s).1=true∧(sJ h d m s).1.length≤1000000:=by
 simp only[SK,azF,azM]at hs;obtain⟨h1,h2⟩:=zg h d m s.2.1 s.1 [] [] hs.1;exact⟨h1,by show(og h d m s.2.1 s.1 [] []).1.length≤_;omega⟩
theorem anT{α:Type}{y v:α}{z:List α}:∀{x:List α} {n:Nat},n=x.length→(x++y::z).set n v=x++v::z
 | [],n,h=>by grind
 | a::x,n,h=>by grind
theorem aus{rs:List eB}{v:jf}{d:List aj}{o:List ay}(hd:af d=true)(hv:af v.2.1=true)(ho:o.length≤100)(hs:∀s∈o,SK s=true):∀(r q:List ay),o=q++r→
  afE r (rs,v,d,q.map (sJ (jL o) d v.2.1)++r,q.length)=afw (o.map (sJ (jL o) d v.2.1)) (rs,v,o.map (sJ (jL o) d v.2.1),0)∧(aeA (o.map (sJ (jL o) d v.2.1)) (rs,v,o.map (sJ (jL o) d v.2.1),0)=true→aeB r (rs,v,d,q.map (sJ (jL o) d v.2.1)++r,q.length)=true)
 | [],q,hq=>by
  have e:q=o:=by rw[hq,aAc]
  subst e;simp only[afE,aeB,aAc,true_and];grind
 | s::r,q,hq=>by
  obtain⟨i1,i2⟩:=aus (rs:=rs) hd hv ho hs r (q++[s]) (by grind);have hh:jL (q.map (sJ (jL o) d v.2.1)++s::r)=jL o:=by grind[auF]
  have axj:(q.map (sJ (jL o) d v.2.1)++s::r).set (Int.toNat ((q.length:Nat):Int)) (sJ (jL o) d v.2.1 s)=(q++[s]).map (sJ (jL o) d v.2.1)++r:=by
   simp_all
  have el:(q++[s]).length=q.length+1:=by simp
  rw[el]at i1 i2;simp only[afE,aeB,hh,axj];refine⟨i1,fun h=>?_⟩;rw[i2 h,aAt];have iH:s∈o:=by grind
  have F2:=hs s iH;have hl:o.length=q.length+(r.length+1):=by grind
  have hg:(q.map (sJ (jL o) d v.2.1)++s::r).getD (Int.toNat ((q.length:Nat):Int)) ([],[],[],[],[],[])=s:=by
   simp_all
  simp only[SK,azF,azM]at F2;simp only[aqC,hd,hv,hg,F2.1,azP,azF,azM];refine⟨azC (by simp;omega),azU.2 fun x hx=>?_,by omega,by simp;omega,F2.2.2⟩;rcases aAp.1 hx with hx | hx
  ·obtain⟨y,hy,rfl⟩:=az4.1 hx
   exact azC (by grind[WT,jL])
  ·have:=hs x (by grind)
   simp only[SK,azF,azM]at this;exact azC (by omega)
def BZ(rs:List eB)(v:jf)(all:List ay):List ay→Nat→List ay
 | [],_=>[]
 | s::r,k=>(s.1,s.2.1,s.2.2.1,s.2.2.2.1,MR (rs,all,((k:Nat):Int),v),s.2.2.2.2.2)::BZ rs v all r (k+1)
theorem KH(rs:List eB)(v:jf)(all:List ay):∀(r:List ay) (k:Nat),(BZ rs v all r k).length=r.length
 | [],k=>rfl
 | s::r,k=>by simp only[BZ,azL,KH rs v all r]
theorem KJ(rs:List eB)(v:jf)(all:List ay):∀(r:List ay) (k:Nat),(BZ rs v all r k).map (·.1)=r.map (·.1)
 | [],k=>rfl
 | s::r,k=>by simp only[BZ,aAy,KJ rs v all r]
theorem anU(rs:List eB)(ow:List Int)(c:Int):∀(a b:List ay) (m:List Int) (out:List ag),a.map (·.1)=b.map (·.1)→XS rs ow c (a.zip m) out=XS rs ow c (b.zip m) out
 | [],[],m,out,h=>rfl
 | [],_::_,m,out,h=>by simp at h
 | _::_,[],m,out,h=>by simp at h
 | x::a,y::b,[],out,h=>rfl
 | x::a,y::b,n::m,out,h=>by
  simp only[aAy,aBw]at h;simp only[List.zip_cons_cons,XS,h.1];exact anU rs ow c a b m _ h.2
theorem arH{rs:List eB}{a b:List ay}{i:Int}{v:jf}(h:a.map (·.1)=b.map (·.1)):MR (rs,a,i,v)=MR (rs,b,i,v):=anU rs _ _ a b _ _ h
theorem apC(rs:List eB)(v:jf)(all:List ay)(s:ay):∀(r:List ay) (k:Nat),BZ rs v all (r++[s]) k=BZ rs v all r k++[(s.1,s.2.1,s.2.2.1,s.2.2.2.1,MR (rs,all,((k+r.length:Nat):Int),v),s.2.2.2.2.2)]
 | [],k=>rfl
 | x::r,k=>by
  simp only[aAS,BZ,apC rs v all s r,azL];grind
theorem aur{rs:List eB}{v:jf}{o:List ay}(hr:af rs=true)(hv:v.2.1.length=o.length)(ho:o.length≤100)(hs:∀s∈o,ct s.1=true∧s.1.length≤1000000):∀(r q:List ay),o=q++r→
  afw r (rs,v,BZ rs v o q 0++r,q.length)=BZ rs v o o 0∧aeA r (rs,v,BZ rs v o q 0++r,q.length)=true
 | [],q,hq=>by
  have e:q=o:=by rw[hq,aAc]
  subst e;simp only[afw,aeA,aAc,and_self]
 | s::r,q,hq=>by
  obtain⟨i1,i2⟩:=aur hr hv ho hs r (q++[s]) (by grind);have hf:(BZ rs v o q 0++s::r).map (·.1)=o.map (·.1):=by grind[KJ]
  have ho2:∀i:Int,MR (rs,BZ rs v o q 0++s::r,i,v)=MR (rs,o,i,v):=fun i=>arH hf
  have axj:(BZ rs v o q 0++s::r).set (Int.toNat ((q.length:Nat):Int)) (s.1,s.2.1,s.2.2.1,s.2.2.2.1,MR (rs,o,((q.length:Nat):Int),v),s.2.2.2.2.2)=BZ rs v o (q++[s]) 0++r:=by
   rw[aAn,anT (by rw[KH]),apC,az8];simp
  have el:(q++[s]).length=q.length+1:=by simp
  have hl:o.length=q.length+(r.length+1):=by grind
  rw[el,← axj]at i1 i2;have hP:arI (rs,BZ rs v o q 0++s::r,((q.length:Nat):Int),v)=true:=by
   simp only[arI,hr,azP,azF,azM];have hlen:(BZ rs v o q 0++s::r).length=o.length:=by rw[azG,KH,hl];simp
   refine⟨by omega,by omega,by rw[hlen];exact hv,by omega,azU.2 fun x hx=>?_⟩;have:x.1∈o.map (·.1):=by grind
   grind
  simp only[afw,aeA,hP,ho2,azP];exact⟨i1,i2⟩
def FG(a:List eB×Int×List cC×jf):Bool:=xe a.2.2.1&&((a.2.2.1.all AZ)&&(decide (a.2.1≤1000000)&&(af a.1&&decide (a.2.2.2.2.1.length≤100))))
def gi(a:List eB×Int×List cC×jf):List ay:=
 (fun o=>(fun o2=>BZ a.1 a.2.2.2 o2 o2 0) (o.map (sJ (jL o) (aX a.2.2.1) a.2.2.2.2.1))) (a.2.2.2.2.1.map (iU a.2.1 a.2.2.1 (aX a.2.2.1)))
theorem oU(l:List cC)(h:xe l=true):(aX l).length≤100000:=by
 simp only[xe,azF,azM]at h;have key:∀(r:List cC) (o:List aj),(∀x∈r,(rR x).length≤1000)→(r.foldl (fun o r=>(rR r).foldl (fun o m=>qf o m.2) o) o).length≤o.length+1000*r.length:=by
  intro r;induction r with
  | nil=>grind
  | cons x r ih=>
   intro o hx;have h1:=KO (rR x) o;grind
 have:=key l [] (fun x hx=>by have:=azU.1 h.2 x hx;simpa using this);simp only[az2]at this;grind[aX]
theorem MB{au:Int}{ab:List cC}{d:List aj}(hs:au≤1000000)(hp:∀r∈ab,AZ r=true)(c:Int):SK (iU au ab d c)=true:=by
 have hsw:∀(d:List aj) (l:List aL),ct l=true→ct (oe l d)=true∧(oe l d).length=l.length:=by
  intro d;induction d with
  | nil=>intro l h;exact⟨h,rfl⟩
  | cons x d ih=>
   intro l h;obtain⟨h1,h2⟩:=ih (tS (l,x)).1 (Pm x h);exact⟨h1,h2.trans (by simp[tS])⟩
 have hul:∀l:List aL,ct l=true→ct (l.map nY)=true:=fun l h=>uo (by simpa using fD h) fun s hs=>by
  obtain⟨x,hx,rfl⟩:=az4.1 hs;have h2:af x.2.2.2.1=true:=gk h hx;exact h2
 by_cases h0:bu (fun q=>decide (q.1=c)) ab 0<0
 ·simp only[iU,azC h0,azH,SK,azF,azM]
  refine⟨uo (by simp;omega) fun s hs=>?_,by simp;omega,by simp⟩;rw[(aBH.1 hs).2];rfl
 ·have bO:bu (fun q:cC=>decide (q.1=c)) ab 0<0+(ab.length:Nat):=jO _ ab 0 (aBl 0)
  have hm:=hp (ab.getD (bu (fun q=>decide (q.1=c)) ab 0).toNat zq5) (by
   grind)
  simp only[AZ,azF,azM]at hm;obtain⟨h1,h2⟩:=hsw d _ hm.1;simp only[iU,azK h0,azI,SK,azF,azM];grind
theorem apx:∀a,FG a=true→ap1 a=true∧aqr a=gi a:=by
 rintro⟨rs,au,ab,v⟩ h;simp only[FG,azF,azM]at h;obtain⟨h1,h2,h3,h4,h5⟩:=h;have h2:∀r∈ab,AZ r=true:=azU.1 h2;have hd:af (aX ab)=true:=azC (by grind[oU]);have hr:ab.length≤100:=by simp only[xe,azF,azM]at h1;exact h1.1
 obtain⟨i1,i2⟩:=aut (rs:=rs) (v:=v) hd h3 hr h2 v.2.1 [] 0 (by grind);rw[aAs]at i1 i2;obtain⟨o,F8⟩:∃o,o=v.2.1.map (iU au ab (aX ab)):=⟨_,rfl⟩;rw[← F8]at i1 i2;have hol:o.length=v.2.1.length:=by rw[F8,aA7]
 have VX:∀s∈o,SK s=true:=fun s hs=>by
  grind[MB]
 obtain⟨j1,j2⟩:=aus (rs:=rs) (v:=v) (o:=o) hd (azC (by omega)) (by omega) VX o [] rfl;simp only[aBq,aAs,az2]at j1 j2;obtain⟨k1,k2⟩:=aur (rs:=rs) (v:=v) (o:=o.map (sJ (jL o) (aX ab) v.2.1)) h4 (by rw[aA7,hol]) (by rw[aA7];omega) (fun s hs=>by
  grind[WT,sJ,jL,aX]) (o.map (sJ (jL o) (aX ab) v.2.1)) [] rfl
 simp only[BZ,aAs,az2]at k1 k2;simp only[ap1,aqr];refine⟨?_,?_⟩
 ·grind
 grind[gi]
theorem ax8:∀a,FG a=true→ap1 a=true:=fun a h=>(apx a h).1
theorem ax9:∀a,FG a=true→aqr a=gi a:=fun a h=>(apx a h).2
noncomputable def avP:dn:=⟨36,[.rd tP,.c zI,.rd eG,.g Jp],[.o 38 6 bl],FG,gi⟩
theorem atT:zO avP:=fl an1 afP [.tmp 8] mixed (ah apD (ah E7 (ah avN (ah ath (ah VA (ah ati (ah atV (aC)))))))) Tryz.func36 (bp asI ax8 ax9)
open Go.Proofs
def vf:aj→List aj→List aj
 | _,[]=>[]
 | x,y::r=>bif decide (y=x)then vf x r else y::vf y r
def nD:List aj→List aj
 | []=>[]
 | x::r=>x::vf x r
def yK(a b:aj):Bool:=cw (a,b)
theorem ao8:qt yK:=⟨fun a b h=>BA h,fun a b c h1 h2=>by
 unfold yK at *;cases h:cw (c,a)with
 | false=>rfl
 | true=>
  by_cases hab:a=b
  ·subst hab;rw[h]at h2;cases h2
  ·have:=mn h1 (fun e=>hab e.symm)
   rw[jG h this]at h2;cases h2⟩
def Asc(l:List aj):Prop:=l.Pairwise fun a b=>cw (a,b)=true
theorem Asc.eq:∀{a b:List aj},Asc a→Asc b→(∀x,x∈a↔x∈b)→a=b
 | [],[],_,_,_=>rfl
 | [],y::b,_,_,h=>absurd ((h y).2 az1) (by simp)
 | x::a,[],_,_,h=>absurd ((h x).1 az1) (by simp)
 | x::a,y::b,ha,hb,h=>by
  have ha':=aAq.1 ha;have gW:=aAq.1 hb;have uH:x=y:=by
   rcases azW.1 ((h x).1 az1)with e | e
   ·exact e
   ·rcases azW.1 ((h y).2 az1)with e2 | e2
    all_goals grind[BA]
  subst uH;rw[Asc.eq ha'.2 gW.2 fun z=>?_];have:=h z;simp only[azW]at this;grind[im]
theorem Bq(id:aj):∀(l:List aj) (x:aj),x∈qf l id↔x=id∨x∈l
 | [],x=>by simp[qf]
 | u::r,x=>by
  have ih:=Bq id r x;grind[qf]
theorem K5(id:aj):∀l:List aj,Asc l→Asc (qf l id)
 | [],_=>List.pairwise_singleton _ _
 | u::r,h=>by
  have h':=aAq.1 h;simp only[qf];cases hl:cw (u,id)with
  | true=>
   refine aAq.2 ⟨fun x hx=>?_,K5 id r h'.2⟩;grind[Bq]
  | false=>
   by_cases hu:u=id
   ·grind
   ·rw[azK hu]
    have h1:=mn hl hu;refine aAq.2 ⟨fun x hx=>?_,h⟩;grind[jG]
theorem K4:∀(l o:List aj),Asc o→Asc (l.foldl qf o)
 | [],o,h=>h
 | x::l,o,h=>K4 l _ (K5 x o h)
theorem Bo:∀(l o:List aj) (x:aj),x∈l.foldl qf o↔x∈o∨x∈l
 | [],o,x=>by simp
 | y::l,o,x=>by
  rw[aAN,Bo l,Bq,azW];grind
theorem Bp:∀(l:List aj) (x z:aj),(z=x∨z∈vf x l)↔(z=x∨z∈l)
 | [],x,z=>by simp[vf]
 | y::r,x,z=>by
  simp only[vf];by_cases h:y=x
  ·rw[azC h]
   subst h;rw[azH,Bp r y z,azW];grind
  ·rw[azK h,azI,azW,azW]
   have:=Bp r y z;grind
theorem CA:∀(l:List aj) (x:aj),dD yK (x::l)→Asc (x::vf x l)
 | [],x,_=>List.pairwise_singleton _ _
 | y::r,x,h=>by
  have h1:=aAq.1 h;have h2:=aAq.1 h1.2;simp only[vf];by_cases hy:y=x
  ·rw[azC hy]
   subst hy;exact CA r y h1.2
  ·rw[azK hy,azI]
   have h3:=CA r y h1.2;have uH:cw (x,y)=true:=mn (h1.1 y az1) hy;refine aAq.2 ⟨fun z hz=>?_,h3⟩;rcases azW.1 hz with rfl | hz
   ·exact uH
   ·exact jG uH ((aAq.1 h3).1 z hz)
theorem aai(l:List aj):nD (ca yK l)=l.foldl qf []:=by
 have hs:=jy ao8 l;have hp:=lb (lt:=yK) l;refine Asc.eq ?_ (K4 l [] .nil) fun x=>?_
 ·cases hq:ca yK l with
  | nil=>exact .nil
  | cons x r=>rw[hq]at hs;exact CA r x hs
 ·rw[Bo]
  cases hq:ca yK l with
  | nil=>
   grind[nD]
  | cons y r=>
   rw[hq]at hp;rw[← hp.mem_iff];simp only[nD,azW,aB4,false_or];grind[Bp]
def allM(l:List cC):List aj:=l.flatMap fun r=>(rR r).map (·.2)
theorem KN(l:List cC):aX l=(allM l).foldl qf []:=by
 unfold aX allM;generalize ([]:List aj)=o;induction l generalizing o with
 | nil=>rfl
 | cons r l ih=>
  rw[aAN,aBO,aBU,ih]
  congr 1
  rw[List.foldl_map]
theorem Gk(l:List cC):nD (ca yK (allM l))=aX l:=by rw[aai,KN]
