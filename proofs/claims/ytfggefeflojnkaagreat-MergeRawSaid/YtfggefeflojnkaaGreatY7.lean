/- By an AI agent. -/
import Derived.Test.YtfggefeflojnkaaGreatY5
set_option linter.unusedSimpArgs false
set_option linter.unusedVariables false
namespace Go.AL
open Go.Proofs
noncomputable def Cu:cR:=⟨Tryz.prog,[Ci,Cr,afj,O6,Cj,O8,Pz],dn [],92,[],[(26,aH),(39,aW),(48,aW),(56,cc)],[],[]⟩
theorem ai7:bp Tryz.prog [Ci,Cr,afj,O6,Cj,O8,Pz] [] []:=ak EA (ak EF (ak afi (ak Ws (ak EB (ak Wu (ak WV (aD)))))))
def kv:Nat→LD:=ej [(0,⟨[.rd 0 dB,.c 1 (.int .i64),.rd 2 cV,.box 7 7 30 3 eN,.c 9 (.sl aH),.list 10 999 38 6 ba,.c 11 (.int .i64)],[],0⟩),(2,⟨[.rd 0 dB,.box 7 7 30 3 eN,.c 9 (.sl aH),.list 10 999 38 6 ba,.c 14 (.int .i64)],[],0⟩),(4,⟨[.rd 0 dB,.box 7 7 30 3 eN,.list 10 999 38 6 ba,.c 15 (.int .i64)],[],0⟩)]
noncomputable def adE(f:Nat)(a:(List (bA))×Int×(List (bz))×bU):Option ((List (ao))):=(aG (Cu) kv (aQ Tryz.prog [.tmp 8] [.o 38 6 ba]) f [.code (aC Tryz.f36)] (aV [.rd dB,.c (.int .i64),.rd cV,.g eN] a):Option (aA [.o 38 6 ba]))
noncomputable def jN(f:Nat)(x:(List (bA))×Int×(List (bz))×bU×(List (al))×(List (ao))×Int):Option ((List (ao))):=(aG (Cu) kv (aQ Tryz.prog [.tmp 8] [.o 38 6 ba]) f (aK Tryz.f36 0) ((kv 0).mk' x):Option (aA [.o 38 6 ba]))
noncomputable def mi(f:Nat)(x:(List (bA))×bU×(List (al))×(List (ao))×Int):Option ((List (ao))):=(aG (Cu) kv (aQ Tryz.prog [.tmp 8] [.o 38 6 ba]) f (aK Tryz.f36 2) ((kv 2).mk' x):Option (aA [.o 38 6 ba]))
noncomputable def mh(f:Nat)(x:(List (bA))×bU×(List (ao))×Int):Option ((List (ao))):=(aG (Cu) kv (aQ Tryz.prog [.tmp 8] [.o 38 6 ba]) f (aK Tryz.f36 4) ((kv 4).mk' x):Option (aA [.o 38 6 ba]))
theorem VX(f:Nat)(regions:List (bA))(ai:Int)(ab:List (bz))(next:bU):adE (f+1) (regions,ai,ab,next) =
  bif lO ab then jN f (regions,ai,ab,next,bc ab,[],0)else none:=by kernel_rfl
theorem yy(f:Nat)(regions:List (bA))(ai:Int)(ab:List (bz))(av:bU)(aj:List (al))(out:List (ao))(i:Int):jN (f+1) (regions,ai,ab,av,aj,out,i) =
  bif decide (i<(↑(List.length av.2.1):Int))then bif af aj then bif decide (0≤i)&&decide (i<(↑(List.length av.2.1):Int))then bif af ab then bif decide (aL (fun q=>decide (q.1=List.getD av.2.1 i.toNat 0)) ab 0<0)then bif decide (0≤if 0>ai then 0 else ai)&&(decide ((if 0>ai then 0 else ai)≤if 0>ai then 0 else ai)&&(decide (((↑136:Int)*if 0>ai then 0 else ai)≤140737488355328)&&decide ((if 0>ai then 0 else ai)≤9223372036854775807)))then bif decide ((out.length+1)*144≤140737488355328)then jN f (regions,ai,ab,av,aj,out++[(List.replicate (if 0>ai then 0 else ai).toNat zq2,[],[],[],[],aj)],IntKind.i64.wrap (i+1))else none else none else bif decide (0≤aL (fun q=>decide (q.1=List.getD av.2.1 i.toNat 0)) ab 0)&&decide (aL (fun q=>decide (q.1=List.getD av.2.1 i.toNat 0)) ab 0<(↑ab.length:Int))then bif br (ab.getD (aL (fun q=>decide (q.1=List.getD av.2.1 i.toNat 0)) ab 0).toNat zq5).2.2.2.2.1&&af aj then bif decide (0≤aL (fun q=>decide (q.1=List.getD av.2.1 i.toNat 0)) ab 0)&&decide (aL (fun q=>decide (q.1=List.getD av.2.1 i.toNat 0)) ab 0<(↑ab.length:Int))then bif fN (ab.getD (aL (fun q=>decide (q.1=List.getD av.2.1 i.toNat 0)) ab 0).toNat zq5).2.2.2.2.2.1 then bif decide ((out.length+1)*144≤140737488355328)then jN f (regions,ai,ab,av,aj,out++[(List.map gG (iJ (ab.getD (aL (fun q=>decide (q.1=List.getD av.2.1 i.toNat 0)) ab 0).toNat zq5).2.2.2.2.1 aj),(ab.getD (aL (fun q=>decide (q.1=List.getD av.2.1 i.toNat 0)) ab 0).toNat zq5).2.2.2.2.2.1,[],[],[],aj)],IntKind.i64.wrap (i+1))else none else none else none else none else none else none else none else none else mi f (regions,av,aj,out,0):=by kernel_rfl
theorem yx(f:Nat)(regions:List (bA))(av:bU)(aj:List (al))(out:List (ao))(i:Int):mi (f+1) (regions,av,aj,out,i) =
  bif decide (i<(↑out.length:Int))then bif EW (out,i,aj,av)then bif decide (0≤i)&&decide (i<(↑out.length:Int))then mi f (regions,av,aj,out.set i.toNat (eY (bu out) aj av.2.1 (out.getD i.toNat ([],[],[],[],[],[]))),IntKind.i64.wrap (i+1))else none else none else mh f (regions,av,out,0):=by kernel_rfl
theorem yw(f:Nat)(regions:List (bA))(av:bU)(out:List (ao))(i:Int):mh (f+1) (regions,av,out,i) =
  bif decide (i<(↑out.length:Int))then bif J5 (regions,out,i,av)then bif decide (0≤i)&&decide (i<(↑out.length:Int))then mh f (regions,av,out.set i.toNat (bP (bP (bP (bP (ER (mO (regions,out,i,av)))))) (out.getD i.toNat ([],[],[],[],[],[]))),IntKind.i64.wrap (i+1))else none else none else some out:=by kernel_rfl
noncomputable def jT:List (ao)→((List (bA))×bU×(List (ao))×Nat)→(List (ao))
 | [],(regions,av,out,i)=>out
 | uu::rest,(regions,av,out,i)=>jT rest (regions,av,out.set (↑i:Int).toNat (bP (bP (bP (bP (ER (mO (regions,out,(↑i:Int),av)))))) uu),i+1)
noncomputable def jG:List (ao)→((List (bA))×bU×(List (ao))×Nat)→Bool
 | [],(regions,av,out,i)=>true
 | uu::rest,(regions,av,out,i)=>J5 (regions,out,(↑i:Int),av)&&jG rest (regions,av,out.set (↑i:Int).toNat (bP (bP (bP (bP (ER (mO (regions,out,(↑i:Int),av)))))) uu),i+1)
theorem Mj:∀(rest:List (ao)) (regions:List (bA)) (av:bU) (out:List (ao)) (i:Nat) (hd:out.drop i=rest) (hl:out.length≤1099511627776),cj (fun f=>mh f (regions,av,out,((i:Nat):Int))) (jG rest (regions,av,out,i)) (jT rest (regions,av,out,i))
 | [],regions,av,out,i,hd,hl=>ah (fun f=>(yw f _ _ _ _).trans (by simp only[bW (aY hd),cB,aCw,aCu,aCn,aCq,aCx]<;>rfl)) ae
 | uu::rest,regions,av,out,i,hd,hl=>ah (fun f=>(yw f _ _ _ _).trans (by simp only[bl (ag hd),aI hd,aM (ag hd) hl,aR (ag hd),cB,aCw,aCu,aCn,aCq,aCx]<;>rfl)) (aE (Mj rest _ _ _ _ (by first | exact aq hd | exact drop_set hd | exact au (drop_set hd)) (by first | exact hl | simpa using hl)))
noncomputable def jU:List (ao)→((List (bA))×bU×(List (al))×(List (ao))×Nat)→(List (ao))
 | [],(regions,av,aj,out,i)=>jT out (regions,av,out,0)
 | uu::rest,(regions,av,aj,out,i)=>jU rest (regions,av,aj,out.set (↑i:Int).toNat (eY (bu out) aj av.2.1 uu),i+1)
noncomputable def jH:List (ao)→((List (bA))×bU×(List (al))×(List (ao))×Nat)→Bool
 | [],(regions,av,aj,out,i)=>decide (out.length≤1099511627776)&&jG out (regions,av,out,0)
 | uu::rest,(regions,av,aj,out,i)=>EW (out,(↑i:Int),aj,av)&&jH rest (regions,av,aj,out.set (↑i:Int).toNat (eY (bu out) aj av.2.1 uu),i+1)
theorem Mk:∀(rest:List (ao)) (regions:List (bA)) (av:bU) (aj:List (al)) (out:List (ao)) (i:Nat) (hd:out.drop i=rest) (hl:out.length≤1099511627776),cj (fun f=>mi f (regions,av,aj,out,((i:Nat):Int))) (jH rest (regions,av,aj,out,i)) (jU rest (regions,av,aj,out,i))
 | [],regions,av,aj,out,i,hd,hl=>ah (fun f=>(yx f _ _ _ _ _).trans (by simp only[bW (aY hd),cB,aCw,aCu,aCn,aCq,aCx]<;>rfl)) (bC fun hh=>Mj _ _ _ _ _ rfl (aCE hh))
 | uu::rest,regions,av,aj,out,i,hd,hl=>ah (fun f=>(yx f _ _ _ _ _).trans (by simp only[bl (ag hd),aI hd,aM (ag hd) hl,aR (ag hd),cB,aCw,aCu,aCn,aCq,aCx]<;>rfl)) (aE (Mk rest _ _ _ _ _ (by first | exact aq hd | exact drop_set hd | exact au (drop_set hd)) (by first | exact hl | simpa using hl)))
noncomputable def jV:List (Int)→((List (bA))×Int×(List (bz))×bU×(List (al))×(List (ao))×Nat)→(List (ao))
 | [],(regions,ai,ab,av,aj,out,i)=>jU out (regions,av,aj,out,0)
 | uu::rest,(regions,ai,ab,av,aj,out,i)=>bif decide (aL (fun q=>decide (q.1=uu)) ab 0<0)then jV rest (regions,ai,ab,av,aj,out++[(List.replicate (if 0>ai then 0 else ai).toNat zq2,[],[],[],[],aj)],i+1)else jV rest (regions,ai,ab,av,aj,out++[(List.map gG (iJ (ab.getD (aL (fun q=>decide (q.1=uu)) ab 0).toNat zq5).2.2.2.2.1 aj),(ab.getD (aL (fun q=>decide (q.1=uu)) ab 0).toNat zq5).2.2.2.2.2.1,[],[],[],aj)],i+1)
noncomputable def jI:List (Int)→((List (bA))×Int×(List (bz))×bU×(List (al))×(List (ao))×Nat)→Bool
 | [],(regions,ai,ab,av,aj,out,i)=>decide (out.length≤1099511627776)&&jH out (regions,av,aj,out,0)
 | uu::rest,(regions,ai,ab,av,aj,out,i)=>af aj&&(af ab&&bif decide (aL (fun q=>decide (q.1=uu)) ab 0<0)then decide (0≤if 0>ai then 0 else ai)&&(decide ((if 0>ai then 0 else ai)≤if 0>ai then 0 else ai)&&(decide (((↑136:Int)*if 0>ai then 0 else ai)≤140737488355328)&&decide ((if 0>ai then 0 else ai)≤9223372036854775807)))&&(decide ((out.length+1)*144≤140737488355328)&&jI rest (regions,ai,ab,av,aj,out++[(List.replicate (if 0>ai then 0 else ai).toNat zq2,[],[],[],[],aj)],i+1))else decide (0≤aL (fun q=>decide (q.1=uu)) ab 0)&&decide (aL (fun q=>decide (q.1=uu)) ab 0<(↑ab.length:Int))&&(br (ab.getD (aL (fun q=>decide (q.1=uu)) ab 0).toNat zq5).2.2.2.2.1&&af aj&&(decide (0≤aL (fun q=>decide (q.1=uu)) ab 0)&&decide (aL (fun q=>decide (q.1=uu)) ab 0<(↑ab.length:Int))&&(fN (ab.getD (aL (fun q=>decide (q.1=uu)) ab 0).toNat zq5).2.2.2.2.2.1&&(decide ((out.length+1)*144≤140737488355328)&&jI rest (regions,ai,ab,av,aj,out++[(List.map gG (iJ (ab.getD (aL (fun q=>decide (q.1=uu)) ab 0).toNat zq5).2.2.2.2.1 aj),(ab.getD (aL (fun q=>decide (q.1=uu)) ab 0).toNat zq5).2.2.2.2.2.1,[],[],[],aj)],i+1))))))
theorem Cy:∀(rest:List (Int)) (regions:List (bA)) (ai:Int) (ab:List (bz)) (av:bU) (aj:List (al)) (out:List (ao)) (i:Nat) (hd:av.snd.fst.drop i=rest) (hl:av.snd.fst.length≤1099511627776),cj (fun f=>jN f (regions,ai,ab,av,aj,out,((i:Nat):Int))) (jI rest (regions,ai,ab,av,aj,out,i)) (jV rest (regions,ai,ab,av,aj,out,i))
 | [],regions,ai,ab,av,aj,out,i,hd,hl=>ah (fun f=>(yy f _ _ _ _ _ _ _).trans (by simp only[bW (aY hd),cB,aCw,aCu,aCn,aCq,aCx]<;>rfl)) (bC fun hh=>Mk _ _ _ _ _ _ rfl (aCE hh))
 | uu::rest,regions,ai,ab,av,aj,out,i,hd,hl=>ah (fun f=>(yy f _ _ _ _ _ _ _).trans (by simp only[bl (ag hd),aI hd,aM (ag hd) hl,aR (ag hd),cB,aCw,aCu,aCn,aCq,aCx]<;>rfl)) (aE (aE (aw (aE (aE (Cy rest _ _ _ _ _ _ _ (by first | exact aq hd | exact drop_set hd | exact au (drop_set hd)) (by first | exact hl | simpa using hl)))) (aE (aE (aE (aE (aE (Cy rest _ _ _ _ _ _ _ (by first | exact aq hd | exact drop_set hd | exact au (drop_set hd)) (by first | exact hl | simpa using hl))))))))))
noncomputable def G8:((List (bA))×Int×(List (bz))×bU)→(List (ao))
 | (regions,ai,ab,next)=>jV next.2.1 (regions,ai,ab,next,bc ab,[],0)
noncomputable def GI:((List (bA))×Int×(List (bz))×bU)→Bool
 | (regions,ai,ab,next)=>lO ab&&(decide (next.2.1.length≤1099511627776)&&jI next.2.1 (regions,ai,ab,next,bc ab,[],0))
theorem T0:∀a:(List (bA))×Int×(List (bz))×bU,cj (fun f=>adE f a) (GI a) (G8 a)
 | (regions,ai,ab,next)=>ah (fun f=>VX f _ _ _ _) (aE (bC fun hh=>Cy _ _ _ _ _ _ _ _ rfl (aCE hh)))
def e9(ai:Int)(ab:List bz)(d:List al)(c:Int):ao:=
 bif decide (aL (fun q=>decide (q.1=c)) ab 0<0)then(List.replicate (max ai 0).toNat kF,[],[],[],[],d)
 else((iJ (ab.getD (aL (fun q=>decide (q.1=c)) ab 0).toNat zq5).2.2.2.2.1 d).map gG,(ab.getD (aL (fun q=>decide (q.1=c)) ab 0).toNat zq5).2.2.2.2.2.1,[],[],[],d)
def ux(r:bz):Bool:=br r.2.2.2.2.1&&(decide (r.2.2.2.2.1.length≤1000000)&&(fN r.2.2.2.2.2.1&&decide (r.2.2.2.2.2.1.length≤1000000)))
theorem max_eq(n:Int):(if 0>n then 0 else n)=max n 0:=by omega
theorem Y7{rs:List bA}{ai:Int}{ab:List bz}{v:bU}{d:List al}(hd:af d=true)(hs:ai≤1000000)(hr:ab.length≤100)(hp:∀r∈ab,ux r=true):∀(m:List Int) (out:List ao) (k:Nat),out.length+m.length≤100→
  jV m (rs,ai,ab,v,d,out,k)=jU (out++m.map (e9 ai ab d)) (rs,v,d,out++m.map (e9 ai ab d),0)∧(jH (out++m.map (e9 ai ab d)) (rs,v,d,out++m.map (e9 ai ab d),0)=true→jI m (rs,ai,ab,v,d,out,k)=true)
 | [],out,k,ho=>by
  simp only[jV,jI,aDR,aCM,true_and];intro h;rw[h,aCT];exact aCm (by simp at ho;omega)
 | c::m,out,k,ho=>by
  simp only[aCv]at ho;have avZ:af ab=true:=aCm (by omega);have ho3:decide ((out.length+1)*144≤140737488355328)=true:=aCm (by omega);obtain⟨i1,i2⟩:=Y7 hd hs hr hp m (out++[e9 ai ab d c]) (k+1) (by simp;omega);have ea:out++[e9 ai ab d c]++m.map (e9 ai ab d)=out++(c::m).map (e9 ai ab d):=by simp
  rw[ea]at i1 i2;simp only[jV,jI,hd,avZ,ho3,max_eq,aCu];by_cases h0:aL (fun q=>decide (q.1=c)) ab 0<0
  ·have e:e9 ai ab d c=(List.replicate (max ai 0).toNat kF,[],[],[],[],d):=by simp only[e9,aCm h0,aCn]
   rw[e]at i1 i2;rw[aCm h0];simp only[aCn];refine⟨i1,fun h=>?_⟩;have m0:(0:Int)≤max ai 0:=by omega
   have m1:max ai 0≤1000000:=by omega
   simp only[aCs,aCy];exact⟨⟨m0,by omega,by show(136:Int)*max ai 0≤140737488355328;omega,by omega⟩,i2 h⟩
  ·have cg:aL (fun q:bz=>decide (q.1=c)) ab 0<0+(ab.length:Nat):=lJ _ ab 0 (Int.le_refl 0)
   have hm:=hp (ab.getD (aL (fun q=>decide (q.1=c)) ab 0).toNat zq5) (by
    rw[aDB,aCF (by omega)];exact aEU _)
   simp only[ux,aCs]at hm;simp only[e9,aCz h0,aCq]at i1 i2;rw[aCz h0];simp only[aCq,hm.1,hm.2.2.1,aCw,aCu];refine⟨i1,fun h=>?_⟩;rw[i2 h];simp only[aCT,aCs,aCy];omega
theorem Zx(id:al)(op:Int):∀l:List ax,(gH (l,op)).any (dJ id)=l.any (dJ id):=fun l=>by
 show(l.map (iM op)).any (dJ id)=_;rw[List.any_map]
 congr 1
 funext s
 show dJ id (iM op s)=dJ id s;unfold iM;cases decide (sS s=op)<;>rfl
theorem An(h:al→Bool)(d:List al)(m:List Int)(id:al):∀(q:List bn) (l:List ax) (left:List bn) (an:List bR),(kJ h d m q l left an).1.any (dJ id)=l.any (dJ id)
 | [],l,left,an=>rfl
 | r::q,l,left,an=>by
  simp only[kJ];cases (dI h l r d m).2
  ·exact An h d m id q l _ an
  ·exact(An h d m id q _ left _).trans (Zx id _ l)
theorem zb(h:al→Bool)(d:List al)(m:List Int):∀(q:List bn) (l:List ax) (left:List bn) (an:List bR),br l=true→br (kJ h d m q l left an).1=true∧(kJ h d m q l left an).1.length=l.length
 | [],l,left,an,hl=>⟨hl,rfl⟩
 | r::q,l,left,an,hl=>by
  simp only[kJ];cases (dI h l r d m).2
  ·exact zb h d m q l _ an hl
  ·obtain⟨h1,h2⟩:=zb h d m q (gH (l,(j9 r).2.1)) left (an++[((j9 r).2.1,(dI h l r d m).1)]) (Fh _ hl)
   exact⟨h1,h2.trans (by simp[gH])⟩
theorem aa1(h:al→Bool)(d:List al)(m:List Int)(q r:List ao):bu (q.map (eY h d m)++r)=bu (q++r):=by
 funext id
 simp only[bu,List.any_append,List.any_map]
 congr 1
 congr 1
 funext s
 exact An h d m id s.2.1 s.1 [] []
def CU(s:ao):Bool:=br s.1&&(decide (s.1.length≤1000000)&&decide (s.2.1.length≤1000000))
theorem EV{h:al→Bool}{d:List al}{m:List Int}{s:ao}(hs:CU s=true):br (eY h d m s).1=true∧(eY h d m s).1.length≤1000000:=by
 simp only[CU,aCs,aCy]at hs;obtain⟨h1,h2⟩:=zb h d m s.2.1 s.1 [] [] hs.1;exact⟨h1,by show(kJ h d m s.2.1 s.1 [] []).1.length≤_;omega⟩
theorem As{α:Type}{y v:α}{z:List α}:∀{x:List α} {n:Nat},n=x.length→(x++y::z).set n v=x++v::z
 | [],n,h=>by subst h;rfl
 | a::x,n,h=>by subst h;simp only[aDC,aCv,aCS,As (x:=x) rfl]
theorem Y6{rs:List bA}{v:bU}{d:List al}{o:List ao}(hd:af d=true)(hv:af v.2.1=true)(ho:o.length≤100)(hs:∀s∈o,CU s=true):∀(r q:List ao),o=q++r→
  jU r (rs,v,d,q.map (eY (bu o) d v.2.1)++r,q.length)=jT (o.map (eY (bu o) d v.2.1)) (rs,v,o.map (eY (bu o) d v.2.1),0)∧(jG (o.map (eY (bu o) d v.2.1)) (rs,v,o.map (eY (bu o) d v.2.1),0)=true→jH r (rs,v,d,q.map (eY (bu o) d v.2.1)++r,q.length)=true)
 | [],q,hq=>by
  have e:q=o:=by rw[hq,aCM]
  subst e;simp only[jU,jH,aCM,true_and];intro h;rw[h,aCT];exact aCm (by simp;omega)
 | s::r,q,hq=>by
  obtain⟨i1,i2⟩:=Y6 (rs:=rs) hd hv ho hs r (q++[s]) (by rw[hq];simp);have hh:bu (q.map (eY (bu o) d v.2.1)++s::r)=bu o:=by rw[aa1,← hq]
  have aib:(q.map (eY (bu o) d v.2.1)++s::r).set (Int.toNat ((q.length:Nat):Int)) (eY (bu o) d v.2.1 s)=(q++[s]).map (eY (bu o) d v.2.1)++r:=by
   rw[aC8,As (by simp)];simp
  have el:(q++[s]).length=q.length+1:=by simp
  rw[el]at i1 i2;simp only[jU,jH,hh,aib];refine⟨i1,fun h=>?_⟩;rw[i2 h,aCT];have iz:s∈o:=by rw[hq];simp
  have Be:=hs s iz;have hl:o.length=q.length+(r.length+1):=by rw[hq];simp
  have hg:(q.map (eY (bu o) d v.2.1)++s::r).getD (Int.toNat ((q.length:Nat):Int)) ([],[],[],[],[],[])=s:=by
   have:=cL (q.map (eY (bu o) d v.2.1)) s r ([],[],[],[],[],[])
   rwa [aDF]at this
  simp only[CU,aCs,aCy]at Be;simp only[EW,hd,hv,hg,Be.1,aCu,aCs,aCy];refine⟨aCm (by simp;omega),aCG.2 fun x hx=>?_,by omega,by simp;omega,Be.2.2⟩;rcases aC3.1 hx with hx | hx
  ·obtain⟨y,hy,rfl⟩:=aCN.1 hx
   exact aCm (by have:=(EV (h:=bu o) (d:=d) (m:=v.2.1) (hs y (by rw[hq];exact aDv _ hy))).2;omega)
  ·have:=hs x (by rw[hq];exact aDw _ hx)
   simp only[CU,aCs,aCy]at this;exact aCm (by omega)
def iS(rs:List bA)(v:bU)(all:List ao):List ao→Nat→List ao
 | [],_=>[]
 | s::r,k=>(s.1,s.2.1,s.2.2.1,s.2.2.2.1,mO (rs,all,((k:Nat):Int),v),s.2.2.2.2.2)::iS rs v all r (k+1)
theorem vf(rs:List bA)(v:bU)(all:List ao):∀(r:List ao) (k:Nat),(iS rs v all r k).length=r.length
 | [],k=>rfl
 | s::r,k=>by simp only[iS,aCv,vf rs v all r]
theorem Bt(rs:List bA)(v:bU)(all:List ao):∀(r:List ao) (k:Nat),(iS rs v all r k).map (·.1)=r.map (·.1)
 | [],k=>rfl
 | s::r,k=>by simp only[iS,aDh,Bt rs v all r]
theorem AM(rs:List bA)(ow:List Int)(c:Int):∀(a b:List ao) (m:List Int) (out:List ay),a.map (·.1)=b.map (·.1)→CW rs ow c (a.zip m) out=CW rs ow c (b.zip m) out
 | [],[],m,out,h=>rfl
 | [],_::_,m,out,h=>by simp at h
 | _::_,[],m,out,h=>by simp at h
 | x::a,y::b,[],out,h=>rfl
 | x::a,y::b,n::m,out,h=>by
  simp only[aDh,aEa]at h;simp only[List.zip_cons_cons,CW,h.1];exact AM rs ow c a b m _ h.2
theorem Nj{rs:List bA}{a b:List ao}{i:Int}{v:bU}(h:a.map (·.1)=b.map (·.1)):mO (rs,a,i,v)=mO (rs,b,i,v):=AM rs _ _ a b _ _ h
theorem DY(rs:List bA)(v:bU)(all:List ao)(s:ao):∀(r:List ao) (k:Nat),iS rs v all (r++[s]) k=iS rs v all r k++[(s.1,s.2.1,s.2.2.1,s.2.2.2.1,mO (rs,all,((k+r.length:Nat):Int),v),s.2.2.2.2.2)]
 | [],k=>rfl
 | x::r,k=>by
  simp only[aDC,iS,DY rs v all s r,aCv];rw[show k+1+r.length=k+(r.length+1)by omega]
theorem Y5{rs:List bA}{v:bU}{o:List ao}(hr:af rs=true)(hv:v.2.1.length=o.length)(ho:o.length≤100)(hs:∀s∈o,br s.1=true∧s.1.length≤1000000):∀(r q:List ao),o=q++r→
  jT r (rs,v,iS rs v o q 0++r,q.length)=iS rs v o o 0∧jG r (rs,v,iS rs v o q 0++r,q.length)=true
 | [],q,hq=>by
  have e:q=o:=by rw[hq,aCM]
  subst e;simp only[jT,jG,aCM,and_self]
 | s::r,q,hq=>by
  obtain⟨i1,i2⟩:=Y5 hr hv ho hs r (q++[s]) (by rw[hq];simp);have hf:(iS rs v o q 0++s::r).map (·.1)=o.map (·.1):=by rw[aEB,Bt,hq,aEB]
  have ho2:∀i:Int,mO (rs,iS rs v o q 0++s::r,i,v)=mO (rs,o,i,v):=fun i=>Nj hf
  have aib:(iS rs v o q 0++s::r).set (Int.toNat ((q.length:Nat):Int)) (s.1,s.2.1,s.2.2.1,s.2.2.2.1,mO (rs,o,((q.length:Nat):Int),v),s.2.2.2.2.2)=iS rs v o (q++[s]) 0++r:=by
   rw[aC8,As (by rw[vf]),DY,aC0];simp
  have el:(q++[s]).length=q.length+1:=by simp
  have hl:o.length=q.length+(r.length+1):=by rw[hq];simp
  rw[el,← aib]at i1 i2;have hP:J5 (rs,iS rs v o q 0++s::r,((q.length:Nat):Int),v)=true:=by
   simp only[J5,hr,aCu,aCs,aCy];have hlen:(iS rs v o q 0++s::r).length=o.length:=by rw[aCp,vf,hl];simp
   refine⟨by omega,by omega,by rw[hlen];exact hv,by omega,aCG.2 fun x hx=>?_⟩;have:x.1∈o.map (·.1):=by rw[← hf];exact aCN.2 ⟨x,hx,rfl⟩
   obtain⟨y,hy,he⟩:=aCN.1 this;have:=hs y hy;rw[he]at this;simp only[aCs,aCy];exact this
  simp only[jT,jG,hP,ho2,aCu];exact⟨i1,i2⟩
def n9(a:List bA×Int×List bz×bU):Bool:=lO a.2.2.1&&((a.2.2.1.all ux)&&(decide (a.2.1≤1000000)&&(af a.1&&decide (a.2.2.2.2.1.length≤100))))
def eC(a:List bA×Int×List bz×bU):List ao:=
 (fun o=>(fun o2=>iS a.1 a.2.2.2 o2 o2 0) (o.map (eY (bu o) (bc a.2.2.1) a.2.2.2.2.1))) (a.2.2.2.2.1.map (e9 a.2.1 a.2.2.1 (bc a.2.2.1)))
theorem lN(l:List bz)(h:lO l=true):(bc l).length≤100000:=by
 simp only[lO,aCs,aCy]at h;have key:∀(r:List bz) (o:List al),(∀x∈r,(nZ x).length≤1000)→(r.foldl (fun o r=>(nZ r).foldl (fun o m=>gM o m.2) o) o).length≤o.length+1000*r.length:=by
  intro r;induction r with
  | nil=>intro o _;simp
  | cons x r ih=>
   intro o hx;have h1:=Bu (nZ x) o;have h2:=hx x (aCK ..);have h3:=ih ((nZ x).foldl (fun o m=>gM o m.2) o) (fun y hy=>hx y (aCQ _ hy));simp only[aDH,aCv];omega
 have:=key l [] (fun x hx=>by have:=aCG.1 h.2 x hx;simpa using this);simp only[aCB]at this;show(bc l).length≤_;unfold bc;omega
theorem Fc{ai:Int}{ab:List bz}{d:List al}(hs:ai≤1000000)(hp:∀r∈ab,ux r=true)(c:Int):CU (e9 ai ab d c)=true:=by
 have hsw:∀(d:List al) (l:List ax),br l=true→br (iJ l d)=true∧(iJ l d).length=l.length:=by
  intro d;induction d with
  | nil=>intro l h;exact⟨h,rfl⟩
  | cons x d ih=>
   intro l h;obtain⟨h1,h2⟩:=ih (kI (l,x)).1 (ES x h);exact⟨h1,h2.trans (by simp[kI])⟩
 have hul:∀l:List ax,br l=true→br (l.map gG)=true:=fun l h=>rP (by simpa using dt h) fun s hs=>by
  obtain⟨x,hx,rfl⟩:=aCN.1 hs;have h2:af x.2.2.2.1=true:=eL h hx;exact h2
 by_cases h0:aL (fun q=>decide (q.1=c)) ab 0<0
 ·simp only[e9,aCm h0,aCn,CU,aCs,aCy]
  refine⟨rP (by simp;omega) fun s hs=>?_,by simp;omega,by simp⟩;rw[(aEN.1 hs).2];rfl
 ·have cg:aL (fun q:bz=>decide (q.1=c)) ab 0<0+(ab.length:Nat):=lJ _ ab 0 (Int.le_refl 0)
  have hm:=hp (ab.getD (aL (fun q=>decide (q.1=c)) ab 0).toNat zq5) (by
   rw[aDB,aCF (by omega)];exact aEU _)
  simp only[ux,aCs,aCy]at hm;obtain⟨h1,h2⟩:=hsw d _ hm.1;simp only[e9,aCz h0,aCq,CU,aCs,aCy];exact⟨hul _ h1,by rw[aDF,h2];exact hm.2.1,hm.2.2.2⟩
theorem Du:∀a,n9 a=true→GI a=true∧G8 a=eC a:=by
 rintro⟨rs,ai,ab,v⟩ h;simp only[n9,aCs,aCy]at h;obtain⟨h1,h2,h3,h4,h5⟩:=h;have h2:∀r∈ab,ux r=true:=aCG.1 h2;have hd:af (bc ab)=true:=aCm (by have:=lN ab h1;omega);have hr:ab.length≤100:=by simp only[lO,aCs,aCy]at h1;exact h1.1
 obtain⟨i1,i2⟩:=Y7 (rs:=rs) (v:=v) hd h3 hr h2 v.2.1 [] 0 (by simpa using h5);rw[aC1]at i1 i2;obtain⟨o,zm⟩:∃o,o=v.2.1.map (e9 ai ab (bc ab)):=⟨_,rfl⟩;rw[← zm]at i1 i2;have hol:o.length=v.2.1.length:=by rw[zm,aDF]
 have NF:∀s∈o,CU s=true:=fun s hs=>by
  rw[zm]at hs;obtain⟨c,_,rfl⟩:=aCN.1 hs;exact Fc h3 h2 c
 obtain⟨j1,j2⟩:=Y6 (rs:=rs) (v:=v) (o:=o) hd (aCm (by omega)) (by omega) NF o [] rfl;simp only[aDR,aC1,aCB]at j1 j2;obtain⟨k1,k2⟩:=Y5 (rs:=rs) (v:=v) (o:=o.map (eY (bu o) (bc ab) v.2.1)) h4 (by rw[aDF,hol]) (by rw[aDF];omega) (fun s hs=>by
  obtain⟨x,hx,rfl⟩:=aCN.1 hs;exact EV (NF x hx)) (o.map (eY (bu o) (bc ab) v.2.1)) [] rfl
 simp only[iS,aC1,aCB]at k1 k2;simp only[GI,G8];refine⟨?_,?_⟩
 ·rw[h1,i2 (j2 k2),aCm (show v.2.1.length≤1099511627776 by omega)];rfl
 ·rw[i1,j1,k1]
  simp only[eC,← zm]
theorem ann:∀a,n9 a=true→GI a=true:=fun a h=>(Du a h).1
theorem ano:∀a,n9 a=true→G8 a=eC a:=fun a h=>(Du a h).2
abbrev Y4:=bm T0 ann ano
noncomputable def Pr:db:=⟨36,[.rd dB,.c (.int .i64),.rd cV,.g eN],[.o 38 6 ba],fun a=>(n9:(List (bA))×Int×(List (bz))×bU→Bool) a,fun a=>(eC:(List (bA))×Int×(List (bz))×bU→(List (ao))) a⟩
theorem WN:Pr.Ok Tryz.prog:=eB (C:=Cu) (Lt:=kv) (rs:=[.tmp 8]) mixed ai7 Tryz.func36 rfl rfl rfl (by kernel_rfl) (by kernel_rfl) Y4
open Go.Proofs
def an3(n:Int):al:=(place (n,4),1+place (IntKind.i64.wrap (n.tdiv 4),20),0)
def ar4:List bA:=[(0,15,false),(32768,15,false)]
noncomputable def afS:cR:=⟨Tryz.prog,[],dn [],4,[],[],[],[]⟩
theorem ai9:bp Tryz.prog [] [] []:=aD
def Si:Nat→LD:=ej []
noncomputable def adH(f:Nat)(a:Unit):Option ((List (bA))):=(aG (afS) Si (aQ Tryz.prog [.tmp 0] [.v (.sl dB)]) f [.code (aC Tryz.f13)] (aV [] a):Option (aA [.v (.sl dB)]))
theorem VZ(f:Nat):adH (f+1) () =
  some [(0,15,false),(32768,15,false)]:=by kernel_rfl
noncomputable def aeJ:Unit→(List (bA))
 | ()=>[(0,15,false),(32768,15,false)]
noncomputable def acH:Unit→Bool
 | ()=>true
theorem T2:∀a:Unit,cj (fun f=>adH f a) (acH a) (aeJ a)
 | ()=>ah (fun f=>VZ f) ae
theorem anr:∀a:Unit,(fun _=>true) a=true→acH a=true:=fun _ _=>rfl
theorem ans:∀a:Unit,(fun _=>true) a=true→aeJ a=ar4:=fun _ _=>rfl
abbrev Zf:=bm T2 anr ans
noncomputable def Pt:db:=⟨13,[],[.v (.sl dB)],fun a=>(fun _=>true:Unit→Bool) a,fun a=>(fun _=>ar4:Unit→(List (bA))) a⟩
theorem WQ:Pt.Ok Tryz.prog:=eB (C:=afS) (Lt:=Si) (rs:=[.tmp 0]) mixed ai9 Tryz.func13 rfl rfl rfl (by kernel_rfl) (by kernel_rfl) Zf
def avE(a:List Int×dX):bn:=avF (an3 (CJ (a.1,0))) (1+place (CJ (a.1,3),6),place (CJ (a.1,4),8),place (CJ (a.1,5),8),place (CJ (a.1,6),4),place (CJ (a.1,7),8),1+place (CJ (a.1,8),6),12+place (CJ (a.1,9),3),place (CJ (a.1,10),2),place (CJ (a.1,11),8)*4096,1+place (CJ (a.1,12),3),CJ (a.1,13),CJ (a.1,14)) (place (CJ (a.1,1),3)) ([32,39].getD (place (CJ (a.1,2),2)).toNat 0) (bif decide (place (CJ (a.1,3),6)=0)then z8 else a.2)
noncomputable def af7:cR:=⟨Tryz.prog,[wF,Cj],dn [],50,[],[(21,aW),(33,cc),(45,yP)],[],[]⟩
theorem apC:bp Tryz.prog [wF,Cj] [] []:=ak wE (ak EB (aD))
def GX:Nat→LD:=ej [(0,⟨[.rd 0 cV,.list 3 999 40 20 cV,.c 4 (.int .i64)],[],0⟩)]
noncomputable def alX(f:Nat)(a:(List (bz))):Option ((List (bz))):=(aG (af7) GX (aQ Tryz.prog [.tmp 2] [.v (.sl cV)]) f [.code (aC Tryz.f18)] (aV [.rd cV] a):Option (aA [.v (.sl cV)]))
noncomputable def zX(f:Nat)(x:(List (bz))×(List (bz))×Int):Option ((List (bz))):=(aG (af7) GX (aQ Tryz.prog [.tmp 2] [.v (.sl cV)]) f (aK Tryz.f18 0) ((GX 0).mk' x):Option (aA [.v (.sl cV)]))
theorem aea(f:Nat)(l:List (bz)):alX (f+1) l =
  bif decide (l.length*416≤140737488355328)then zX f (l,l,0)else none:=by kernel_rfl
theorem B9(f:Nat)(l:List (bz))(out:List (bz))(i:Int):zX (f+1) (l,out,i) =
  bif decide (i<(↑out.length:Int))then bif decide (0≤i)&&decide (i<(↑l.length:Int))then bif br (l.getD i.toNat zq5).2.2.2.2.1 then bif decide (0≤i)&&decide (i<(↑out.length:Int))then bif decide (0≤i)&&decide (i<(↑l.length:Int))then bif fN (l.getD i.toNat zq5).2.2.2.2.2.1 then bif decide (0≤i)&&decide (i<(↑(out.set i.toNat (bP (bP (bP (bP (ER (l.getD i.toNat zq5).2.2.2.2.1)))) (out.getD i.toNat zq5))).length:Int))then bif decide (0≤i)&&decide (i<(↑l.length:Int))then bif decide (List.length (l.getD i.toNat zq5).2.2.2.2.2.2.1*32≤140737488355328)then bif decide (0≤i)&&decide (i<(↑((out.set i.toNat (bP (bP (bP (bP (ER (l.getD i.toNat zq5).2.2.2.2.1)))) (out.getD i.toNat zq5))).set i.toNat (bP (bP (bP (bP (bP (ER (l.getD i.toNat zq5).2.2.2.2.2.1))))) ((out.set i.toNat (bP (bP (bP (bP (ER (l.getD i.toNat zq5).2.2.2.2.1)))) (out.getD i.toNat zq5))).getD i.toNat zq5))).length:Int))then zX f (l,((out.set i.toNat (bP (bP (bP (bP (ER (l.getD i.toNat zq5).2.2.2.2.1)))) (out.getD i.toNat zq5))).set i.toNat (bP (bP (bP (bP (bP (ER (l.getD i.toNat zq5).2.2.2.2.2.1))))) ((out.set i.toNat (bP (bP (bP (bP (ER (l.getD i.toNat zq5).2.2.2.2.1)))) (out.getD i.toNat zq5))).getD i.toNat zq5))).set i.toNat (bP (bP (bP (bP (bP (bP (ER (l.getD i.toNat zq5).2.2.2.2.2.2.1)))))) (((out.set i.toNat (bP (bP (bP (bP (ER (l.getD i.toNat zq5).2.2.2.2.1)))) (out.getD i.toNat zq5))).set i.toNat (bP (bP (bP (bP (bP (ER (l.getD i.toNat zq5).2.2.2.2.2.1))))) ((out.set i.toNat (bP (bP (bP (bP (ER (l.getD i.toNat zq5).2.2.2.2.1)))) (out.getD i.toNat zq5))).getD i.toNat zq5))).getD i.toNat zq5)),IntKind.i64.wrap (i+1))else none else none else none else none else none else none else none else none else none else some out:=by kernel_rfl
def FT(l:List bz):Bool:=decide (l.length≤100)&&l.all fun r=>br r.2.2.2.2.1&&(fN r.2.2.2.2.2.1&&decide ((nZ r).length≤1000))
theorem alp(l:List bz)(hl:l.length≤100)(hp:∀r∈l,br r.2.2.2.2.1=true∧fN r.2.2.2.2.2.1=true∧(nZ r).length≤1000):∀(r:List bz) (k:Nat),l.drop k=r→∃f,zX f (l,l,((k:Nat):Int))=some l
 | [],k,h=>⟨1,(B9 0 _ _ _).trans (by rw[bW (aY h)];rfl)⟩
 | u::r,k,h=>by
  have hk:=ag h;obtain⟨f,hf⟩:=alp l hl hp r (k+1) (aq h);obtain⟨h1,h2,h3⟩:=hp u (aCC (rV h));have h3:decide (List.length u.2.2.2.2.2.2.1*32≤140737488355328)=true:=aCm (by have:List.length u.2.2.2.2.2.2.1≤1000:=h3;omega);have e1:bP (bP (bP (bP (ER u.2.2.2.2.1)))) u=u:=rfl;have e2:bP (bP (bP (bP (bP (ER u.2.2.2.2.2.1))))) u=u:=rfl;have e3:bP (bP (bP (bP (bP (bP (ER u.2.2.2.2.2.2.1)))))) u=u:=rfl;refine⟨f+1,(B9 f _ _ _).trans ?_⟩;simp only[bl hk,cB,aI h,h1,h2,h3,e1,e2,e3,oL h,aCw,aCn];rw[aN (by omega) (by omega)];exact hf
theorem ajM:∀l:List bz,FT l=true→∃f,alX f l=some l:=fun l h=>by
 simp only[FT,aCs,aCy]at h;obtain⟨f,hf⟩:=alp l h.1 (fun r hr=>by have:=aCG.1 h.2 r hr;simp only[aCs,aCy]at this;exact this) l 0 rfl;refine⟨f+1,(aea f _).trans ?_⟩;rw[aCm (show l.length*416≤140737488355328 by omega)];exact hf
noncomputable def afy:db:=⟨18,[.rd cV],[.v (.sl cV)],fun a=>(FT:(List (bz))→Bool) a,fun a=>(fun l=>l:(List (bz))→(List (bz))) a⟩
theorem afx:afy.Ok Tryz.prog:=eB (C:=af7) (Lt:=GX) (rs:=[.tmp 2]) mixed apC Tryz.func18 rfl rfl rfl (by kernel_rfl) (by kernel_rfl) ajM
def eJ(a:Int×Int×List bz):ao:=bif decide (aL (fun q=>decide (q.1=a.1)) a.2.2 0<0)then(List.replicate (max a.2.1 0).toNat kF,[],[],[],[],[])
 else((a.2.2.getD (aL (fun q=>decide (q.1=a.1)) a.2.2 0).toNat zq5).2.2.2.2.1,(a.2.2.getD (aL (fun q=>decide (q.1=a.1)) a.2.2 0).toNat zq5).2.2.2.2.2.1,[],[],[],[])
def Tv(a:Int×Int×List bz):Bool:=decide (a.2.1≤1000000)&&(decide (a.2.2.length≤100)&&a.2.2.all ux)
