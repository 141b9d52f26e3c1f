/- AI. -/
import Derived.Test.YtfggefeflojnkaaGreatZn0
import Derived.Test.YtfggefeflojnkaaGreatRows
set_option linter.unusedSimpArgs false
set_option linter.unusedVariables false
open Go.IntKind (i64 u64)
namespace Go.AL
open Go.Proofs
noncomputable def agp:cX:=zC [adP,adt,Hn,adz,adI,R8,OI,ait,Hm,Hk,Hq,Hp] (dE [(4,([(1,[]),(2,[]),(5,[]),(0,[]),(3,[]),(4,[]),(6,[]),(7,[])],[(10,10),(28,34)])),(19,([(0,[]),(1,[]),(2,[]),(3,[]),(4,[]),(5,[]),(6,[]),(7,[])],[(72,79)])),(21,([(1,[]),(2,[]),(3,[]),(0,[]),(4,[]),(5,[]),(6,[])],[(18,18),(81,86)])),(22,([(0,[]),(1,[]),(2,[]),(3,[]),(4,[]),(5,[]),(6,[]),(7,[]),(8,[]),(9,[]),(10,[]),(11,[]),(12,[]),(13,[]),(14,[]),(15,[]),(16,[]),(17,[]),(18,[]),(19,[]),(20,[]),(21,[]),(22,[]),(23,[]),(24,[]),(25,[]),(26,[]),(27,[]),(28,[]),(29,[]),(30,[]),(31,[]),(32,[]),(33,[]),(34,[]),(35,[]),(36,[]),(37,[]),(38,[]),(39,[]),(40,[]),(41,[]),(42,[]),(43,[]),(44,[]),(45,[]),(46,[]),(47,[]),(48,[]),(49,[]),(50,[])],[(87,137)])),(24,([(0,[]),(1,[]),(2,[]),(3,[]),(4,[]),(5,[]),(6,[]),(7,[]),(8,[]),(9,[]),(10,[]),(11,[]),(12,[]),(13,[]),(14,[]),(15,[]),(16,[]),(17,[]),(18,[]),(19,[])],[(138,157)])),(31,([(0,[]),(1,[]),(2,[]),(3,[]),(5,[]),(6,[]),(7,[]),(4,[]),(8,[]),(9,[]),(10,[]),(11,[])],[(178,189)]))]) 198
theorem arz:jh Tryz.prog [adP,adt,Hn,adz,adI,R8,OI,ait,Hm,Hk,Hq,Hp] [] []:=ah adO (ah ads (ah E1 (ah ady (ah adH (ah LL (ah EZ (ah ais (ah OC (ah OB (ah E5 (ah E3 (aC))))))))))))
def aet:Nat→LD:=eO [(0,⟨[.box 9 9 30 3 Jp,.c 10 (.sl bl),.c 11 (zI),.c 12 (zI),.c 13 (zI)],[],0⟩),(2,⟨[.box 9 9 30 3 Jp,.c 10 (.sl bl),.c 11 (zI),.c 12 (zI),.c 13 (zI),.c 14 (zI)],[],0⟩),(4,⟨[.box 9 9 30 3 Jp,.c 10 (.sl bl),.c 11 (zI),.c 12 (zI),.c 13 (zI),.c 14 (zI),.box 15 15 69 13 aF,.c 16 (zI),.c 17 (zI)],[],0⟩),(6,⟨[.box 9 9 30 3 Jp,.c 10 (.sl bl),.c 11 (zI),.c 12 (zI),.c 13 (zI),.c 19 (zI)],[],0⟩)]
noncomputable def apD(f:Nat)(a:(List Int)×(List iz)×Int×Int):Option Bool:=aG agp aet (zK [.tmp 8] [.v .bool]) f [.code (aB Tryz.f6)] (aQ [.c (.sl [zI]),.c (.sl l7),.c zI,.c zI] a)
noncomputable def aeC(f:Nat)(x:jf×(List ay)×Int×Int×Int):Option Bool:=aG agp aet (zK [.tmp 8] [.v .bool]) f (aV Tryz.f6 0) ((aet 0).mk' x)
noncomputable def aey(f:Nat)(x:jf×(List ay)×Int×Int×Int×Int):Option Bool:=aG agp aet (zK [.tmp 8] [.v .bool]) f (aV Tryz.f6 2) ((aet 2).mk' x)
noncomputable def aeB(f:Nat)(x:jf×(List ay)×Int×Int×Int×Int×ag×Int×Int):Option Bool:=aG agp aet (zK [.tmp 8] [.v .bool]) f (aV Tryz.f6 4) ((aet 4).mk' x)
noncomputable def aes(f:Nat)(x:jf×(List ay)×Int×Int×Int×Int):Option Bool:=aG agp aet (zK [.tmp 8] [.v .bool]) f (aV Tryz.f6 6) ((aet 6).mk' x)
theorem aij(f:Nat)(l:List Int)(steps:List iz)(members:Int)(owner:Int):apD (f+1) (l,steps,members,owner) =
  bif decide ((↑l.length:Int)>100)then some true else bif NM (cY l (aD steps))then bif Go.Proofs.FV (ub,12,cY l (aD steps),lq (members,owner))then bif(↑(gi (ub,12,cY l (aD steps),lq (members,owner))).length:Int) != (↑(List.length (lq (members,owner)).2.1):Int)then some false else aeC f (lq (members,owner),gi (ub,12,cY l (aD steps),lq (members,owner)),0,0,0)else none else none:=by kernel_rfl
theorem af5(f:Nat)(v:jf)(out:List ay)(n:Int)(m:Int)(i:Int):aeC (f+1) (v,out,n,m,i) =
  bif decide (i<(↑out.length:Int))then aey f (v,out,n,m,i,0)else bif n == m then some true else some false:=by kernel_rfl
theorem afP(f:Nat)(v:jf)(out:List ay)(n:Int)(m:Int)(i:Int)(k:Int):aey (f+1) (v,out,n,m,i,k) =
  bif decide (0≤i)&&decide (i<(↑out.length:Int))then bif decide (k<(↑(List.length (out.getD i.toNat ([],[],[],[],[],[])).2.2.2.2.1):Int))then bif decide (0≤i)&&decide (i<(↑out.length:Int))then bif decide (0≤k)&&decide (k<(↑(List.length (out.getD i.toNat ([],[],[],[],[],[])).2.2.2.2.1):Int))then aeB f (v,out,n,m,i,k,List.getD (out.getD i.toNat ([],[],[],[],[],[])).2.2.2.2.1 k.toNat zq1,-1,0)else none else none else aes f (v,out,n,m,i,0)else none:=by kernel_rfl
theorem afM(f:Nat)(v:jf)(out:List ay)(n:Int)(m:Int)(i:Int)(k:Int)(e:ag)(at0:Int)(j:Int):aeB (f+1) (v,out,n,m,i,k,e,at0,j) =
  bif decide (j<(↑(List.length v.2.1):Int))then bif decide (0≤j)&&decide (j<(↑(List.length v.2.1):Int))then bif List.getD v.2.1 j.toNat 0 == e.1 then aeB f (v,out,n,m,i,k,e,j,i64.wrap (j+1))else aeB f (v,out,n,m,i,k,e,at0,i64.wrap (j+1))else none else bif decide (at0<0)then some false else bif decide (rgI ub (e.2.2.2.2.2.2.2.1,e.2.2.2.2.2.2.2.2.1)<0)then some false else bif decide (0≤rgI ub (e.2.2.2.2.2.2.2.1,e.2.2.2.2.2.2.2.2.1))&&decide (rgI ub (e.2.2.2.2.2.2.2.1,e.2.2.2.2.2.2.2.2.1)<(↑(List.length v.2.2):Int))then bif decide (0≤i)&&decide (i<(↑(List.length v.2.1):Int))then bif List.getD v.2.2 (rgI ub (e.2.2.2.2.2.2.2.1,e.2.2.2.2.2.2.2.2.1)).toNat 0 != List.getD v.2.1 i.toNat 0 then some false else bif decide (e.2.1<0)then some false else bif decide (0≤at0)&&decide (at0<(↑out.length:Int))then bif decide (e.2.1≥(↑(List.length (out.getD at0.toNat ([],[],[],[],[],[])).1):Int))then some false else bif decide (0≤at0)&&decide (at0<(↑out.length:Int))then bif decide (0≤e.2.1)&&decide (e.2.1<(↑(List.length (out.getD at0.toNat ([],[],[],[],[],[])).1):Int))then bif af (List.getD (out.getD at0.toNat ([],[],[],[],[],[])).1 (Int.toNat e.2.1) zq2).2.2.2.1 then bif !decide (((List.getD (out.getD at0.toNat ([],[],[],[],[],[])).1 (Int.toNat e.2.1) zq2).1,(List.getD (out.getD at0.toNat ([],[],[],[],[],[])).1 (Int.toNat e.2.1) zq2).2.1,(List.getD (out.getD at0.toNat ([],[],[],[],[],[])).1 (Int.toNat e.2.1) zq2).2.2.1,(List.getD (out.getD at0.toNat ([],[],[],[],[],[])).1 (Int.toNat e.2.1) zq2).2.2.2.1,(List.getD (out.getD at0.toNat ([],[],[],[],[],[])).1 (Int.toNat e.2.1) zq2).2.2.2.2.1,(List.getD (out.getD at0.toNat ([],[],[],[],[],[])).1 (Int.toNat e.2.1) zq2).2.2.2.2.2.1,(List.getD (out.getD at0.toNat ([],[],[],[],[],[])).1 (Int.toNat e.2.1) zq2).2.2.2.2.2.2.1,(List.getD (out.getD at0.toNat ([],[],[],[],[],[])).1 (Int.toNat e.2.1) zq2).2.2.2.2.2.2.2.1,(List.getD (out.getD at0.toNat ([],[],[],[],[],[])).1 (Int.toNat e.2.1) zq2).2.2.2.2.2.2.2.2.1,(List.getD (out.getD at0.toNat ([],[],[],[],[],[])).1 (Int.toNat e.2.1) zq2).2.2.2.2.2.2.2.2.2.1,(List.getD (out.getD at0.toNat ([],[],[],[],[],[])).1 (Int.toNat e.2.1) zq2).2.2.2.2.2.2.2.2.2.2.1)=e.2.2)then some false else bif decide (k>0)then bif decide (0≤i)&&decide (i<(↑out.length:Int))then bif decide (0≤i64.wrap (k-1))&&decide (i64.wrap (k-1)<(↑(List.length (out.getD i.toNat ([],[],[],[],[],[])).2.2.2.2.1):Int))then bif !cw (((List.getD (out.getD i.toNat ([],[],[],[],[],[])).2.2.2.2.1 (i64.wrap (k-1)).toNat zq1).2.2.1,(List.getD (out.getD i.toNat ([],[],[],[],[],[])).2.2.2.2.1 (i64.wrap (k-1)).toNat zq1).2.2.2.1,(List.getD (out.getD i.toNat ([],[],[],[],[],[])).2.2.2.2.1 (i64.wrap (k-1)).toNat zq1).2.2.2.2.1),e.2.2.1,e.2.2.2.1,e.2.2.2.2.1)then some false else aey f (v,out,i64.wrap (n+1),m,i,i64.wrap (k+1))else none else none else aey f (v,out,i64.wrap (n+1),m,i,i64.wrap (k+1))else none else none else none else none else none else none:=by kernel_rfl
theorem afE(f:Nat)(v:jf)(out:List ay)(n:Int)(m:Int)(i:Int)(k:Int):aes (f+1) (v,out,n,m,i,k) =
  bif decide (0≤i)&&decide (i<(↑out.length:Int))then bif decide (k<(↑(List.length (out.getD i.toNat ([],[],[],[],[],[])).1):Int))then bif decide (0≤i)&&decide (i<(↑out.length:Int))then bif decide (0≤k)&&decide (k<(↑(List.length (out.getD i.toNat ([],[],[],[],[],[])).1):Int))then bif !cB (List.getD (out.getD i.toNat ([],[],[],[],[],[])).1 k.toNat zq2)then bif decide (rgI ub ((List.getD (out.getD i.toNat ([],[],[],[],[],[])).1 k.toNat zq2).2.2.2.2.2.1,(List.getD (out.getD i.toNat ([],[],[],[],[],[])).1 k.toNat zq2).2.2.2.2.2.2.1)≥0)then aes f (v,out,n,i64.wrap (m+1),i,i64.wrap (k+1))else aes f (v,out,n,m,i,i64.wrap (k+1))else aes f (v,out,n,m,i,i64.wrap (k+1))else none else none else aeC f (v,out,n,m,i64.wrap (i+1))else none:=by kernel_rfl
structure aio (v:jf) (out:List ay) (i:Nat) (e:ag) (a:Nat):Prop where
 nd:v.2.1.Nodup
 c:v.2.1[a]? = some e.1
 al:a<out.length
 r0:0≤rgI ub (iK e)
 r1:rgI ub (iK e)<(v.2.2.length:Nat)
 il:i<v.2.1.length
 ow:v.2.2.getD (rgI ub (iK e)).toNat 0=v.2.1.getD i 0
 s:∃(j:Nat) (x:aL),e.2.1=(j:Int)∧(out.getD a ([],[],[],[],[],[])).1[j]? = some x∧snd x=e.2.2∧af x.2.2.2.1=true
theorem asg{l:List Int}(hl:l.Nodup){a j:Nat}{c:Int}(ha:l[a]? = some c)(hj:j<l.length):(l.getD j 0 == c)=decide (j=a):=by
 have h1:l.getD j 0=l[j]:=by rw[aAm,azS hj];rfl
 obtain⟨h2,h3⟩:=azR.1 ha;rw[h1,xm];by_cases h:j=a
 ·subst h;rw[azC h3,azC rfl]
 ·rw[azK ?_,azK h]
  intro e;rcases Nat.lt_or_gt_of_ne h with h4 | h4
  ·exact List.pairwise_iff_getElem.1 hl j a hj h2 h4 (e.trans h3.symm)
  ·exact List.pairwise_iff_getElem.1 hl a j h2 hj h4 (h3.trans e.symm)
theorem anN{v:jf}{out:List ay}{n m:Int}{i k:Nat}{e:ag}{a:Nat}(h:aio v out i e a)(hv:v.2.1.length≤8)(hi:i<out.length){t:ay}(ht:out.getD i ([],[],[],[],[],[])=t)(hk:k<t.2.2.2.2.1.length)(Dv:t.2.2.2.2.1.length≤1099511627776)(hn:i64.wrap (n+1)=n+1)
  (hs:0<k→cw (fv (t.2.2.2.2.1.getD (k-1) zq1),fv e)=true) (hK:∃f,aey f (v,out,n+1,m,((i:Nat):Int),((k+1:Nat):Int))=some true) :
  ∀(q j:Nat),j+q=v.2.1.length→∃f,aeB f (v,out,n,m,((i:Nat):Int),((k:Nat):Int),e,(bif decide (a<j)then((a:Nat):Int)else -1),((j:Nat):Int))=some true
 | 0,j,hj=>by
  obtain⟨f,hf⟩:=hK;obtain⟨jj,x,x1,x2,x3,x4⟩:=h.s;have hav:a<v.2.1.length:=(azR.1 h.c).1;have hjx:=(azR.1 x2).1;have gx:∀d,(out.getD a ([],[],[],[],[],[])).1.getD jj d=x:=fun d=>by rw[aAm,x2];rfl
  refine⟨f+1,(afM f _ _ _ _ _ _ _ _ _).trans ?_⟩;rw[azC (show a<j by omega),azH,azK (show ¬((j:Nat):Int)<((v.2.1.length:Nat):Int)by omega),azK (show ¬((a:Nat):Int)<0 by omega)];have r0:0≤rgI ub (e.2.2.2.2.2.2.2.1,e.2.2.2.2.2.2.2.2.1):=h.r0;have r1:rgI ub (e.2.2.2.2.2.2.2.1,e.2.2.2.2.2.2.2.2.1)<(v.2.2.length:Nat):=h.r1;have hb:∀z w:Int,z=w→(z != w)=false:=fun z w e=>by rw[e];simp
  rw[azK (show ¬rgI ub (e.2.2.2.2.2.2.2.1,e.2.2.2.2.2.2.2.2.1)<0 by omega),azC r0,azC r1,azC (show(0:Int)≤((i:Nat):Int)by omega),azC (show((i:Nat):Int)<((v.2.1.length:Nat):Int)by have:=h.il;omega)];simp only[azH,azI,azQ,aAn];rw[hb (v.2.2.getD (rgI ub (e.2.2.2.2.2.2.2.1,e.2.2.2.2.2.2.2.2.1)).toNat 0) (v.2.1.getD i 0) h.ow];rw[x1,azK (show ¬((jj:Nat):Int)<0 by omega),azC (show(0:Int)≤((a:Nat):Int)by omega),azC (show((a:Nat):Int)<((out.length:Nat):Int)by have:=h.al;omega),azC (show(0:Int)≤((jj:Nat):Int)by omega)];simp only[azH,azI,azQ,aAn,gx];rw[azK (show ¬((jj:Nat):Int)≥(((out.getD a ([],[],[],[],[],[])).1.length:Nat):Int)by omega),azC (show((jj:Nat):Int)<(((out.getD a ([],[],[],[],[],[])).1.length:Nat):Int)by omega),x4];have x5:decide ((x.1,x.2.1,x.2.2.1,x.2.2.2.1,x.2.2.2.2.1,x.2.2.2.2.2.1,x.2.2.2.2.2.2.1,x.2.2.2.2.2.2.2.1,x.2.2.2.2.2.2.2.2.1,x.2.2.2.2.2.2.2.2.2.1,x.2.2.2.2.2.2.2.2.2.2.1)=e.2.2)=true:=azC x3;simp only[azH,azI,x5,aBr];by_cases Kl:0<k
  ·have hw:i64.wrap (((k:Nat):Int)-1)=((k-1:Nat):Int):=by rw[az (by omega) (by omega)];omega
   rw[azC (show((k:Nat):Int)>0 by omega),azC (show((i:Nat):Int)<((out.length:Nat):Int)by omega),hw];simp only[ht,aAn];rw[azC (show(0:Int)≤((k-1:Nat):Int)by omega),azC (show((k-1:Nat):Int)<((t.2.2.2.2.1.length:Nat):Int)by omega),hn,az (n:=((k:Nat):Int)+1) (by omega) (by omega)];simp only[azH,azQ];have hl:=hs Kl;exact(azT (fun c=>bif !c then _ else _) hl).trans hf
  ·rw[azK (show ¬((k:Nat):Int)>0 by omega),hn,az (n:=((k:Nat):Int)+1) (by omega) (by omega)]
   exact hf
 | q+1,j,hj=>by
  obtain⟨f,hf⟩:=anN h hv hi ht hk Dv hn hs hK q (j+1) (by omega);refine⟨f+1,(afM f _ _ _ _ _ _ _ _ _).trans ?_⟩;rw[azC (show((j:Nat):Int)<((v.2.1.length:Nat):Int)by omega),azC (show(0:Int)≤((j:Nat):Int)by omega),az (n:=((j:Nat):Int)+1) (by omega) (by omega)];simp only[azH,azQ,aAn];rw[asg h.nd h.c (by omega)];by_cases hja:j=a
  ·subst hja
   rw[azC (show j<j+1 by omega)]at hf;rw[azC (rfl:j=j)];exact hf
  ·rw[show decide (a<j+1)=decide (a<j)by by_cases h2:a<j<;>simp[h2]<;>omega]at hf
   rw[azK hja];exact hf
theorem anM{v:jf}{out:List ay}{n:Int}{i:Nat}{t:ay}(hi:i<out.length)(hl8:out.length≤8)(ht:out.getD i ([],[],[],[],[],[])=t):∀(r:List aL) (k m:Nat),t.1.drop k=r→t.1.length≤1000000→m+r.length≤1099511627776→
  (∃f,aeC f (v,out,n,((m+(r.filter (aeu ub)).length:Nat):Int),((i+1:Nat):Int))=some true)→∃f,aes f (v,out,n,((m:Nat):Int),((i:Nat):Int),((k:Nat):Int))=some true
 | [],k,m,hd,h1,h2,⟨f,hf⟩=>by
  refine⟨f+1,(afE f _ _ _ _ _ _).trans ?_⟩;have:=bT hd;rw[azC (show(0:Int)≤((i:Nat):Int)by omega),azC (show((i:Nat):Int)<((out.length:Nat):Int)by omega)];simp only[azH,azQ,aAn,ht];rw[azK (show ¬((k:Nat):Int)<((t.1.length:Nat):Int)by omega),az (n:=((i:Nat):Int)+1) (by omega) (by omega)];exact hf
 | u::r,k,m,hd,h1,h2,hK=>by
  have hk:=ak hd;have gu:∀d,t.1.getD k d=u:=fun d=>by rw[aAm,rn hd];rfl
  simp only[azL]at h2;have ih:=anM (v:=v) (n:=n) hi hl8 ht r (k+1);have base:∀f,aes (f+1) (v,out,n,((m:Nat):Int),((i:Nat):Int),((k:Nat):Int))=bif aeu ub u then aes f (v,out,n,((m+1:Nat):Int),((i:Nat):Int),((k+1:Nat):Int))else aes f (v,out,n,((m:Nat):Int),((i:Nat):Int),((k+1:Nat):Int)):=fun f=>by
   refine(afE f _ _ _ _ _ _).trans ?_;rw[azC (show(0:Int)≤((i:Nat):Int)by omega),azC (show((i:Nat):Int)<((out.length:Nat):Int)by omega)];simp only[azH,azQ,aAn,ht,gu];rw[azC (show((k:Nat):Int)<((t.1.length:Nat):Int)by omega),azC (show(0:Int)≤((k:Nat):Int)by omega),az (n:=((k:Nat):Int)+1) (by omega) (by omega),az (n:=((m:Nat):Int)+1) (by omega) (by omega)];unfold aeu;cases cB u with
   | true=>rfl
   | false=>
    show(bif decide (rgI ub ((snd u).2.2.2.2.2.1,(snd u).2.2.2.2.2.2.1)≥0)then _ else _)=(bif decide (0≤rgI ub ((snd u).2.2.2.2.2.1,(snd u).2.2.2.2.2.2.1))then _ else _);rfl
  cases hb:aeu ub u with
  | true=>
   rw[aCp hb,azL]at hK;obtain⟨f,hf⟩:=ih (m+1) (aH hd) h1 (by omega) (by rw[show m+1+(r.filter (aeu ub)).length=m+((r.filter (aeu ub)).length+1)by omega];exact hK);exact⟨f+1,(base f).trans (by rw[hb];exact hf)⟩
  | false=>
   rw[aB7 (by rw[hb];simp)]at hK;obtain⟨f,hf⟩:=ih m (aH hd) h1 (by omega) hK;exact⟨f+1,(base f).trans (by rw[hb];exact hf)⟩
theorem anO{v:jf}{out:List ay}{m:Int}{i:Nat}{t:ay}(hv:v.2.1.length≤8)(hi:i<out.length)(ht:out.getD i ([],[],[],[],[],[])=t)(he:∀e∈t.2.2.2.2.1,∃a,aio v out i e a)(hp:t.2.2.2.2.1.Pairwise fun x y=>cw (fv x,fv y)=true):∀(r:List ag) (k n:Nat),t.2.2.2.2.1.drop k=r→t.2.2.2.2.1.length≤1099511627776→n+r.length≤109951162777600→
  (∃f,aes f (v,out,((n+r.length:Nat):Int),m,((i:Nat):Int),0)=some true)→∃f,aey f (v,out,((n:Nat):Int),m,((i:Nat):Int),((k:Nat):Int))=some true
 | [],k,n,hd,h1,h2,⟨f,hf⟩=>by
  refine⟨f+1,(afP f _ _ _ _ _ _).trans ?_⟩;have:=bT hd;rw[azC (show(0:Int)≤((i:Nat):Int)by omega),azC (show((i:Nat):Int)<((out.length:Nat):Int)by omega)];simp only[azH,azQ,aAn,ht];rw[azK (show ¬((k:Nat):Int)<((t.2.2.2.2.1.length:Nat):Int)by omega)];exact hf
 | u::r,k,n,hd,h1,h2,hK=>by
  have hk:=ak hd;have hu:=rn hd;have gu:∀d,t.2.2.2.2.1.getD k d=u:=fun d=>by rw[aAm,hu];rfl
  simp only[azL]at h2 hK;obtain⟨a,ha⟩:=he u (azO hu);have bO:0<k→cw (fv (t.2.2.2.2.1.getD (k-1) zq1),fv u)=true:=fun h0=>by
   have wV:k-1<t.2.2.2.2.1.length:=by omega
   have h3:=List.pairwise_iff_getElem.1 hp (k-1) k wV hk (by omega);rw[aAm,azS wV];rw[azS hk]at hu;rw[← az9 hu];exact h3
  have ih:=anO (m:=m) hv hi ht he hp r (k+1) (n+1) (aH hd) h1 (by omega) (by rw[show n+1+r.length=n+(r.length+1)by omega];exact hK);obtain⟨f,hf⟩:=anN (n:=((n:Nat):Int)) ha hv hi ht hk h1 (az (by omega) (by omega)) bO (by rw[show((n:Nat):Int)+1=((n+1:Nat):Int)by omega];exact ih) v.2.1.length 0 (by omega);refine⟨f+1,(afP f _ _ _ _ _ _).trans ?_⟩;rw[azC (show(0:Int)≤((i:Nat):Int)by omega),azC (show((i:Nat):Int)<((out.length:Nat):Int)by omega)];simp only[azH,azQ,aAn,ht,gu];rw[azC (show((k:Nat):Int)<((t.2.2.2.2.1.length:Nat):Int)by omega),azC (show(0:Int)≤((k:Nat):Int)by omega)];exact hf
theorem anP{v:jf}{out:List ay}(hv:v.2.1.length≤8)(hl:out.length≤8)(hb:∀t∈out,t.1.length≤1000000∧t.2.2.2.2.1.length≤1099511627776∧t.2.2.2.2.1.Pairwise fun x y=>cw (fv x,fv y)=true)
  (he:∀(i:Nat) (t:ay),out[i]? = some t→∀e∈t.2.2.2.2.1,∃a,aio v out i e a):∀(r:List ay) (i n m:Nat),out.drop i=r→n≤i*1099511627776→m≤i*1000000→n+(r.map fun t=>t.2.2.2.2.1.length).sum=m+(r.map fun t=>(t.1.filter (aeu ub)).length).sum→∃f,aeC f (v,out,((n:Nat):Int),((m:Nat):Int),((i:Nat):Int))=some true
 | [],i,n,m,hd,h1,h2,h=>by
  refine⟨1,(af5 0 _ _ _ _ _).trans ?_⟩;have:=bT hd;simp at h;rw[azK (show ¬((i:Nat):Int)<((out.length:Nat):Int)by omega),h];simp
 | t::r,i,n,m,hd,h1,h2,h=>by
  have hi:=ak hd;have ht:=rn hd;have gt:out.getD i ([],[],[],[],[],[])=t:=by rw[aAm,ht];rfl
  obtain⟨b1,b2,b3⟩:=hb t (azO ht);simp only[aAy,List.sum_cons]at h;have hfl:=aCk (aeu ub) t.1;have ih:=anP hv hl hb he r (i+1) (n+t.2.2.2.2.1.length) (m+(t.1.filter (aeu ub)).length) (aH hd) (by omega) (by omega) (by omega);have h6:=anM (v:=v) (n:=((n+t.2.2.2.2.1.length:Nat):Int)) hi hl gt t.1 0 m rfl b1 (by omega) ih;obtain⟨f,hf⟩:=anO (m:=((m:Nat):Int)) hv hi gt (he i t ht) b3 t.2.2.2.2.1 0 n rfl b2 (by omega) h6;refine⟨f+1,(af5 f _ _ _ _ _).trans ?_⟩;rw[azC (show((i:Nat):Int)<((out.length:Nat):Int)by omega)];exact hf
theorem ahS:∀a:List Int×List iz×Int×Int,∃f,apD f a=some true:=by
 rintro⟨l,steps,mb,ow⟩;obtain⟨p1,p2,p3⟩:=PX (L:=cY l (aD steps)) (by show 4≤8;omega) YC;have hmb:(lq (mb,ow)).2.1.length≤8:=Yz mb;have hm:=p3 12 (lq (mb,ow)) (by omega) hmb;have hlen:(gi (ub,12,cY l (aD steps),lq (mb,ow))).length=(lq (mb,ow)).2.1.length:=PA _;have aO:∀t∈gi (ub,12,cY l (aD steps),lq (mb,ow)),OkM t:=fun t ht=>by
  obtain⟨i,hi⟩:=aBW.1 ht;exact afu _ hm hi
 have hw:=agl mb ow;obtain⟨f,hf⟩:=anP (v:=lq (mb,ow)) (out:=gi (ub,12,cY l (aD steps),lq (mb,ow))) hmb (by omega)
  (fun t ht=>by
   obtain⟨i,hi⟩:=aBW.1 ht;have h1:=aO t ht;have h2:=h1.en;simp only[wL,azF,azM]at h2;exact⟨h1.len,h2.1,al7 l steps 12 mb ow hi⟩)
  (fun i t ht e he=>by
   obtain⟨h1,a,u,c,h2,h3,j,s,h4,h5,h6⟩:=(Xr (ub,12,cY l (aD steps),lq (mb,ow)) ht e).1 he;simp only[iG,azF,azM]at h1;have hu:(gi (ub,12,cY l (aD steps),lq (mb,ow))).getD a ([],[],[],[],[],[])=u:=by rw[aAm,h2];rfl
   have hs:=(aO u (azO h2)).sl;simp only[ct,azF,azU]at hs;have nB:=(azR.1 ht).1;refine⟨a,hw.1,by rw[h6];exact h3,(azR.1 h2).1,h1.1,h1.2.1,by rw[← hlen];exact nB,h1.2.2,j,s,by rw[h6],by rw[hu];exact h4,by rw[h6],hs.2 s (azO h4)⟩)
  _ 0 0 0 rfl (by omega) (by omega) (by rw[az8,az8];exact al5 l steps 12 mb ow)
 refine⟨f+1,(aij f l steps mb ow).trans ?_⟩;rw[p1,hm];cases decide (((l.length:Nat):Int)>100)with
 | true=>rfl
 | false=>
  simp only[azH,azI,hlen];have e:((((lq (mb,ow)).2.1.length:Nat):Int) != (((lq (mb,ow)).2.1.length:Nat):Int))=false:=by simp
  rw[e];exact hf
theorem al9:∀a:dA [.rd [zI],.rd l7,.c zI,.c zI],yD [.rd [zI],.rd l7,.c zI,.c zI] a→∀vs,bY [.rd [zI],.rd l7,.c zI,.c zI] a vs→EW Tryz.prog 6 vs (cf [.v .bool] (true:Bool)):=by
 suffices key:∀a:List Int×List iz×Int×Int,∀vs,bY [.rd [zI],.rd l7,.c zI,.c zI] a vs→EW Tryz.prog 6 vs (cf [.v .bool] (true:Bool))from fun a _=>key a
 rintro⟨l,s,x0,x1⟩ vs hv;obtain⟨v0,r0,rfl,⟨Pv,rfl,h0⟩,v1,r1,rfl,⟨DW,rfl,h1⟩,v2,r2,rfl,h2,v3,rfl,h3⟩:=(show ∃v0 r0,vs=v0::r0∧(∃rows,v0=.rd rows∧bD [zI] l rows)∧∃v1 r1,r0=v1::r1∧(∃rows,v1=.rd rows∧bD l7 s rows)∧∃v2 r2,r1=v2::r2∧lZ (.c zI) x0 v2∧∃v3,r2=[v3]∧lZ (.c zI) x1 v3 from hv);have hb:EW Tryz.prog 6 [.sl Pv,.sl DW,v2,v3] (cf [.v .bool] (true:Bool)):=(ahS (l,s,x0,x1)).elim fun f h=>iI (C:=agp) (Lt:=aet) (fn:=Tryz.f6) (rs:=[.tmp 8]) [.c (.sl [zI]),.c (.sl l7),.c zI,.c zI] [.v .bool] mixed arz Tryz.func6 rfl rfl rfl (by kernel_rfl) (by kernel_rfl) (a:=((l,s,x0,x1):List Int×List iz×Int×Int)) f h _ (⟨_,_,rfl,jv.2 (.inr ⟨Pv,rfl,h0⟩),_,_,rfl,jv.2 (.inr ⟨DW,rfl,h1⟩),_,_,rfl,h2,_,rfl,h3⟩:∃v0 r0,[V.sl Pv,V.sl DW,v2,v3]=v0::r0∧eM (.sl [zI]) l v0∧∃v1 r1,r0=v1::r1∧eM (.sl l7) s v1∧∃v2 r2,r1=v2::r2∧lZ (.c zI) x0 v2∧∃v3,r2=[v3]∧lZ (.c zI) x1 v3)
 exact hb.pur (Uy true) ⟨.inr ⟨Pv,rfl,rfl⟩,.inr ⟨DW,rfl,rfl⟩,.inl rfl,.inl rfl,trivial⟩
end Go.AL
namespace Go.Proofs.YtfggefeflojnkaaGreat
open Go.AL
theorem Tryz.own:ownKnob Tryz.prog.godebug=none:=by kernel_rfl
theorem Tryz.laidOut:laidOutB Tryz.prog=true:=by kernel_rfl
