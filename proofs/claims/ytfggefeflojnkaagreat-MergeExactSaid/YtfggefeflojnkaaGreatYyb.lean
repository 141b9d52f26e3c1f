/- AI. -/
import Derived.Test.YtfggefeflojnkaaGreatY9
import Derived.Test.YtfggefeflojnkaaGreatAxTwo
set_option linter.unusedSimpArgs false
open Go.IntKind (i64 u64)
namespace Go.AL
open Go.Proofs
noncomputable def tJ:cX:=zC [OP,ahB,gY,Hp,R9,adQ,adx,Hq] (dE [(6,([(0,[]),(1,[]),(2,[]),(3,[]),(4,[]),(5,[]),(6,[]),(7,[]),(8,[]),(9,[]),(10,[])],[(44,53)])),(8,([(0,[]),(1,[]),(2,[]),(3,[]),(4,[]),(5,[]),(6,[]),(7,[]),(8,[]),(9,[]),(10,[]),(11,[])],[(59,69)])),(13,([(0,[]),(1,[]),(2,[]),(3,[]),(4,[]),(5,[]),(6,[]),(7,[]),(8,[]),(9,[]),(10,[]),(11,[]),(12,[]),(13,[]),(14,[]),(15,[]),(16,[]),(17,[])],[(97,114)])),(14,([(0,[]),(1,[]),(3,[2]),(4,[2]),(2,[]),(5,[]),(6,[])],[(11,11),(115,120)])),(29,([(0,[]),(1,[]),(3,[]),(4,[]),(5,[2]),(6,[2]),(7,[2]),(2,[]),(8,[]),(9,[])],[(17,17),(179,187)]))]) 203
theorem agX:jh Tryz.prog [OP,ahB,gY,Hp,R9,adQ,adx,Hq] [] []:=ah VG (ah Hs (ah fk (ah E3 (ah LM (ah LP (ah adw (ah E5 (aC))))))))
def fL:Nat→LD:=eO [(0,⟨[.c 0 (.sl [zI]),.c 1 (.sl aF),.box 6 6 38 6 bl,.aaq 7 7 38 6 bl 0 999 64 15 [1,2,3,4,5],.c 8 (zI)],[],0⟩),(2,⟨[.c 0 (.sl [zI]),.c 1 (.sl aF),.box 6 6 38 6 bl,.yc 7 7 38 6 bl 1 999 56 28 2 998 82 4,.c 9 (zI)],[],0⟩),(4,⟨[.c 0 (.sl [zI]),.c 1 (.sl aF),.box 6 6 38 6 bl,.yc 7 7 38 6 bl 1 999 56 28 2 998 82 4,.c 12 (zI)],[],0⟩),(6,⟨[.c 0 (.sl [zI]),.c 1 (.sl aF),.box 6 6 38 6 bl,.yc 7 7 38 6 bl 1 999 56 28 2 998 82 4,.c 14 (zI)],[],0⟩),(8,⟨[.c 0 (.sl [zI]),.c 1 (.sl aF),.box 6 6 38 6 bl,.yc 7 7 38 6 bl 1 999 56 28 2 998 82 4,.c 16 (zI)],[],0⟩)]
noncomputable def abR(f:Nat)(a:(List Int)×(List ag)×Int):Option ay:=aG tJ fL (yC Tryz.prog [.cell 6 38] bl [(1,56,28),(2,82,4)]) f [.code (aB Tryz.f32)] (aQ [.c (.sl [zI]),.c (.sl aF),.c zI] a)
noncomputable def fj(f:Nat)(x:(List Int)×(List ag)×ay×ay×Int):Option ay:=aG tJ fL (yC Tryz.prog [.cell 6 38] bl [(1,56,28),(2,82,4)]) f (aV Tryz.f32 0) ((fL 0).mk' x)
noncomputable def eJ(f:Nat)(x:(List Int)×(List ag)×ay×ay×Int):Option ay:=aG tJ fL (yC Tryz.prog [.cell 6 38] bl [(1,56,28),(2,82,4)]) f (aV Tryz.f32 2) ((fL 2).mk' x)
noncomputable def jZ(f:Nat)(x:(List Int)×(List ag)×ay×ay×Int):Option ay:=aG tJ fL (yC Tryz.prog [.cell 6 38] bl [(1,56,28),(2,82,4)]) f (aV Tryz.f32 4) ((fL 4).mk' x)
noncomputable def qE(f:Nat)(x:(List Int)×(List ag)×ay×ay×Int):Option ay:=aG tJ fL (yC Tryz.prog [.cell 6 38] bl [(1,56,28),(2,82,4)]) f (aV Tryz.f32 6) ((fL 6).mk' x)
noncomputable def qD(f:Nat)(x:(List Int)×(List ag)×ay×ay×Int):Option ay:=aG tJ fL (yC Tryz.prog [.cell 6 38] bl [(1,56,28),(2,82,4)]) f (aV Tryz.f32 8) ((fL 8).mk' x)
theorem U7(f:Nat)(l:List Int)(fo:List ag)(core:Int):abR (f+1) (l,fo,core) =
  bif oE (fo,core)then fj f (l,fo,([],[],[],[],[],[]),(M4 (fo,core),[],[],[],[],[]),0)else none:=by kernel_rfl
theorem yu(f:Nat)(l:List Int)(f0:List ag)(x6 s:ay)(i:Int):fj (f+1) (l,f0,x6,s,i) =
  bif decide (i<(↑(List.length s.1):Int))then bif place (ba (l,i),5) == 4 then bif decide (0≤i)&&decide (i<(↑(List.length s.1):Int))then bif !cB (List.getD s.1 i.toNat zq2)then bif decide (0≤i)&&decide (i<(↑(List.length s.1):Int))then bif place (ba (l,i),7) == 6 then bif decide (0≤i)&&decide (i<(↑(List.set s.1 i.toNat (bG (bG (bG (bG (bG (bG (bG (bG (bG (bG (bG (upS (ga (i64.wrap ((ba (l,i)).tdiv 5)))))))))))))) (List.getD s.1 i.toNat zq2))).length:Int))then fj f (l,f0,x6,((List.set s.1 i.toNat (bG (bG (bG (bG (bG (bG (bG (bG (bG (bG (bG (upS (ga (i64.wrap ((ba (l,i)).tdiv 5)))))))))))))) (List.getD s.1 i.toNat zq2))).set i.toNat (bG (bG (bG (bG (bG (bG (bG (bG (bG (bG (bG (H7 (i64.wrap (1+place (i64.wrap ((ba (l,i)).tdiv 7),20)))))))))))))) ((List.set s.1 i.toNat (bG (bG (bG (bG (bG (bG (bG (bG (bG (bG (bG (upS (ga (i64.wrap ((ba (l,i)).tdiv 5)))))))))))))) (List.getD s.1 i.toNat zq2))).getD i.toNat zq2)),[],[],[],[],[]),i64.wrap (i+1))else none else fj f (l,f0,x6,(List.set s.1 i.toNat (bG (bG (bG (bG (bG (bG (bG (bG (bG (bG (bG (upS (ga (i64.wrap ((ba (l,i)).tdiv 5)))))))))))))) (List.getD s.1 i.toNat zq2)),[],[],[],[],[]),i64.wrap (i+1))else none else bif place (ba (l,i),7) == 6 then bif decide (0≤i)&&decide (i<(↑(List.length s.1):Int))then fj f (l,f0,x6,(List.set s.1 i.toNat (bG (bG (bG (bG (bG (bG (bG (bG (bG (bG (bG (H7 (i64.wrap (1+place (i64.wrap ((ba (l,i)).tdiv 7),20)))))))))))))) (List.getD s.1 i.toNat zq2)),[],[],[],[],[]),i64.wrap (i+1))else none else fj f (l,f0,x6,(s.1,[],[],[],[],[]),i64.wrap (i+1))else none else bif place (ba (l,i),7) == 6 then bif decide (0≤i)&&decide (i<(↑(List.length s.1):Int))then fj f (l,f0,x6,(List.set s.1 i.toNat (bG (bG (bG (bG (bG (bG (bG (bG (bG (bG (bG (H7 (i64.wrap (1+place (i64.wrap ((ba (l,i)).tdiv 7),20)))))))))))))) (List.getD s.1 i.toNat zq2)),[],[],[],[],[]),i64.wrap (i+1))else none else fj f (l,f0,x6,(s.1,[],[],[],[],[]),i64.wrap (i+1))else eJ f (l,f0,x6,(s.1,[],[],[],[],[]),0):=by kernel_rfl
theorem qF(f:Nat)(l:List Int)(f0:List ag)(x6 s:ay)(i:Int):eJ (f+1) (l,f0,x6,s,i) =
  bif decide (i<place (ba (l,12),3))then bif decide ((↑f0.length:Int)>0)then bif decide (0≤i64.wrap (13+i))then bif cP (ba (l,i),(↑f0.length:Int))then bif decide (0≤place (ba (l,i),(↑f0.length:Int)))&&decide (place (ba (l,i),(↑f0.length:Int))<(↑f0.length:Int))then bif af (f0.getD (place (ba (l,i),(↑f0.length:Int))).toNat zq1).2.2.2.2.2.1 then bif(↑(List.length s.2.1):Int) == 0 then bif decide (List.length s.2.1*240≤140737488355328)then bif decide ((List.length s.2.1+[wN (List.drop (i64.wrap (13+i)).toNat l,(f0.getD (place (ba (l,i),(↑f0.length:Int))).toNat zq1).2.2)].length)*240≤140737488355328)then eJ f (l,f0,x6,(s.1,s.2.1++[wN (List.drop (i64.wrap (13+i)).toNat l,(f0.getD (place (ba (l,i),(↑f0.length:Int))).toNat zq1).2.2)],s.2.2),i64.wrap (i+1))else none else none else bif decide (0≤i64.wrap ((↑(List.length s.2.1):Int)-1))&&decide (i64.wrap ((↑(List.length s.2.1):Int)-1)<(↑(List.length s.2.1):Int))then bif cw (((List.getD s.2.1 (i64.wrap ((↑(List.length s.2.1):Int)-1)).toNat zq3).1,(List.getD s.2.1 (i64.wrap ((↑(List.length s.2.1):Int)-1)).toNat zq3).2.1,(List.getD s.2.1 (i64.wrap ((↑(List.length s.2.1):Int)-1)).toNat zq3).2.2.1),(wN (List.drop (i64.wrap (13+i)).toNat l,(f0.getD (place (ba (l,i),(↑f0.length:Int))).toNat zq1).2.2)).1,(wN (List.drop (i64.wrap (13+i)).toNat l,(f0.getD (place (ba (l,i),(↑f0.length:Int))).toNat zq1).2.2)).2.1,(wN (List.drop (i64.wrap (13+i)).toNat l,(f0.getD (place (ba (l,i),(↑f0.length:Int))).toNat zq1).2.2)).2.2.1)then bif decide (List.length s.2.1*240≤140737488355328)then bif decide ((List.length s.2.1+[wN (List.drop (i64.wrap (13+i)).toNat l,(f0.getD (place (ba (l,i),(↑f0.length:Int))).toNat zq1).2.2)].length)*240≤140737488355328)then eJ f (l,f0,x6,(s.1,s.2.1++[wN (List.drop (i64.wrap (13+i)).toNat l,(f0.getD (place (ba (l,i),(↑f0.length:Int))).toNat zq1).2.2)],s.2.2),i64.wrap (i+1))else none else none else eJ f (l,f0,x6,s,i64.wrap (i+1))else none else none else none else none else none else jZ f (l,f0,x6,s,0)else jZ f (l,f0,x6,s,0):=by kernel_rfl
theorem yr(f:Nat)(l:List Int)(f0:List ag)(x6 s:ay)(i:Int):jZ (f+1) (l,f0,x6,s,i) =
  bif decide (i<place (ba (l,14),3))then bif decide (List.length s.2.2.1*32≤140737488355328)then bif decide ((List.length s.2.2.1+[(i,ga (ba (l,i64.wrap (15+i))))].length)*32≤140737488355328)then jZ f (l,f0,x6,(s.1,s.2.1,s.2.2.1++[(i,ga (ba (l,i64.wrap (15+i))))],s.2.2.2),i64.wrap (i+1))else none else none else qE f (l,f0,x6,s,0):=by kernel_rfl
theorem yq(f:Nat)(l:List Int)(f0:List ag)(x6 s:ay)(i:Int):qE (f+1) (l,f0,x6,s,i) =
  bif decide (i<place (ba (l,16),3))then bif decide (List.length s.2.2.2.1*16≤140737488355328)then bif decide ((List.length s.2.2.2.1+[(i64.wrap (i+1),place (ba (l,i64.wrap (17+i)),20))].length)*16≤140737488355328)then qE f (l,f0,x6,(s.1,s.2.1,s.2.2.1,s.2.2.2.1++[(i64.wrap (i+1),place (ba (l,i64.wrap (17+i)),20))],s.2.2.2.2),i64.wrap (i+1))else none else none else qD f (l,f0,x6,s,0):=by kernel_rfl
theorem qC(f:Nat)(l:List Int)(f0:List ag)(x6 s:ay)(i:Int):qD (f+1) (l,f0,x6,s,i) =
  bif decide (i<place (ba (l,18),3))then bif decide (i<(↑f0.length:Int))then bif decide (0≤i)&&decide (i<(↑f0.length:Int))then bif decide (List.length s.2.2.2.2.1*120≤140737488355328)then bif decide ((List.length s.2.2.2.2.1+[f0.getD i.toNat zq1].length)*120≤140737488355328)then bif decide (List.length s.2.2.2.2.2*24≤140737488355328)then bif decide ((List.length s.2.2.2.2.2+[ga (ba (l,i64.wrap (19+i)))].length)*24≤140737488355328)then qD f (l,f0,x6,(s.1,s.2.1,s.2.2.1,s.2.2.2.1,s.2.2.2.2.1++[f0.getD i.toNat zq1],s.2.2.2.2.2++[ga (ba (l,i64.wrap (19+i)))]),i64.wrap (i+1))else none else none else none else none else none else some s else some s:=by kernel_rfl
def m8e(fo:List ag):Nat→Nat→List ag→List ag
 | 0,_,q=>q
 | n+1,i,q=>bif decide (i<fo.length)then m8e fo n (i+1) (q++[fo.getD i zq1])else q
def m8c(l:List Int)(fo:List ag):Nat→Nat→List aj→List aj
 | 0,_,q=>q
 | n+1,i,q=>bif decide (i<fo.length)then m8c l fo n (i+1) (q++[ga (ba (l,((19+i:Nat):Int)))])else q
def m6(l:List Int):Nat→Nat→List dv→List dv
 | 0,_,q=>q
 | n+1,i,q=>m6 l n (i+1) (q++[(((i+1:Nat):Int),place (ba (l,((17+i:Nat):Int)),20))])
def m4(l:List Int):Nat→Nat→List tm→List tm
 | 0,_,q=>q
 | n+1,i,q=>m4 l n (i+1) (q++[(((i:Nat):Int),ga (ba (l,((15+i:Nat):Int))))])
def m2r(l:List Int)(fo:List ag)(i:Nat):bR:=wN (l.drop (13+i),(fo.getD (place (ba (l,((i:Nat):Int)),((fo.length:Nat):Int))).toNat zq1).2.2)
def m2b(q:List bR)(r:bR):Bool:=match q.getLast? with
 | none=>true
 | some z=>cw (tZ z,tZ r)
def m2(l:List Int)(fo:List ag):Nat→Nat→List bR→List bR
 | 0,_,q=>q
 | n+1,i,q=>bif decide (fo.length=0)then q else m2 l fo n (i+1) (bif m2b q (m2r l fo i)then q++[m2r l fo i]else q)
theorem Yf{l:List Int}{fo:List ag}{x:ay}:∀(n i:Nat) (s:ay),place (ba (l,18),3)=((n+i:Nat):Int)→i+n≤2→s.2.2.2.2.1.length+n≤100→s.2.2.2.2.2.length+n≤100→∃f,qD f (l,fo,x,s,((i:Nat):Int))=some (s.1,s.2.1,s.2.2.1,s.2.2.2.1,m8e fo n i s.2.2.2.2.1,m8c l fo n i s.2.2.2.2.2)
 | 0,i,s,h,h2,h3,h4=>⟨1,(qC 0 l fo x s _).trans (by rw[h,azK (show ¬((i:Nat):Int)<((0+i:Nat):Int)by omega)];rfl)⟩
 | n+1,i,s,h,h2,h3,h4=>by
  by_cases hi:i<fo.length
  ·obtain⟨f,hf⟩:=Yf n (i+1) (s.1,s.2.1,s.2.2.1,s.2.2.2.1,s.2.2.2.2.1++[fo.getD i zq1],s.2.2.2.2.2++[ga (ba (l,((19+i:Nat):Int)))]) (by rw[h];congr 1;omega) (by omega) (by simp;omega) (by simp;omega)
   refine⟨f+1,(qC f l fo x s _).trans ?_⟩;have w1:i64.wrap (((i:Nat):Int)+1)=((i+1:Nat):Int):=by grind[az]
   have w2:i64.wrap (19+((i:Nat):Int))=((19+i:Nat):Int):=by grind[az]
   rw[h,w1,w2,azC (show((i:Nat):Int)<((n+1+i:Nat):Int)by omega),azC (show((i:Nat):Int)<((fo.length:Nat):Int)by omega),azC (show(0:Int)≤((i:Nat):Int)by omega),azC (show s.2.2.2.2.1.length*120≤140737488355328 by omega),azC (show s.2.2.2.2.2.length*24≤140737488355328 by omega)];simp only[azL,az2,aAn];rw[azC (show(s.2.2.2.2.1.length+(0+1))*120≤140737488355328 by omega),azC (show(s.2.2.2.2.2.length+(0+1))*24≤140737488355328 by omega)];simp only[azH,azQ,m8e,m8c,azC hi];exact hf
  ·refine⟨1,(qC 0 l fo x s _).trans ?_⟩
   rw[h,azC (show((i:Nat):Int)<((n+1+i:Nat):Int)by omega),azK (show ¬((i:Nat):Int)<((fo.length:Nat):Int)by omega)];simp only[m8e,m8c,azK hi];rfl
theorem Yg{l:List Int}{fo:List ag}{x R:ay}:∀(n i:Nat) (s:ay),place (ba (l,16),3)=((n+i:Nat):Int)→i+n≤2→s.2.2.2.1.length+n≤100→(∃f,qD f (l,fo,x,(s.1,s.2.1,s.2.2.1,m6 l n i s.2.2.2.1,s.2.2.2.2),0)=some R)→∃f,qE f (l,fo,x,s,((i:Nat):Int))=some R
 | 0,i,s,h,h2,h3,⟨f,hf⟩=>⟨f+1,(yq f l fo x s _).trans (by rw[h,azK (show ¬((i:Nat):Int)<((0+i:Nat):Int)by omega)];exact hf)⟩
 | n+1,i,s,h,h2,h3,hf=>by
  obtain⟨f,hf⟩:=Yg n (i+1) (s.1,s.2.1,s.2.2.1,s.2.2.2.1++[(((i+1:Nat):Int),place (ba (l,((17+i:Nat):Int)),20))],s.2.2.2.2) (by grind) (by omega) (by simp;omega) hf;refine⟨f+1,(yq f l fo x s _).trans ?_⟩;have w1:i64.wrap (((i:Nat):Int)+1)=((i+1:Nat):Int):=by grind[az]
  have w2:i64.wrap (17+((i:Nat):Int))=((17+i:Nat):Int):=by grind[az]
  grind
theorem Yi{l:List Int}{fo:List ag}{x R:ay}:∀(n i:Nat) (s:ay),place (ba (l,14),3)=((n+i:Nat):Int)→i+n≤2→s.2.2.1.length+n≤100→(∃f,qE f (l,fo,x,(s.1,s.2.1,m4 l n i s.2.2.1,s.2.2.2),0)=some R)→∃f,jZ f (l,fo,x,s,((i:Nat):Int))=some R
 | 0,i,s,h,h2,h3,⟨f,hf⟩=>⟨f+1,(yr f l fo x s _).trans (by rw[h,azK (show ¬((i:Nat):Int)<((0+i:Nat):Int)by omega)];exact hf)⟩
 | n+1,i,s,h,h2,h3,hf=>by
  obtain⟨f,hf⟩:=Yi n (i+1) (s.1,s.2.1,s.2.2.1++[(((i:Nat):Int),ga (ba (l,((15+i:Nat):Int))))],s.2.2.2) (by grind) (by omega) (by simp;omega) hf;refine⟨f+1,(yr f l fo x s _).trans ?_⟩;have w1:i64.wrap (((i:Nat):Int)+1)=((i+1:Nat):Int):=by grind[az]
  have w2:i64.wrap (15+((i:Nat):Int))=((15+i:Nat):Int):=by grind[az]
  grind
theorem Yj{l:List Int}{fo:List ag}{x R:ay}(hfl:fo.length≤1000000)(hfc:∀e∈fo,af e.2.2.2.2.2.1=true):∀(n i:Nat) (s:ay),place (ba (l,12),3)=((n+i:Nat):Int)→i+n≤2→s.2.1.length+n≤100→(∃f,jZ f (l,fo,x,(s.1,m2 l fo n i s.2.1,s.2.2),0)=some R)→∃f,eJ f (l,fo,x,s,((i:Nat):Int))=some R
 | 0,i,s,h,h2,h3,⟨f,hf⟩=>⟨f+1,(qF f l fo x s _).trans (by rw[h,azK (show ¬((i:Nat):Int)<((0+i:Nat):Int)by omega)];exact hf)⟩
 | n+1,i,s,h,h2,h3,hf=>by
  by_cases hz:fo.length=0
  ·obtain⟨f,hf⟩:=hf
   refine⟨f+1,(qF f l fo x s _).trans ?_⟩;rw[h,azC (show((i:Nat):Int)<((n+1+i:Nat):Int)by omega),azK (show ¬((fo.length:Nat):Int)>0 by omega)];simp only[m2,azC hz]at hf;exact hf
  ·simp only[m2,azK hz,azI]at hf
   have e2:place (ba (l,12),3)=((n+(i+1):Nat):Int):=by grind
   have ih:∀q:List bR,q.length+n≤100→(∃f,jZ f (l,fo,x,(s.1,m2 l fo n (i+1) q,s.2.2),0)=some R)→∃f,eJ f (l,fo,x,(s.1,q,s.2.2),((i+1:Nat):Int))=some R:=fun q hq hf=>Yj hfl hfc n (i+1) (s.1,q,s.2.2) e2 (by omega) hq hf
   have w1:i64.wrap (((i:Nat):Int)+1)=((i+1:Nat):Int):=by grind[az]
   have w2:i64.wrap (13+((i:Nat):Int))=((13+i:Nat):Int):=by grind[az]
   obtain⟨g1,g2⟩:=cT (ba (l,((i:Nat):Int))) (s:=((fo.length:Nat):Int)) (by omega);have g3:af (fo.getD (place (ba (l,((i:Nat):Int)),((fo.length:Nat):Int))).toNat zq1).2.2.2.2.2.1=true:=by
    grind
   have base:∀f,eJ (f+1) (l,fo,x,s,((i:Nat):Int))=(bif m2b s.2.1 (m2r l fo i)then eJ f (l,fo,x,(s.1,s.2.1++[m2r l fo i],s.2.2),((i+1:Nat):Int))else eJ f (l,fo,x,s,((i+1:Nat):Int))):=fun f=>by
    refine(qF f l fo x s _).trans ?_;rw[h,w1,w2,azC (show((i:Nat):Int)<((n+1+i:Nat):Int)by omega),azC (show((fo.length:Nat):Int)>0 by omega),azC (show(0:Int)≤((13+i:Nat):Int)by omega),show cP (ba (l,((i:Nat):Int)),((fo.length:Nat):Int))=true from azC (show((fo.length:Nat):Int)≤4611686018427387904 by omega),azC g1,azC g2,g3,azC (show s.2.1.length*240≤140737488355328 by omega)];simp only[azL,az2,azH,azQ,aAn];rw[azC (show(s.2.1.length+(0+1))*240≤140737488355328 by omega)];by_cases hq:s.2.1=[]
    ·rw[hq];rfl
    ·have hp:0<s.2.1.length:=List.length_pos_iff.2 hq
     have w3:i64.wrap (((s.2.1.length:Nat):Int)-1)=((s.2.1.length-1:Nat):Int):=by grind[az]
     obtain⟨z,z1,z2⟩:=Eo (d:=(zq3:bR)) hq;rw[w3,show((((s.2.1.length:Nat):Int)) == 0)=false by rw[xm];exact azK (by omega),azC (show(0:Int)≤((s.2.1.length-1:Nat):Int)by omega),azC (show((s.2.1.length-1:Nat):Int)<((s.2.1.length:Nat):Int)by omega)];simp only[aAn,azH,azI,azQ,z2];unfold m2b;rw[z1];rfl
   cases hb:m2b s.2.1 (m2r l fo i)with
   | true=>
    rw[hb]at hf;obtain⟨f,hf⟩:=ih _ (by simp;omega) hf;grind
   | false=>
    rw[hb]at hf;grind
def asC(v:aj)(u:aL):aL:=bG (bG (bG (bG (bG (bG (bG (bG (bG (bG (bG (upS v))))))))))) u
def asB(v:Int)(u:aL):aL:=bG (bG (bG (bG (bG (bG (bG (bG (bG (bG (bG (H7 v))))))))))) u
def m0k(l:List Int)(i:Nat)(u:aL):aL:=bif(place (ba (l,((i:Nat):Int)),5) == 4)&&!cB u then asC (ga (i64.wrap ((ba (l,((i:Nat):Int))).tdiv 5))) u else u
def m0u(l:List Int)(i:Nat)(u:aL):aL:=bif place (ba (l,((i:Nat):Int)),7) == 6 then asB (i64.wrap (1+place (i64.wrap ((ba (l,((i:Nat):Int))).tdiv 7),20))) (m0k l i u)else m0k l i u
def m0(l:List Int):Nat→List aL→List aL
 | _,[]=>[]
 | i,u::r=>m0u l i u::m0 l (i+1) r
theorem apS{α:Type}(p q:List α)(u v:α):(p++u::q).set p.length v=p++v::q:=by simp
theorem apG{α:Type}(p q:List α)(u d:α):(p++u::q).getD p.length d=u:=by simp[aAm]
abbrev zt:List bR×List tm×List dv×List ag×List aj:=([],[],[],[],[])
theorem Yk{l:List Int}{fo:List ag}{x R:ay}:∀(q p:List aL),p.length+q.length≤100→(∃f,eJ f (l,fo,x,(p++m0 l p.length q,zt),0)=some R)→∃f,fj f (l,fo,x,(p++q,zt),((p.length:Nat):Int))=some R
 | [],p,h,⟨f,hf⟩=>⟨f+1,(yu f l fo x (p++[],zt) _).trans (by
   rw[azK (show ¬((p.length:Nat):Int)<(((p++([]:List aL)).length:Nat):Int)by simp)];exact hf)⟩
 | u::q,p,h,hf=>by
  have w1:i64.wrap (((p.length:Nat):Int)+1)=((p.length+1:Nat):Int):=by grind[az]
  have hl:∀v:aL,decide (((p.length:Nat):Int)<(((p++v::q).length:Nat):Int))=true:=fun v=>azC (by simp;omega)
  have h0:decide ((0:Int)≤((p.length:Nat):Int))=true:=azC (by omega);have base:∀f,fj (f+1) (l,fo,x,(p++u::q,zt),((p.length:Nat):Int))=fj f (l,fo,x,(p++m0u l p.length u::q,zt),((p.length+1:Nat):Int)):=fun f=>by
   refine(yu f l fo x (p++u::q,zt) _).trans ?_;simp only[aAn,apS,apG,hl,h0,w1,azQ,azH];unfold m0u m0k;generalize (place (ba (l,((p.length:Nat):Int)),5) == 4)=b1;generalize (place (ba (l,((p.length:Nat):Int)),7) == 6)=b3;generalize cB u=b2;cases b1<;>cases b2<;>cases b3<;>rfl
  have hf':∃f,eJ f (l,fo,x,((p++[m0u l p.length u])++m0 l (p++[m0u l p.length u]).length q,zt),0)=some R:=by
   rw[aAB,azG];exact hf
  obtain⟨f,hf⟩:=Yk q (p++[m0u l p.length u]) (by grind) hf';grind
def mm(a:List Int×List ag×Int):ay:=
 (m0 a.1 0 (M4 (a.2.1,a.2.2)),m2 a.1 a.2.1 (place (ba (a.1,12),3)).toNat 0 [],m4 a.1 (place (ba (a.1,14),3)).toNat 0 [],m6 a.1 (place (ba (a.1,16),3)).toNat 0 [],m8e a.2.1 (place (ba (a.1,18),3)).toNat 0 [],m8c a.1 a.2.1 (place (ba (a.1,18),3)).toNat 0 [])
def M1(a:List Int×List ag×Int):Bool:=oE (a.2.1,a.2.2)&&decide (a.2.1.length≤1000000)
theorem FU(a:List ag×Int):(M4 a).length=12:=by
 have:∀(r:List ag) (out:List aL),(r.foldl (aes a.2) out).length=out.length:=fun r=>by
  induction r with
  | nil=>grind
  | cons e r ih=>intro out;rw[aAN,ih,sV]
 grind[M4]
theorem pl3(k:Int):place (k,3)=(((place (k,3)).toNat+0:Nat):Int)∧(place (k,3)).toNat≤2:=by
 obtain⟨g1,g2⟩:=cT k (s:=3) (by omega);omega
theorem Ye:∀a,M1 a=true→∃f,abR f a=some (mm a):=by
 rintro⟨l,fo,c⟩ h;simp only[M1,azF,azM]at h;obtain⟨h1,h2⟩:=h;have hc:∀e∈fo,af e.2.2.2.2.2.1=true:=fun e he=>by
  simp only[oE,azF,azU]at h1;grind
 have a8:=pl3 (ba (l,18));have a6:=pl3 (ba (l,16));have a4:=pl3 (ba (l,14));have a2:=pl3 (ba (l,12));have hm:=FU (fo,c);obtain⟨f,hf⟩:=Yk (l:=l) (fo:=fo) (x:=([],[],[],[],[],[])) (R:=mm (l,fo,c)) (M4 (fo,c)) [] (by simp[hm])
  (Yj h2 hc (place (ba (l,12),3)).toNat 0 (m0 l 0 (M4 (fo,c)),[],[],[],[],[]) a2.1 (by omega) (by simp;omega)
   (Yi (place (ba (l,14),3)).toNat 0 (m0 l 0 (M4 (fo,c)),m2 l fo (place (ba (l,12),3)).toNat 0 [],[],[],[],[]) a4.1 (by omega) (by simp;omega)
    (Yg (place (ba (l,16),3)).toNat 0 (m0 l 0 (M4 (fo,c)),m2 l fo (place (ba (l,12),3)).toNat 0 [],m4 l (place (ba (l,14),3)).toNat 0 [],[],[],[]) a6.1 (by omega) (by simp;omega)
     (Yf (place (ba (l,18),3)).toNat 0 (m0 l 0 (M4 (fo,c)),m2 l fo (place (ba (l,12),3)).toNat 0 [],m4 l (place (ba (l,14),3)).toNat 0 [],m6 l (place (ba (l,16),3)).toNat 0 [],[],[]) a8.1 (by omega) (by simp;omega) (by simp;omega)))))
 exact⟨f+1,(U7 f l fo c).trans (by grind)⟩
theorem afT(a:(List Int)×(List ag)×Int)(hp:M1 a=true)(vs:List V)(hv:bY [.c (.sl [zI]),.c (.sl aF),.c zI] a vs):FnW Tryz.prog 32 vs bl [(1,56,28),(2,82,4)] (mm a):=(Ye a hp).elim fun f h=>amv (C:=tJ) (Lt:=fL) (fn:=Tryz.f32) (rs:=[.cell 6 38]) [.c (.sl [zI]),.c (.sl aF),.c zI] bl [(1,56,28),(2,82,4)] mixed agX Tryz.func32 rfl rfl rfl (by kernel_rfl) (by kernel_rfl) f h vs hv
open Go.Proofs
theorem Yn{core:Int}{l:List ag}(hs:∀e∈l,0≤e.2.1):∀(r:List ag) (out:List aL),(∀e∈r,e∈l)→out.length=12→(∀(j:Nat) (s:aL),out[j]? = some s→s=iR∨∃e∈l,e.1=core∧e.2.1=(j:Int)∧s=Ys e.2.2 0 (0,0,0))→
  ∀(j:Nat) (s:aL),(r.foldl (aes core) out)[j]? = some s→s=iR∨∃e∈l,e.1=core∧e.2.1=(j:Int)∧s=Ys e.2.2 0 (0,0,0)
 | [],out,hr,hlen,h=>h
 | u::r,out,hr,hlen,h=>by
  rw[aAN];refine Yn hs r _ (fun e he=>hr e (az6 _ he)) (by grind[sV]) ?_;intro j s hj;simp only[aes]at hj;cases c:(decide (u.1=core)&&decide (u.2.1<12))
  ·rw[c]at hj;grind
  ·rw[c]at hj
   simp only[azH]at hj;simp only[azF,azM]at c;have h0:=hs u (hr u (az1 ..));by_cases e:u.2.1.toNat=j
   ·subst e
    rw[aA6 (by omega)]at hj;right;have hz:Ju (out.getD u.2.1.toNat iR)=0∧nU (out.getD u.2.1.toNat iR)=(0,0,0):=by
     rw[aAm];cases ho:out[u.2.1.toNat]? with
     | none=>grind
     | some x=>
      rcases h _ x ho with rfl | ⟨e,_,_,_,rfl⟩<;>exact⟨rfl,rfl⟩
    grind
   grind
theorem afV(steps:List iz)(c:Int)(j:Nat)(s:aL)(h:(M4 (aD steps,c))[j]? = some s):s=iR∨∃e∈aD steps,e.1=c∧e.2.1=(j:Int)∧s=Ys e.2.2 0 (0,0,0):=by
 obtain⟨h1,h2⟩:=rj steps;refine Yn (fun e he=>(h1.cs e he).2.1) (aD steps) (List.replicate 12 iR) (fun e he=>he) rfl (fun j s hj=>?_) j s h;grind
theorem YG(l:List Int):∀(q:List aL) (i j:Nat),(m0 l i q)[j]? = (q[j]?).map (m0u l (i+j))
 | [],i,j=>rfl
 | u::q,i,0=>rfl
 | u::q,i,j+1=>by
  simp only[m0,aBp];rw[YG l q (i+1) j,show i+1+j=i+(j+1)by omega]
theorem M8(l:List Int):∀(q:List aL) (i:Nat),(m0 l i q).length=q.length
 | [],i=>rfl
 | u::q,i=>by simp only[m0,azL,M8 l q]
theorem af4(l:List Int)(i:Nat)(u:aL):snd (m0u l i u)=snd u:=by
 have h1:snd (m0k l i u)=snd u:=by
  unfold m0k;cases (place (ba (l,((i:Nat):Int)),5) == 4)&&!cB u<;>rfl
 unfold m0u;cases place (ba (l,((i:Nat):Int)),7) == 6 with
 | true=>exact h1
 | false=>exact h1
theorem Qy{a b:aL}(h:snd a=snd b):cB a=cB b:=by
 have:xH a=xH b:=azT jm h;grind[cB]
theorem Yl(l:List Int)(steps:List iz)(c:Int)(j:Nat)(s:aL)(h:(mm (l,aD steps,c)).1[j]? = some s):
  (cB s=true∧snd s=sz)∨(cB s=false∧∃e∈aD steps,e.1=c∧e.2.1=(j:Int)∧snd s=e.2.2):=by
 have h:(m0 l 0 (M4 (aD steps,c)))[j]? = some s:=h;rw[YG,az8]at h;obtain⟨x,hx,rfl⟩:=aBu.1 h;have L4:=af4 l j x;rcases afV steps c j x hx with rfl | ⟨e,he,h1,h2,rfl⟩
 ·exact .inl ⟨(Qy L4).trans rfl,L4⟩
 ·right
  have hv:=(ji _).1 ((rj steps).1.node e he);have hvi:=(AJ _).1 hv.1;refine⟨?_,e,he,h1,h2,L4⟩;rw[Qy L4];refine azK fun h0=>?_
  have h3:jm e.2.2=(0,0,0):=h0;grind
theorem PS(l:List Int)(steps:List iz)(c:Int):(mm (l,aD steps,c)).1.length=12:=by
 show(m0 l 0 (M4 (aD steps,c))).length=12;rw[M8,FU]
open Go.Proofs
open Go.Proofs
open Go.Proofs
def oH(i:Nat):Nat→List bR→List bR
 | _,[]=>[]
 | k,r::q=>(((i:Nat):Int),((30+k:Nat):Int),0,r.2.2.2)::oH i (k+1) q
def uA(l:List Int)(s:ay)(i:Nat):Nat→List tm→List tm
 | _,[]=>[]
 | k,m::q=>(m.1,sU (s,m.2,ba (l,((20+i+k:Nat):Int))))::uA l s i (k+1) q
def YD(l:List Int)(f:List ag)(i:Nat):ay:=((mm (l.drop (5*i),f,((i:Nat):Int))).1,oH i 0 (mm (l.drop (5*i),f,((i:Nat):Int))).2.1,(mm (l.drop (5*i),f,((i:Nat):Int))).2.2.1,[],[],[])
def Bt(l:List Int)(f:List ag)(i:Nat):ay:=((YD l f i).1,(YD l f i).2.1,uA l (YD l f i) i 0 (YD l f i).2.2.1,[],[],[])
def rT(l:List Int)(f:List ag)(i:Nat):cC:=(((i:Nat):Int),1,[],[],(Bt l f i).1,(Bt l f i).2.1,(Bt l f i).2.2.1,[],[],[],false,0,[],[],[],[],[],[],[],[])
def cY(l:List Int)(f:List ag):List cC:=[rT l f 0,rT l f 1,rT l f 2,rT l f 3]
