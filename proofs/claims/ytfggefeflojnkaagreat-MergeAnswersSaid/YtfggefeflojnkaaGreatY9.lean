/- By an AI agent. -/
import Derived.Test.YtfggefeflojnkaaGreatYh
set_option linter.unusedSimpArgs false
set_option linter.unusedVariables false
set_option linter.unusedSectionVars false
open Go.IntKind (i64 u64)
namespace Go.AL
open Go.Proofs
def uN(o:List aj)(l:List aL):List aj:=l.foldl (fun o s=>bif cB s then o else Yh.add o (xH s)) o
def jK(all:List ay):List aj:=all.foldl (fun o s=>uN o s.1) []
theorem J1(x:aj):∀(l:List aL) (o:List aj),x∈uN o l↔x∈o∨l.any (ZC x)=true
 | [],o=>by simp[uN]
 | s::l,o=>by
  have ih:=J1 x l (bif cB s then o else Yh.add o (xH s));show x∈uN (bif cB s then o else Yh.add o (xH s)) l↔_;rw[ih,aBS,aA8];have e:x∈(bif cB s then o else Yh.add o (xH s))↔x∈o∨ZC x s=true:=by
   unfold ZC;cases cB s with
   | true=>simp
   | false=>
    simp only[azI,aBh,azP,azM];rw[Yh.af0];constructor
    ·rintro(h | h)
     ·exact .inr h.symm
     ·exact .inl h
    ·rintro(h | h)
     ·exact .inr h
     ·exact .inl h.symm
  rw[e,or_assoc]
theorem PW(x:aj)(all:List ay):x∈jK all↔jL all x=true:=by
 have key:∀(l:List ay) (o:List aj),x∈l.foldl (fun o s=>uN o s.1) o↔x∈o∨l.any (fun s=>s.1.any (ZC x))=true:=by
  intro l;induction l with
  | nil=>intro o;simp
  | cons s l ih=>
   intro o;rw[aAN,ih,J1,aBS,aA8,or_assoc]
 unfold jK jL;rw[key];simp
theorem agt(all:List ay):(fun x=>decide (x∈jK all))=jL all:=by
 funext x
 cases h:jL all x with
 | true=>exact azC ((PW x all).2 h)
 | false=>exact azK fun h2=>by rw[(PW x all).1 h2]at h;cases h
def sf(h:aj→Bool)(d:List aj)(m:List Int)(l0:List aL):List bR→List aL→List bR→List dv→List aL×List bR×List dv
 | [],l,left,an=>(l,left,an)
 | r::q,l,left,an=>bif(ij h l0 r d m).2 then sf h d m l0 q (ny (l,(tZ r).2.1)) left (an++[((tZ r).2.1,(ij h l0 r d m).1)])else sf h d m l0 q l (left++[r]) an
def vq(h:aj→Bool)(d:List aj)(m:List Int)(s:ay):ay:=((sf h d m s.1 s.2.1 s.1 [] s.2.2.2.1).1,(sf h d m s.1 s.2.1 s.1 [] s.2.2.2.1).2.1,s.2.2.1,ca uB (sf h d m s.1 s.2.1 s.1 [] s.2.2.2.1).2.2,s.2.2.2.2)
def SmT(l l0:List aL):Prop:=l.map (fun s=>(cB s,xH s))=l0.map fun s=>(cB s,xH s)
theorem SmT.thr{l l0:List aL}(h:SmT l l0)(r:bR):Fq l r=Fq l0 r:=by
 have hl:l.length=l0.length:=by have:=azT List.length h;simpa using this
 have hg:∀k:Nat,cB (l.getD k iR)=cB (l0.getD k iR)∧xH (l.getD k iR)=xH (l0.getD k iR):=fun k=>by
  have:=azT (fun z=>z[k]?) h;simp only[aAv]at this;rw[aAm,aAm];cases h1:l[k]?<;>cases h2:l0[k]?<;>simp[h1,h2]at this ⊢
  exact this
 obtain⟨g1,g2⟩:=hg (sQ r).2.1.toNat;unfold Fq;rw[hl,g1,g2]
theorem SmT.out{l l0:List aL}(h:SmT l l0)(b:aj→Bool)(r:bR)(d:List aj)(m:List Int):ij b l r d m=ij b l0 r d m:=by
 unfold ij;rw[h.thr r]
theorem SmT.rel{l l0:List aL}(h:SmT l l0)(op:Int):SmT (ny (l,op)) l0:=by
 unfold SmT at *;rw[← h];unfold ny;rw[List.map_map];apply aAA;intro s hs;show(cB (mg op s),xH (mg op s))=(cB s,xH s);unfold mg;cases decide (Ju s=op)<;>rfl
theorem GK(h:aj→Bool)(d:List aj)(m:List Int)(l0:List aL):∀(q:List bR) (l:List aL) (left:List bR) (an:List dv),SmT l l0→sf h d m l0 q l left an=og h d m q l left an
 | [],l,left,an,hs=>rfl
 | r::q,l,left,an,hs=>by
  simp only[sf,og,hs.out];rw[GK h d m l0 q _ _ _ (hs.rel _),GK h d m l0 q _ _ _ hs]
theorem aaD(h:aj→Bool)(d:List aj)(m:List Int)(s:ay)(hs:s.2.2.2.1=[]):vq h d m s=sJ h d m s:=by
 unfold vq sJ;rw[hs,GK h d m s.1 s.2.1 s.1 [] [] rfl]
theorem PK(rs:List eB)(ow:List Int)(c:Int):∀(ss:List (ay×Int)) (out:List ag),XS rs ow c ss out=(ss.flatMap fun p=>(jQ (p.1.1,p.2)).filter (iG rs ow c)).foldl (fun s x=>cA cj x s) out
 | [],out=>rfl
 | (s,m)::r,out=>by
  rw[XS,PK rs ow c r,aBO,aBU]
def MK(rs:List eB)(ow:List Int)(c:Int)(ss:List (ay×Int)):List ag:=ca cj (ss.flatMap fun p=>(jQ (p.1.1,p.2)).filter (iG rs ow c))
theorem MJ(rs:List eB)(ow:List Int)(c:Int)(ss:List (ay×Int)):MK rs ow c ss=XS rs ow c ss []:=(PK rs ow c ss []).symm
def ig(au:Int)(ab:List cC)(d:List aj)(c:Int):ay:=((oe (dp (c,au,ab)).1 d).map nY,(dp (c,au,ab)).2.1,[],[],[],d)
theorem WR(x:aj):nw x iR=iR:=by
 unfold nw;cases h:sH x iR with
 | false=>rfl
 | true=>rfl
theorem WN(d:List aj)(n:Nat):oe (List.replicate n iR) d=List.replicate n iR:=by
 unfold oe;induction d with
 | nil=>rfl
 | cons x d ih=>
  rw[aAN];have:(tS (List.replicate n iR,x)).1=List.replicate n iR:=by
   show(List.replicate n iR).map (nw x)=_;rw[List.map_replicate,WR]
  rw[this];exact ih
theorem Bc(au:Int)(ab:List cC)(d:List aj)(c:Int):ig au ab d c=iU au ab d c:=by
 unfold ig iU dp
 dsimp only
 cases decide (bu (fun q:cC=>decide (q.1=c)) ab 0<0)with
 | true=>simp only[azH,WN,List.map_replicate];rfl
 | false=>rfl
def kZ(rs:List eB)(v:jf)(all:List ay):List ay→List Int→List ay
 | s::r,c::m=>(s.1,s.2.1,s.2.2.1,s.2.2.2.1,MK rs v.2.2 c (all.zip v.2.1),s.2.2.2.2.2)::kZ rs v all r m
 | _,_=>[]
theorem PF(rs:List eB)(v:jf)(all:List ay):∀(r:List ay) (m:List Int) (k:Nat),r.length=m.length→v.2.1.drop k=m→kZ rs v all r m=BZ rs v all r k
 | [],[],k,_,_=>rfl
 | s::r,c::m,k,h,hd=>by
  have e:v.2.1.getD k 0=c:=by
   rw[aAm,← List.head?_drop,hd];rfl
  simp only[kZ,BZ];rw[PF rs v all r m (k+1) (by simpa using h) (by rw[← List.tail_drop,hd];rfl),MJ,← e];rfl
 | [],_::_,k,h,_=>by simp at h
 | _::_,[],k,h,_=>by simp at h
def JH(a:List eB×Int×List cC×jf):List ay:=
 (fun d=>(fun o=>(fun o2=>kZ a.1 a.2.2.2 o2 o2 a.2.2.2.2.1) (o.map (vq (fun x=>decide (x∈jK o)) d a.2.2.2.2.1))) (a.2.2.2.2.1.map (ig a.2.1 a.2.2.1 d))) (nD (ca yK (allM a.2.2.1)))
theorem afI(a:List eB×Int×List cC×jf):JH a=gi a:=by
 obtain⟨rs,au,ab,v⟩:=a;unfold JH gi
 dsimp only
 rw[Gk,show ig au ab (aX ab)=iU au ab (aX ab)from funext fun c=>Bc _ _ _ c,agt];have e:(v.2.1.map (iU au ab (aX ab))).map (vq (jL (v.2.1.map (iU au ab (aX ab)))) (aX ab) v.2.1)=(v.2.1.map (iU au ab (aX ab))).map (sJ (jL (v.2.1.map (iU au ab (aX ab)))) (aX ab) v.2.1):=by
  apply aAA;intro s hs;obtain⟨c,_,rfl⟩:=az4.1 hs;refine aaD _ _ _ _ ?_;unfold iU;cases decide (bu (fun q:cC=>decide (q.1=c)) ab 0<0)<;>rfl
 rw[e];exact PF rs v _ _ v.2.1 0 (by simp) rfl
open Go.Proofs
def tQ(d:List aj)(s:aL):aL:=bif !cB s&&(decide (nU s∈d)&&!decide (nU s=(0,0,0)))then Ys sz (Ju s) (0,0,0)else s
theorem aeX(s:aL):tQ [] s=s:=by simp[tQ]
theorem aeY(d:List aj){s:aL}(h:cB s=true):tQ d s=s:=by unfold tQ;rw[h];rfl
theorem WO(x:aj)(d:List aj)(s:aL):tQ d (nw x s)=tQ (x::d) s:=by
 unfold nw;cases h:sH x s with
 | true=>
  rw[azH,aeY d (show cB (Ys sz (Ju s) (0,0,0))=true from rfl)];unfold sH at h;simp only[azF,azM,aAi,aB6]at h;obtain⟨h1,h2,h3⟩:=h;unfold tQ;rw[h1,h2,azC (show x∈x::d from az1),azK h3];rfl
 | false=>
  rw[azI];unfold tQ;cases h1:cB s with
  | true=>rfl
  | false=>
   by_cases h3:nU s=(0,0,0)
   ·rw[azC h3];simp
   ·have hx:¬ nU s=x:=fun e=>by
     unfold sH at h;rw[h1,azC e,azK (fun e2=>h3 (e.trans e2))]at h;cases h
    rw[aBB.2 (show nU s∈d↔nU s∈x::d by simp[hx])]
theorem Fs:∀(d:List aj) (l:List aL),oe l d=l.map (tQ d)
 | [],l=>by
  show l=_;rw[show tQ []=id from funext aeX,aAW]
 | x::d,l=>by
  show oe (l.map (nw x)) d=_;rw[Fs d,List.map_map];exact aAA fun s _=>WO x d s
theorem uW(rs:List eB)(v:jf)(all:List ay):∀(r:List ay) (k i:Nat),(BZ rs v all r k)[i]? = (r[i]?).map fun s=>(s.1,s.2.1,s.2.2.1,s.2.2.2.1,MR (rs,all,((k+i:Nat):Int),v),s.2.2.2.2.2)
 | [],k,i=>rfl
 | s::r,k,0=>rfl
 | s::r,k,i+1=>by
  simp only[BZ,aBp];rw[uW rs v all r (k+1) i,show k+1+i=k+(i+1)by omega]
def Dr(a:List eB×Int×List cC×jf):List ay:=a.2.2.2.2.1.map (iU a.2.1 a.2.2.1 (aX a.2.2.1))
theorem zi(a:List eB×Int×List cC×jf){i:Nat}{c:Int}(hc:a.2.2.2.2.1[i]? = some c):
  ∃s,(gi a)[i]? = some s∧(s.1,s.2.1,s.2.2.1,s.2.2.2.1,s.2.2.2.2.2)=(fun t:ay=>(t.1,t.2.1,t.2.2.1,t.2.2.2.1,t.2.2.2.2.2)) (sJ (jL (Dr a)) (aX a.2.2.1) a.2.2.2.2.1 (iU a.2.1 a.2.2.1 (aX a.2.2.1) c)):=by
 unfold gi
 dsimp only
 rw[uW,aAv,aAv,hc];exact⟨_,rfl,rfl⟩
theorem PA(a:List eB×Int×List cC×jf):(gi a).length=a.2.2.2.2.1.length:=by
 unfold gi
 dsimp only
 rw[KH,aA7,aA7]
theorem Fu(h:aj→Bool)(d:List aj)(m:List Int)(l0:List aL):∀(q:List bR) (l:List aL) (left:List bR) (an:List dv),SmT l l0→
  og h d m q l left an=((q.filter fun r=>(ij h l0 r d m).2).foldl (fun l r=>ny (l,(tZ r).2.1)) l,left++q.filter (fun r=>!(ij h l0 r d m).2),an++(q.filter fun r=>(ij h l0 r d m).2).map fun r=>((tZ r).2.1,(ij h l0 r d m).1))
 | [],l,left,an,hs=>by simp[og]
 | r::q,l,left,an,hs=>by
  simp only[og,hs.out];cases hb:(ij h l0 r d m).2 with
  | true=>rw[azH,Fu h d m l0 q _ _ _ (hs.rel _),aCp (by exact hb),aB7 (by rw[hb];simp)];simp
  | false=>rw[azI,Fu h d m l0 q _ _ _ hs,aB7 (by rw[hb];simp),aCp (by rw[hb];rfl)];simp
def UJ(op:Int)(l:List aL):Prop:=∀s∈l,Ju s ≠ op
theorem X7{op:Int}(h:op ≠ 0)(l:List aL):UJ op (ny (l,op)):=fun s hs=>by
 obtain⟨x,_,rfl⟩:=az4.1 (show s∈l.map (mg op)from hs);unfold mg;by_cases hx:Ju x=op
 ·rw[azC hx];exact fun e=>h e.symm
 ·rw[azK hx];exact hx
theorem Tx{op:Int}(h:op ≠ 0)(op':Int){l:List aL}(hl:UJ op l):UJ op (ny (l,op')):=fun s hs=>by
 obtain⟨x,hx,rfl⟩:=az4.1 (show s∈l.map (mg op')from hs);unfold mg;cases decide (Ju x=op')with
 | true=>exact fun e=>h e.symm
 | false=>exact hl x hx
theorem Ea{op:Int}(h:op ≠ 0):∀(q:List bR) (l:List aL),(UJ op l∨∃r∈q,(tZ r).2.1=op)→UJ op (q.foldl (fun l r=>ny (l,(tZ r).2.1)) l)
 | [],l,hl=>by
  rcases hl with hl | ⟨r,hr,_⟩
  ·exact hl
  ·simp at hr
 | r::q,l,hl=>by
  rw[aAN];refine Ea h q _ ?_;rcases hl with hl | ⟨x,hx,e⟩
  ·exact .inl (Tx h _ hl)
  ·rcases azW.1 hx with rfl | hx
   ·exact .inl (by rw[e];exact X7 h l)
   ·exact .inr ⟨x,hx,e⟩
def knB(a:List eB×Int×List cC×jf)(c:Int)(r:bR):Bool:=(ij (jL (Dr a)) (iU a.2.1 a.2.2.1 (aX a.2.2.1) c).1 r (aX a.2.2.1) a.2.2.2.2.1).2
theorem aft(a:List eB×Int×List cC×jf){i:Nat}{c:Int}(hc:a.2.2.2.2.1[i]? = some c):
  ∃s,(gi a)[i]? = some s∧s.2.1=(dp (c,a.2.1,a.2.2.1)).2.1.filter (fun r=>!knB a c r)∧s.2.2.2.1.length=((dp (c,a.2.1,a.2.2.1)).2.1.filter (knB a c)).length∧
   ∀r∈(dp (c,a.2.1,a.2.2.1)).2.1,knB a c r=true→(tZ r).2.1 ≠ 0→UJ (tZ r).2.1 s.1:=by
 obtain⟨s,h1,h2⟩:=zi a hc;have hq:(iU a.2.1 a.2.2.1 (aX a.2.2.1) c).2.1=(dp (c,a.2.1,a.2.2.1)).2.1:=by rw[← Bc];rfl
 have e1:s.1=(sJ (jL (Dr a)) (aX a.2.2.1) a.2.2.2.2.1 (iU a.2.1 a.2.2.1 (aX a.2.2.1) c)).1:=azT (·.1) h2;have e2:s.2.1=(sJ (jL (Dr a)) (aX a.2.2.1) a.2.2.2.2.1 (iU a.2.1 a.2.2.1 (aX a.2.2.1) c)).2.1:=azT (·.2.1) h2;have e3:s.2.2.2.1=(sJ (jL (Dr a)) (aX a.2.2.1) a.2.2.2.2.1 (iU a.2.1 a.2.2.1 (aX a.2.2.1) c)).2.2.2.1:=azT (·.2.2.2.1) h2;unfold sJ at e1 e2 e3;rw[Fu _ _ _ (iU a.2.1 a.2.2.1 (aX a.2.2.1) c).1 _ _ _ _ rfl,hq]at e1 e2 e3;refine⟨s,h1,?_,?_,fun r hr hk h0=>?_⟩
 ·rw[e2];rfl
 ·rw[e3,bh];simp only[aAs,aA7];rfl
 ·rw[e1]
  exact Ea h0 _ _ (.inr ⟨r,aBN.2 ⟨hr,hk⟩,rfl⟩)
theorem ahO(a:List eB×Int×List cC×jf)(c:Int)(r:bR):(knB a c r=true→(sQ r).1=4∨((sQ r).1=6∧cJ (tZ r) (aX a.2.2.1)=true))∧((sQ r).1=6→cJ (tZ r) (aX a.2.2.1)=true→knB a c r=true):=by
 unfold knB ij;by_cases h6:(sQ r).1=6
 ·rw[azC h6]
  exact⟨fun h=>.inr ⟨h6,h⟩,fun _ h=>h⟩
 ·rw[azK h6,azI]
  refine⟨fun h=>?_,fun h=>absurd h h6⟩;by_cases h4:(sQ r).1=4
  ·exact .inl h4
  ·rw[azK h4]at h;cases h
open Go.Proofs
theorem Fv{l:List cC}{i:Nat}{r:cC}{n:Int}(hi:l[i]? = some r)(hb:∀j,j<i→∀x,l[j]? = some x→x.1 ≠ r.1):dp (r.1,n,l)=(r.2.2.2.2.1,r.2.2.2.2.2.1,[],[],[],[]):=by
 have bO:=(azR.1 hi).1;have hd:l.drop i=r::l.drop (i+1):=by
  rw[aA4 bO]
  congr 1
  rw[azS bO]at hi;exact az9 hi
 have ha:(l.take i).any (fun q=>decide (q.1=r.1))=false:=by
  rw[aBD];intro x hx;obtain⟨j,hj⟩:=aBW.1 hx;rw[aAx]at hj
  split at hj
  ·rename_i h1
   simpa using hb j h1 x hj
  ·cases hj
 have hf:bu (fun q:cC=>decide (q.1=r.1)) l 0=((i:Nat):Int):=by
  rw[(BU l 0 i r _ hd (azC rfl)).2 ha,Int.zero_add]
 unfold dp
 dsimp only
 rw[hf,azK (show ¬((i:Nat):Int)<0 by omega),aAn,aAm,hi];rfl
def Tw(a:List eB×Int×List cC×jf):List ay:=(Dr a).map (sJ (jL (Dr a)) (aX a.2.2.1) a.2.2.2.2.1)
theorem MA(a:List eB×Int×List cC×jf):gi a=BZ a.1 a.2.2.2 (Tw a) (Tw a) 0:=rfl
open Go.Proofs
open Go.Proofs
theorem J3(c:Int)(e:ag):∀(l:List aL) (k:Nat),e∈wZ c l k↔∃(j:Nat) (s:aL),l[j]? = some s∧cB s=false∧e=(c,((k+j:Nat):Int),snd s)
 | [],k=>by simp[wZ]
 | s::l,k=>by
  have ih:=J3 c e l (k+1);have key:(∃(j:Nat) (t:aL),(s::l)[j]? = some t∧cB t=false∧e=(c,((k+j:Nat):Int),snd t))↔(cB s=false∧e=(c,((k:Nat):Int),snd s))∨∃(j:Nat) (t:aL),l[j]? = some t∧cB t=false∧e=(c,((k+1+j:Nat):Int),snd t):=by
   constructor
   ·rintro⟨j,t,h1,h2,h3⟩
    cases j with
    | zero=>simp at h1;subst h1;exact .inl ⟨h2,h3⟩
    | succ j=>exact .inr ⟨j,t,by simpa using h1,h2,by rw[h3];congr 3;omega⟩
   ·rintro(⟨h1,h2⟩ | ⟨j,t,h1,h2,h3⟩)
    ·exact⟨0,s,rfl,h1,h2⟩
    ·exact⟨j+1,t,by simpa using h1,h2,by rw[h3];congr 3;omega⟩
  rw[key,← ih];simp only[wZ];cases hb:cB s with
  | true=>simp
  | false=>simp;rfl
theorem J2(c:Int)(e:ag)(l:List aL):e∈jQ (l,c)↔∃(j:Nat) (s:aL),l[j]? = some s∧cB s=false∧e=(c,((j:Nat):Int),snd s):=by
 unfold jQ;rw[(lb _).mem_iff,J3];simp only[az8]
theorem afZ(rs:List eB)(all:List ay)(v:jf)(k:Nat)(e:ag):e∈MR (rs,all,((k:Nat):Int),v)↔iG rs v.2.2 (v.2.1.getD k 0) e=true∧∃(i:Nat) (t:ay) (c:Int),all[i]? = some t∧v.2.1[i]? = some c∧∃(j:Nat) (s:aL),t.1[j]? = some s∧cB s=false∧e=(c,((j:Nat):Int),snd s):=by
 have e1:MR (rs,all,((k:Nat):Int),v)=MK rs v.2.2 (v.2.1.getD k 0) (all.zip v.2.1):=by
  rw[MJ];rfl
 rw[e1];unfold MK;rw[(lb _).mem_iff,aCc];constructor
 ·rintro⟨⟨t,c⟩,hp,he⟩
  obtain⟨h1,h2⟩:=aBN.1 he;obtain⟨i,hi⟩:=aBW.1 hp;obtain⟨h3,h4⟩:=aCq.1 hi;exact⟨h2,i,t,c,h3,h4,(J2 c e t.1).1 h1⟩
 ·rintro⟨h2,i,t,c,h3,h4,h5⟩
  have hz:(all.zip v.2.1)[i]? = some (t,c):=aCq.2 ⟨h3,h4⟩;exact⟨(t,c),azO hz,aBN.2 ⟨(J2 c e t.1).2 h5,h2⟩⟩
theorem Xr(a:List eB×Int×List cC×jf){k:Nat}{t:ay}(ht:(gi a)[k]? = some t)(e:ag):
  e∈t.2.2.2.2.1↔iG a.1 a.2.2.2.2.2 (a.2.2.2.2.1.getD k 0) e=true∧∃(i:Nat) (u:ay) (c:Int),(gi a)[i]? = some u∧a.2.2.2.2.1[i]? = some c∧∃(j:Nat) (s:aL),u.1[j]? = some s∧cB s=false∧e=(c,((j:Nat):Int),snd s):=by
 have h2:=ht;rw[MA,uW]at h2;obtain⟨t0,_,rfl⟩:=aBu.1 h2;show e∈MR (a.1,Tw a,((0+k:Nat):Int),a.2.2.2)↔_;rw[az8,afZ];have key:∀(i j:Nat) (s:aL),(∃u:ay,(Tw a)[i]? = some u∧u.1[j]? = some s)↔∃u:ay,(gi a)[i]? = some u∧u.1[j]? = some s:=fun i j s=>by
  have hf:(gi a).map (·.1)=(Tw a).map (·.1):=by rw[MA,KJ]
  have hfi:=azT (fun z=>z[i]?) hf;simp only[aAv]at hfi;constructor
  ·rintro⟨u,h1,h2⟩
   rw[h1]at hfi;obtain⟨w,hw,he⟩:=aBu.1 hfi;exact⟨w,hw,by rw[he];exact h2⟩
  ·rintro⟨u,h1,h2⟩
   rw[h1]at hfi;obtain⟨w,hw,he⟩:=aBu.1 hfi.symm;exact⟨w,hw,by rw[he];exact h2⟩
 constructor
 ·rintro⟨h1,i,u,c,h3,h4,j,s,h5,h6,h7⟩
  obtain⟨u',g1,g2⟩:=(key i j s).1 ⟨u,h3,h5⟩;exact⟨h1,i,u',c,g1,h4,j,s,g2,h6,h7⟩
 ·rintro⟨h1,i,u,c,h3,h4,j,s,h5,h6,h7⟩
  obtain⟨u',g1,g2⟩:=(key i j s).2 ⟨u,h3,h5⟩;exact⟨h1,i,u',c,g1,h4,j,s,g2,h6,h7⟩
open Go.Proofs
open Go.Proofs
noncomputable def aee:cX:=zC [gY] (dE []) 49
def G3:Nat→LD:=eO [(1,⟨[.box 3 3 38 6 bl,.box 4 4 48 3 aE,.box 6 6 48 3 aE,.c 7 (zI)],[],0⟩)]
noncomputable def ajc(f:Nat)(a:ay×aj×Int):Option (aj):=aG (aee) G3 (zK [.cell 6 48] [.g aE]) f [.code (aB Tryz.f34)] (aQ [.g bl,.g aE,.c (zI)] a)
noncomputable def As(f:Nat)(x:ay×aj×aj×Int):Option (aj):=aG (aee) G3 (zK [.cell 6 48] [.g aE]) f (aV Tryz.f34 1) ((G3 1).mk' x)
theorem abQ(f:Nat)(s:ay)(op:aj)(n:Int):ajc (f+1) (s,op,n) =
  bif place (n,3) == 0 then As f (s,op,(0,0,0),0)else bif place (n,3) == 1 then bif decide ((↑(List.length s.2.1):Int)>0)then bif decide (0≤i64.wrap ((↑(List.length s.2.1):Int)-1))&&decide (i64.wrap ((↑(List.length s.2.1):Int)-1)<(↑(List.length s.2.1):Int))then some ((List.getD s.2.1 (i64.wrap ((↑(List.length s.2.1):Int)-1)).toNat zq3).1,(List.getD s.2.1 (i64.wrap ((↑(List.length s.2.1):Int)-1)).toNat zq3).2.1,(List.getD s.2.1 (i64.wrap ((↑(List.length s.2.1):Int)-1)).toNat zq3).2.2.1)else none else some op else some op:=by kernel_rfl
theorem CO(f:Nat)(s:ay)(op:aj)(x6:aj)(i:Int):As (f+1) (s,op,x6,i) =
  bif decide (i<(↑(List.length s.1):Int))then bif decide (0≤i)&&decide (i<(↑(List.length s.1):Int))then bif !((List.getD s.1 i.toNat zq2).2.2.2.2.2.2.2.2.2.2.2.2.1 == 0&&((List.getD s.1 i.toNat zq2).2.2.2.2.2.2.2.2.2.2.2.2.2.1 == 0&&((List.getD s.1 i.toNat zq2).2.2.2.2.2.2.2.2.2.2.2.2.2.2 == 0&&true)))then bif decide (0≤i)&&decide (i<(↑(List.length s.1):Int))then some (List.getD s.1 i.toNat zq2).2.2.2.2.2.2.2.2.2.2.2.2 else none else As f (s,op,x6,i64.wrap (i+1))else none else some op:=by kernel_rfl
noncomputable def wb:List aL→(ay×aj×aj×Nat)→aj
 | [],(s,op,x6,i)=>op
 | uu::rest,(s,op,x6,i)=>bif !(uu.2.2.2.2.2.2.2.2.2.2.2.2.1 == 0&&(uu.2.2.2.2.2.2.2.2.2.2.2.2.2.1 == 0&&(uu.2.2.2.2.2.2.2.2.2.2.2.2.2.2 == 0&&true)))then uu.2.2.2.2.2.2.2.2.2.2.2.2 else wb rest (s,op,x6,i+1)
noncomputable def vw:List aL→(ay×aj×aj×Nat)→Bool
 | [],(s,op,x6,i)=>true
 | uu::rest,(s,op,x6,i)=>bif !(uu.2.2.2.2.2.2.2.2.2.2.2.2.1 == 0&&(uu.2.2.2.2.2.2.2.2.2.2.2.2.2.1 == 0&&(uu.2.2.2.2.2.2.2.2.2.2.2.2.2.2 == 0&&true)))then true else vw rest (s,op,x6,i+1)
theorem Sx:∀(rest:List aL) (s:ay) (op:aj) (x6:aj) (i:Nat) (hd:s.fst.drop i=rest) (hl:s.fst.length≤1099511627776),de (fun f=>As f (s,op,x6,((i:Nat):Int))) (vw rest (s,op,x6,i)) (wb rest (s,op,x6,i))
 | [],s,op,x6,i,hd,hl=>ai (fun f=>(CO f _ _ _ _).trans (by simp only[fA (bT hd),fW,azQ,azP,azH,azI,azX]<;>rfl)) ae
 | uu::rest,s,op,x6,i,hd,hl=>ai (fun f=>(CO f _ _ _ _).trans (by simp only[cK (ak hd),bC hd,bk (ak hd) hl,bH (ak hd),fW,azQ,azP,azH,azI,azX]<;>rfl)) (ao ae (Sx rest _ _ _ _ (aH hd) hl))
noncomputable def RO:(ay×aj×Int)→aj
 | (s,op,n)=>bif place (n,3) == 0 then wb s.1 (s,op,(0,0,0),0)else bif place (n,3) == 1 then bif decide ((↑(List.length s.2.1):Int)>0)then((List.getD s.2.1 (i64.wrap ((↑(List.length s.2.1):Int)-1)).toNat zq3).1,(List.getD s.2.1 (i64.wrap ((↑(List.length s.2.1):Int)-1)).toNat zq3).2.1,(List.getD s.2.1 (i64.wrap ((↑(List.length s.2.1):Int)-1)).toNat zq3).2.2.1)else op else op
noncomputable def QQ:(ay×aj×Int)→Bool
 | (s,op,n)=>bif place (n,3) == 0 then decide (s.1.length≤1099511627776)&&vw s.1 (s,op,(0,0,0),0)else bif place (n,3) == 1 then bif decide ((↑(List.length s.2.1):Int)>0)then decide (0≤i64.wrap ((↑(List.length s.2.1):Int)-1))&&decide (i64.wrap ((↑(List.length s.2.1):Int)-1)<(↑(List.length s.2.1):Int))else true else true
theorem Yc:∀a:ay×aj×Int,de (fun f=>ajc f a) (QQ a) (RO a)
 | (s,op,n)=>ai (fun f=>abQ f _ _ _) (ao (bL fun hh=>Sx _ _ _ _ _ rfl (azZ hh)) (ao (ao (cS ae) ae) ae))
def lkF:List aL→aj→aj
 | [],op=>op
 | u::r,op=>bif decide (nU u=(0,0,0))then lkF r op else nU u
theorem ahX(s:ay)(op x:aj):∀(r:List aL) (k:Nat),wb r (s,op,x,k)=lkF r op∧vw r (s,op,x,k)=true
 | [],k=>⟨rfl,rfl⟩
 | u::r,k=>by
  have e:(u.2.2.2.2.2.2.2.2.2.2.2.2.1 == 0&&(u.2.2.2.2.2.2.2.2.2.2.2.2.2.1 == 0&&(u.2.2.2.2.2.2.2.2.2.2.2.2.2.2 == 0&&true)))=decide (nU u=(0,0,0)):=id_eq (nU u) (0,0,0);obtain⟨i1,i2⟩:=ahX s op x r (k+1);simp only[wb,vw,e,lkF,i1,i2];cases decide (nU u=(0,0,0))<;>exact⟨rfl,rfl⟩
def sU(a:ay×aj×Int):aj:=bif decide (place (a.2.2,3)=0)then lkF a.1.1 a.2.1 else bif decide (place (a.2.2,3)=1)then(match a.1.2.1.getLast? with | some r=>tZ r | none=>a.2.1)else a.2.1
def Yd(a:ay×aj×Int):Bool:=af a.1.1&&af a.1.2.1
theorem Eo{α:Type}{l:List α}{d:α}(h:l ≠ []):∃x,l.getLast? = some x∧l.getD (l.length-1) d=x:=by
 refine⟨l.getLast h,List.getLast?_eq_some_getLast h,?_⟩;rw[aAm,← List.getLast?_eq_getElem?,List.getLast?_eq_some_getLast h];rfl
theorem JW:∀a:ay×aj×Int,Yd a=true→QQ a=true∧RO a=sU a:=by
 rintro⟨s,op,n⟩ h;simp only[Yd,azF]at h;obtain⟨h1,h2⟩:=h;obtain⟨i1,i2⟩:=ahX s op (0,0,0) s.1 0;have e0:(place (n,3) == 0)=decide (place (n,3)=0):=xm _ _;have e1:(place (n,3) == 1)=decide (place (n,3)=1):=xm _ _;have h1:decide (s.1.length≤1099511627776)=true:=h1;have h2:s.2.1.length≤1099511627776:=azZ h2;simp only[QQ,RO,sU,e0,e1,i1,i2,h1];cases decide (place (n,3)=0)<;>simp only[azH,azI,azP,true_and,and_true]
 cases decide (place (n,3)=1)<;>simp only[azH,azI,true_and,and_true]
 cases hq:s.2.1 with
 | nil=>simp
 | cons q r=>
  rw[← hq];have hp:0<s.2.1.length:=by rw[hq];simp
  have dU:s.2.1 ≠ []:=by rw[hq];simp
  have w:i64.wrap (((s.2.1.length:Nat):Int)-1)=((s.2.1.length-1:Nat):Int):=by rw[az (by omega) (by omega)];omega
  obtain⟨x,x1,x2⟩:=Eo (d:=(zq3:bR)) dU;rw[azC (show((s.2.1.length:Nat):Int)>0 by omega),w,x1];rw[azC (show(0:Int)≤((s.2.1.length-1:Nat):Int)by omega),azC (show((s.2.1.length-1:Nat):Int)<((s.2.1.length:Nat):Int)by omega)];simp only[azH,azQ,aAn,true_and];show tZ (s.2.1.getD (s.2.1.length-1) zq3)=tZ x;rw[x2]
theorem apg:∀a,Yd a=true→QQ a=true:=fun a h=>(JW a h).1
theorem aph:∀a,Yd a=true→RO a=sU a:=fun a h=>(JW a h).2
noncomputable def aru:dn:=⟨34,[.g bl,.g aE,.c (zI)],[.g aE],Yd,sU⟩
theorem adv:zO aru:=fl aee G3 [.cell 6 48] mixed (ah fk (aC)) Tryz.func34 (bp Yc apg aph)
noncomputable def ajP:cX:=zC [adJ,gY] (dE [(4,([(0,[]),(1,[]),(2,[]),(3,[]),(4,[]),(8,[]),(9,[]),(10,[]),(11,[]),(12,[]),(5,[]),(6,[]),(7,[]),(13,[]),(14,[]),(15,[]),(16,[]),(17,[]),(18,[])],[(12,29)]))]) 30
def acp:Nat→LD:=eO []
noncomputable def aja(f:Nat)(a:Int×Int):Option (jf):=aG (ajP) acp (zK [.cell 4 30] [.g Jp]) f [.code (aB Tryz.f14)] (aQ [.c (zI),.c (zI)] a)
theorem abM(f:Nat)(members:Int)(owner:Int):aja (f+1) (members,owner) =
  bif(↑(bt members).length:Int) == 0 then bif decide (0≤place (owner,(↑[2].length:Int)))&&decide (place (owner,(↑[2].length:Int))<(↑[2].length:Int))then bif decide (0≤place (i64.wrap (owner.tdiv 4),(↑[2].length:Int)))&&decide (place (i64.wrap (owner.tdiv 4),(↑[2].length:Int))<(↑[2].length:Int))then some (40,[2],[[2].getD (place (owner,(↑[2].length:Int))).toNat 0,[2].getD (place (i64.wrap (owner.tdiv 4),(↑[2].length:Int))).toNat 0])else none else none else bif cP (owner,(↑(bt members).length:Int))then bif decide (0≤place (owner,(↑(bt members).length:Int)))&&decide (place (owner,(↑(bt members).length:Int))<(↑(bt members).length:Int))then bif cP (i64.wrap (owner.tdiv 4),(↑(bt members).length:Int))then bif decide (0≤place (i64.wrap (owner.tdiv 4),(↑(bt members).length:Int)))&&decide (place (i64.wrap (owner.tdiv 4),(↑(bt members).length:Int))<(↑(bt members).length:Int))then some (40,bt members,[(bt members).getD (place (owner,(↑(bt members).length:Int))).toNat 0,(bt members).getD (place (i64.wrap (owner.tdiv 4),(↑(bt members).length:Int))).toNat 0])else none else none else none else none:=by kernel_rfl
noncomputable def RN:Rg→jf
 | (members,owner)=>bif(↑(bt members).length:Int) == 0 then(40,[2],[[2].getD (place (owner,(↑[2].length:Int))).toNat 0,[2].getD (place (i64.wrap (owner.tdiv 4),(↑[2].length:Int))).toNat 0])else(40,bt members,[(bt members).getD (place (owner,(↑(bt members).length:Int))).toNat 0,(bt members).getD (place (i64.wrap (owner.tdiv 4),(↑(bt members).length:Int))).toNat 0])
noncomputable def QP:Rg→Bool
 | (members,owner)=>bif(↑(bt members).length:Int) == 0 then decide (0≤place (owner,(↑[2].length:Int)))&&decide (place (owner,(↑[2].length:Int))<(↑[2].length:Int))&&(decide (0≤place (i64.wrap (owner.tdiv 4),(↑[2].length:Int)))&&decide (place (i64.wrap (owner.tdiv 4),(↑[2].length:Int))<(↑[2].length:Int)))else cP (owner,(↑(bt members).length:Int))&&(decide (0≤place (owner,(↑(bt members).length:Int)))&&decide (place (owner,(↑(bt members).length:Int))<(↑(bt members).length:Int))&&(cP (i64.wrap (owner.tdiv 4),(↑(bt members).length:Int))&&(decide (0≤place (i64.wrap (owner.tdiv 4),(↑(bt members).length:Int)))&&decide (place (i64.wrap (owner.tdiv 4),(↑(bt members).length:Int))<(↑(bt members).length:Int)))))
theorem X5:∀a:Int×Int,de (fun f=>aja f a) (QP a) (RN a)
 | (members,owner)=>ai (fun f=>abM f _ _) (ao (aI (cS ae)) (aI (aI (aI (cS ae)))))
theorem Uf:∀(r:Nat) (a:Int) (out:List Int) (i:Nat),(gz r (a,out,i)).length≤out.length+r:=by
 intro r;induction r with
 | zero=>intro a out i;exact azJ _
 | succ r ih=>
  intro a out i;simp only[gz];have h1:=ih a (out++[((i:Nat):Int)]) (i+1);have h2:=ih a out (i+1);simp only[azG,azL,az2]at h1;generalize (place _ == 1)=b;cases b
  ·simp only[azI];omega
  ·simp only[azH];omega
theorem Z7(a:Int):(bt a).length≤4:=by
 have:=Uf 4 a [] 0;exact this
noncomputable def Bs(m:Int):List Int:=bif decide ((bt m).length=0)then[2]else bt m
noncomputable def lq(a:Int×Int):jf:=(40,Bs a.1,[(Bs a.1).getD (place (a.2,((Bs a.1).length:Nat))).toNat 0,(Bs a.1).getD (place (i64.wrap (a.2.tdiv 4),((Bs a.1).length:Nat))).toNat 0])
theorem JT:∀a:Int×Int,QP a=true∧RN a=lq a:=by
 rintro⟨m,o⟩;have hl:=Z7 m;have key:∀l:List Int,0<l.length→∀k:Int,(decide (0≤place (k,(l.length:Nat)))&&decide (place (k,(l.length:Nat))<(l.length:Nat)))=true:=fun l hl k=>by
  obtain⟨g1,g2⟩:=cT k (s:=(l.length:Nat)) (by omega);rw[azC g1,azC g2];rfl
 simp only[QP,RN,lq,Bs];generalize i64.wrap (o.tdiv 4)=o4;by_cases hz:(bt m).length=0
 ·rw[show((((bt m).length:Nat):Int) == 0)=true by rw[hz];rfl,azC hz]
  simp only[azH];exact⟨aAk.2 ⟨key [2] (by simp) o,key [2] (by simp) o4⟩,rfl⟩
 ·rw[show((((bt m).length:Nat):Int) == 0)=false by rw[xm];exact azK (by omega),azK hz]
  simp only[azI];refine⟨?_,trivial⟩;have hp:∀k:Int,cP (k,(((bt m).length:Nat):Int))=true:=fun k=>azC (show(((bt m).length:Nat):Int)≤4611686018427387904 by omega)
  rw[key _ (by omega) o,key _ (by omega) o4,hp,hp];rfl
theorem ao9:∀a:Int×Int,(fun _=>true) a=true→QP a=true:=fun a _=>(JT a).1
theorem apa:∀a:Int×Int,(fun _=>true) a=true→RN a=lq a:=fun a _=>(JT a).2
noncomputable def adt:dn:=⟨14,[.c (zI),.c (zI)],[.g Jp],fun _=>true,lq⟩
theorem ads:zO adt:=fl ajP acp [.cell 4 30] mixed (ah VN (ah fk (aC))) Tryz.func14 (bp X5 ao9 apa)
