/- AI. -/
import Derived.Test.YtfggefeflojnkaaGreatY7
import Derived.MapFrom
set_option linter.unusedSimpArgs false
set_option linter.unusedVariables false
namespace Go.AL
open Go.Proofs Go.MapKept
def Zc.prun{α:Type}(P:Program):Sem α→Option α
 | .pure a=>some a
 | .program k=>Zc.prun P (k P)
 | _=>none
theorem Zc.ui{α:Type}{P:Program}{m:Sem α}{a:α}(h:Zc.prun P m=some a)(w:World):m.run P w=.ok a w:=by
 induction m with
 | pure b=>simp only[Zc.prun,azN]at h;subst h;rfl
 | program k ih=>exact ih P h
 | _=>simp[Zc.prun]at h
def Yh.v(x:aj):Value:=.agg #[.int .i64 x.1,.int .i64 x.2.1,.int .i64 x.2.2]
theorem Yh.bit{a b c d e f:Int}:((a == d)&&((b == e)&&((c == f)&&true)))=decide ((a,b,c)=(d,e,f)):=by
 by_cases h1:a=d
 ·by_cases h2:b=e
  ·by_cases h3:c=f
   ·simp[h1,h2,h3]
   ·simp[h1,h2,h3]
  ·simp[h1,h2]
 ·simp[h1]
theorem Yh.ao4(w:World)(x:aj):nT w (fun _=>False) [.int .i64 x.1,.int .i64 x.2.1,.int .i64 x.2.2] [.int .i64 x.1,.int .i64 x.2.1,.int .i64 x.2.2]:=by
 refine⟨rfl,fun j y hy=>?_⟩
 match j,hy with
 | 0,hy=>simp at hy;subst hy;exact⟨_,rfl,.int _ _⟩
 | 1,hy=>simp at hy;subst hy;exact⟨_,rfl,.int _ _⟩
 | 2,hy=>simp at hy;subst hy;exact⟨_,rfl,.int _ _⟩
 | j+3,hy=>simp at hy
theorem Yh.row(x:aj):valOf Tryz.prog 48 [.int .i64 x.1,.int .i64 x.2.1,.int .i64 x.2.2]=Yh.v x:=by kernel_rfl
theorem Yh.eq(x y:aj)(w:World):(Op.equal 48 (Yh.v x) (Yh.v y)).run Tryz.prog w=.ok (decide (x=y)) w:=by
 obtain⟨a,b,c⟩:=x;obtain⟨d,e,f⟩:=y;have h:=sM (P:=Tryz.prog) (fun _=>False) w 2 48 [true,true,true] (by kernel_rfl) Op.maxDepth (by decide) _ _ _ _ (decide ((a,b,c)=(d,e,f))) (Yh.ao4 w (a,b,c)) (Yh.ao4 w (d,e,f)) rfl
  (by show some _=some _;exact azT some Yh.bit) w
 rw[Yh.row (a,b,c),Yh.row (d,e,f)]at h;unfold Op.equal;exact h
theorem Yh.ck0(x:aj)(e:Bool):Zc.prun Tryz.prog (Instr.checkKey e 10000 48 (Yh.v x))=some ():=by kernel_rfl
theorem Yh.ck(x:aj)(e:Bool)(w:World):(Instr.checkKey e 10000 48 (Yh.v x)).run Tryz.prog w=.ok () w:=Zc.ui (Yh.ck0 x e) w
def Yh.E(ids:List aj)(l:List MapEntry):Prop:=l.map (fun e=>(e.key,e.val))=ids.map fun x=>(Yh.v x,.bool true)
theorem Yh.ask(x:aj)(w:World):∀(ids:List aj) (l:List MapEntry) (i:Nat),Yh.E ids l→
  ∃r,(Instr.findAsking 48 (Yh.v x) l i).run Tryz.prog w=.ok r w∧((x∉ids∧r=none)∨(x∈ids∧∃j e,r=some (i+j,.bool true)∧l[j]? = some e∧e.key=Yh.v x∧e.val=.bool true))
 | [],[],i,_=>⟨none,rfl,.inl ⟨by simp,rfl⟩⟩
 | [],_::_,i,h=>by simp[Yh.E]at h
 | _::_,[],i,h=>by simp[Yh.E]at h
 | y::ids,e::l,i,h=>by
  simp only[Yh.E,aAy,aBw,azY]at h;obtain⟨⟨h1,h2⟩,h3⟩:=h;by_cases uH:x=y
  ·subst uH
   refine⟨some (i,.bool true),?_,.inr ⟨by simp,0,e,rfl,rfl,h1,h2⟩⟩;simp only[Instr.findAsking,Sem.run_bind,h1,Yh.eq,Result.andThen_ok,aBP,aAo,h2];rfl
  ·obtain⟨r,g1,g2⟩:=Yh.ask x w ids l (i+1) h3
   refine⟨r,?_,?_⟩
   ·simp only[Instr.findAsking,Sem.run_bind,h1,Yh.eq,Result.andThen_ok,uH,decide_false,aAE,aAd]
    exact g1
   ·rcases g2 with⟨g2,g3⟩ | ⟨g2,j,e',g3,g4,g5⟩
    ·exact .inl ⟨by simp[uH,g2],g3⟩
    ·exact .inr ⟨by simp[g2],j+1,e',by rw[g3];congr 2;omega,g4,g5⟩
theorem Yh.find(x:aj)(w:World)(ids:List aj)(l:List MapEntry)(h:Yh.E ids l):
  ∃r,(Instr.findKey 48 (Yh.v x) l).run Tryz.prog w=.ok r w∧((x∉ids∧r=none)∨(x∈ids∧∃j e,r=some (j,.bool true)∧l[j]? = some e∧e.key=Yh.v x∧e.val=.bool true)):=by
 have hu:=Tryz.underlying48;cases ids with
 | nil=>
  cases l with
  | cons=>simp[Yh.E]at h
  | nil=>
   refine⟨none,?_,.inl ⟨by simp,rfl⟩⟩;simp only[Instr.findKey,Sem.run_bind,run_underlying hu,Result.andThen_ok,Instr.findNow];rfl
 | cons y ids=>
  cases l with
  | nil=>simp[Yh.E]at h
  | cons e l=>
   obtain⟨r,g1,g2⟩:=Yh.ask x w (y::ids) (e::l) 0 h;refine⟨r,?_,?_⟩
   ·have h1:e.key=Yh.v y:=by
     simp only[Yh.E,aAy,aBw,azY]at h;exact h.1.1
    simp only[Instr.findKey,Sem.run_bind,run_underlying hu,Result.andThen_ok,Instr.findNow,h1,Yh.v,Instr.sameNow];exact g1
   ·rcases g2 with g2 | ⟨g2,j,e',g3,g4⟩
    ·exact .inl g2
    ·exact .inr ⟨g2,j,e',by rw[g3,az8],g4⟩
def Yh.M(w:World)(r:Nat)(ids:List aj):Prop:=∃es c,w.heap[r]? = some (.map es c)∧Yh.E ids es.toList
def Yh.add(ids:List aj)(x:aj):List aj:=if x∈ids then ids else ids++[x]
theorem Yh.af0{ids:List aj}{x y:aj}:y∈Yh.add ids x↔y=x∨y∈ids:=by
 unfold Yh.add
 split
 ·rename_i h
  constructor
  ·exact .inr
  ·rintro(rfl | h1)
   ·exact h
   ·exact h1
 ·simp[or_comm]
theorem Yh.look{w:World}{r:Nat}{ids:List aj}(h:Yh.M w r ids)(x:aj):(Instr.lookup 111 (.map (some r)) (Yh.v x) false).run Tryz.prog w=.ok (.bool (decide (x∈ids))) w:=by
 obtain⟨es,c,h1,h2⟩:=h;have hu:=Tryz.underlying111;obtain⟨f,g1,g2⟩:=Yh.find x w ids es.toList h2;rcases g2 with⟨g2,rfl⟩ | ⟨g2,j,e,rfl,g4⟩
 ·have hz:(zeroValue 4).run Tryz.prog w=.ok (.bool false) w:=Zc.ui (by kernel_rfl) w
  simp only[Instr.lookup,Sem.run_bind,run_underlying hu,Result.andThen_ok,Sem.run_pure,MapKept.run_getObj_map h1,Yh.ck,g1,hz];simp[g2]
 ·simp only[Instr.lookup,Sem.run_bind,run_underlying hu,Result.andThen_ok,Sem.run_pure,MapKept.run_getObj_map h1,Yh.ck,g1]
  simp[g2]
theorem Yh.sb(x:aj):Instr.sameBits 10000 (Yh.v x) (Yh.v x)=true:=by
 simp[Yh.v,Instr.sameBits]
theorem Yh.H3{w:World}{r:Nat}{ids:List aj}(h:Yh.M w r ids)(x:aj):∃w',(Instr.mapUpdate 111 (.map (some r)) (Yh.v x) (.bool true)).run Tryz.prog w=.ok () w'∧Yh.M w' r (Yh.add ids x)∧∃o,w'={w with heap:=w.heap.setIfInBounds r o }:=by
 obtain⟨es,c,h1,h2⟩:=h;have hu:=Tryz.underlying111;obtain⟨f,g1,g2⟩:=Yh.find x w ids es.toList h2;rcases g2 with⟨g2,rfl⟩ | ⟨g2,j,e,rfl,g4,g5,g6⟩
 ·refine⟨{w with heap:=w.heap.setIfInBounds r (.map (es.push ⟨Yh.v x,.bool true,c⟩) (c+1)) },?_,⟨_,_,(heap_set h1).1,?_⟩,_,rfl⟩
  ·simp only[Instr.mapUpdate,Sem.run_bind,run_underlying hu,Result.andThen_ok,MapKept.run_getObj_map h1,Yh.ck,g1,MapKept.run_setObj_map _ h1]
  ·unfold Yh.add
   rw[azD g2];simp only[Yh.E,Array.toList_push,List.map_append,aAy,aBq];rw[h2]
 ·have hj:es[j]? = some e:=by simpa using g4
  refine⟨{w with heap:=w.heap.setIfInBounds r (.map (es.modify j fun e=>{e with key:=Yh.v x,val:=.bool true }) c) },?_,⟨_,_,(heap_set h1).1,?_⟩,_,rfl⟩
  ·simp only[Instr.mapUpdate,Sem.run_bind,run_underlying hu,Result.andThen_ok,MapKept.run_getObj_map h1,Yh.ck,g1,hj,az7,aAK,g5,Instr.keyThatStays,Yh.sb,aAo,Sem.run_pure,MapKept.run_setObj_map _ h1]
  ·unfold Yh.add
   rw[azE g2];unfold Yh.E at h2 ⊢;rw[← h2];apply List.ext_getElem?;intro n;simp only[aAv,aAG,aCj];by_cases hn:j=n
   ·subst hn
    rw[azE rfl,hj];simp[g5,g6]
   ·rw[azD hn]
theorem Yh.mk(w:World):(Instr.makeMap 111 none).run Tryz.prog w=.ok (.map (some w.heap.size)) (w.alloc (.map #[] 0))∧Yh.M (w.alloc (.map #[] 0)) w.heap.size []:=
 ⟨by simp[Instr.makeMap,Result.andThen],_,_,(heap_alloc w _).1,rfl⟩
theorem Yh.M.frame{w w':World}{r:Nat}{ids:List aj}(h:Yh.M w r ids)(he:w'.heap[r]? = w.heap[r]?):Yh.M w' r ids:=by
 obtain⟨es,c,h1,h2⟩:=h;exact⟨es,c,by rw[he];exact h1,h2⟩
open Go.Proofs
def uN(o:List aj)(l:List aL):List aj:=l.foldl (fun o s=>bif cB s then o else Yh.add o (xH s)) o
def jK(all:List ay):List aj:=all.foldl (fun o s=>uN o s.1) []
theorem J1(x:aj):∀(l:List aL) (o:List aj),x∈uN o l↔x∈o∨l.any (ZC x)=true
 | [],o=>by simp[uN]
 | s::l,o=>by
  have ih:=J1 x l (bif cB s then o else Yh.add o (xH s));show x∈uN (bif cB s then o else Yh.add o (xH s)) l↔_;rw[ih,aBS,aA8];have e:x∈(bif cB s then o else Yh.add o (xH s))↔x∈o∨ZC x s=true:=by
   unfold ZC;cases cB s with
   | true=>simp
   | false=>
    simp only[azI,aBh,azP,azM];rw[Yh.af0];constructor
    ·rintro(h | h)
     ·exact .inr h.symm
     ·exact .inl h
    ·rintro(h | h)
     ·exact .inr h
     ·exact .inl h.symm
  rw[e,or_assoc]
theorem PW(x:aj)(all:List ay):x∈jK all↔jL all x=true:=by
 have key:∀(l:List ay) (o:List aj),x∈l.foldl (fun o s=>uN o s.1) o↔x∈o∨l.any (fun s=>s.1.any (ZC x))=true:=by
  intro l;induction l with
  | nil=>intro o;simp
  | cons s l ih=>
   intro o;rw[aAN,ih,J1,aBS,aA8,or_assoc]
 unfold jK jL;rw[key];simp
theorem agt(all:List ay):(fun x=>decide (x∈jK all))=jL all:=by
 funext x
 cases h:jL all x with
 | true=>exact azC ((PW x all).2 h)
 | false=>exact azK fun h2=>by rw[(PW x all).1 h2]at h;cases h
def sf(h:aj→Bool)(d:List aj)(m:List Int)(l0:List aL):List bR→List aL→List bR→List dv→List aL×List bR×List dv
 | [],l,left,an=>(l,left,an)
 | r::q,l,left,an=>bif(ij h l0 r d m).2 then sf h d m l0 q (ny (l,(tZ r).2.1)) left (an++[((tZ r).2.1,(ij h l0 r d m).1)])else sf h d m l0 q l (left++[r]) an
def vq(h:aj→Bool)(d:List aj)(m:List Int)(s:ay):ay:=((sf h d m s.1 s.2.1 s.1 [] s.2.2.2.1).1,(sf h d m s.1 s.2.1 s.1 [] s.2.2.2.1).2.1,s.2.2.1,ca uB (sf h d m s.1 s.2.1 s.1 [] s.2.2.2.1).2.2,s.2.2.2.2)
def SmT(l l0:List aL):Prop:=l.map (fun s=>(cB s,xH s))=l0.map fun s=>(cB s,xH s)
theorem SmT.thr{l l0:List aL}(h:SmT l l0)(r:bR):Fq l r=Fq l0 r:=by
 have hl:l.length=l0.length:=by have:=azT List.length h;simpa using this
 have hg:∀k:Nat,cB (l.getD k iR)=cB (l0.getD k iR)∧xH (l.getD k iR)=xH (l0.getD k iR):=fun k=>by
  have:=azT (fun z=>z[k]?) h;simp only[aAv]at this;rw[aAm,aAm];cases h1:l[k]?<;>cases h2:l0[k]?<;>simp[h1,h2]at this ⊢
  exact this
 obtain⟨g1,g2⟩:=hg (sQ r).2.1.toNat;unfold Fq;rw[hl,g1,g2]
theorem SmT.out{l l0:List aL}(h:SmT l l0)(b:aj→Bool)(r:bR)(d:List aj)(m:List Int):ij b l r d m=ij b l0 r d m:=by
 unfold ij;rw[h.thr r]
theorem SmT.rel{l l0:List aL}(h:SmT l l0)(op:Int):SmT (ny (l,op)) l0:=by
 unfold SmT at *;rw[← h];unfold ny;rw[List.map_map];apply aAA;intro s hs;show(cB (mg op s),xH (mg op s))=(cB s,xH s);unfold mg;cases decide (Ju s=op)<;>rfl
theorem GK(h:aj→Bool)(d:List aj)(m:List Int)(l0:List aL):∀(q:List bR) (l:List aL) (left:List bR) (an:List dv),SmT l l0→sf h d m l0 q l left an=og h d m q l left an
 | [],l,left,an,hs=>rfl
 | r::q,l,left,an,hs=>by
  simp only[sf,og,hs.out];rw[GK h d m l0 q _ _ _ (hs.rel _),GK h d m l0 q _ _ _ hs]
theorem aaD(h:aj→Bool)(d:List aj)(m:List Int)(s:ay)(hs:s.2.2.2.1=[]):vq h d m s=sJ h d m s:=by
 unfold vq sJ;rw[hs,GK h d m s.1 s.2.1 s.1 [] [] rfl]
theorem PK(rs:List eB)(ow:List Int)(c:Int):∀(ss:List (ay×Int)) (out:List ag),XS rs ow c ss out=(ss.flatMap fun p=>(jQ (p.1.1,p.2)).filter (iG rs ow c)).foldl (fun s x=>cA cj x s) out
 | [],out=>rfl
 | (s,m)::r,out=>by
  rw[XS,PK rs ow c r,aBO,aBU]
def MK(rs:List eB)(ow:List Int)(c:Int)(ss:List (ay×Int)):List ag:=ca cj (ss.flatMap fun p=>(jQ (p.1.1,p.2)).filter (iG rs ow c))
theorem MJ(rs:List eB)(ow:List Int)(c:Int)(ss:List (ay×Int)):MK rs ow c ss=XS rs ow c ss []:=(PK rs ow c ss []).symm
def ig(au:Int)(ab:List cC)(d:List aj)(c:Int):ay:=((oe (dp (c,au,ab)).1 d).map nY,(dp (c,au,ab)).2.1,[],[],[],d)
theorem WR(x:aj):nw x iR=iR:=by
 unfold nw;cases h:sH x iR with
 | false=>rfl
 | true=>rfl
theorem WN(d:List aj)(n:Nat):oe (List.replicate n iR) d=List.replicate n iR:=by
 unfold oe;induction d with
 | nil=>rfl
 | cons x d ih=>
  rw[aAN];have:(tS (List.replicate n iR,x)).1=List.replicate n iR:=by
   show(List.replicate n iR).map (nw x)=_;rw[List.map_replicate,WR]
  rw[this];exact ih
theorem Bc(au:Int)(ab:List cC)(d:List aj)(c:Int):ig au ab d c=iU au ab d c:=by
 unfold ig iU dp
 dsimp only
 cases decide (bu (fun q:cC=>decide (q.1=c)) ab 0<0)with
 | true=>simp only[azH,WN,List.map_replicate];rfl
 | false=>rfl
def kZ(rs:List eB)(v:jf)(all:List ay):List ay→List Int→List ay
 | s::r,c::m=>(s.1,s.2.1,s.2.2.1,s.2.2.2.1,MK rs v.2.2 c (all.zip v.2.1),s.2.2.2.2.2)::kZ rs v all r m
 | _,_=>[]
theorem PF(rs:List eB)(v:jf)(all:List ay):∀(r:List ay) (m:List Int) (k:Nat),r.length=m.length→v.2.1.drop k=m→kZ rs v all r m=BZ rs v all r k
 | [],[],k,_,_=>rfl
 | s::r,c::m,k,h,hd=>by
  have e:v.2.1.getD k 0=c:=by
   rw[aAm,← List.head?_drop,hd];rfl
  simp only[kZ,BZ];rw[PF rs v all r m (k+1) (by simpa using h) (by rw[← List.tail_drop,hd];rfl),MJ,← e];rfl
 | [],_::_,k,h,_=>by simp at h
 | _::_,[],k,h,_=>by simp at h
def JH(a:List eB×Int×List cC×jf):List ay:=
 (fun d=>(fun o=>(fun o2=>kZ a.1 a.2.2.2 o2 o2 a.2.2.2.2.1) (o.map (vq (fun x=>decide (x∈jK o)) d a.2.2.2.2.1))) (a.2.2.2.2.1.map (ig a.2.1 a.2.2.1 d))) (nD (ca yK (allM a.2.2.1)))
theorem afI(a:List eB×Int×List cC×jf):JH a=gi a:=by
 obtain⟨rs,au,ab,v⟩:=a;unfold JH gi
 dsimp only
 rw[Gk,show ig au ab (aX ab)=iU au ab (aX ab)from funext fun c=>Bc _ _ _ c,agt];have e:(v.2.1.map (iU au ab (aX ab))).map (vq (jL (v.2.1.map (iU au ab (aX ab)))) (aX ab) v.2.1)=(v.2.1.map (iU au ab (aX ab))).map (sJ (jL (v.2.1.map (iU au ab (aX ab)))) (aX ab) v.2.1):=by
  apply aAA;intro s hs;obtain⟨c,_,rfl⟩:=az4.1 hs;refine aaD _ _ _ _ ?_;unfold iU;cases decide (bu (fun q:cC=>decide (q.1=c)) ab 0<0)<;>rfl
 rw[e];exact PF rs v _ _ v.2.1 0 (by simp) rfl
open Go.Proofs
def tQ(d:List aj)(s:aL):aL:=bif !cB s&&(decide (nU s∈d)&&!decide (nU s=(0,0,0)))then Ys sz (Ju s) (0,0,0)else s
theorem aeX(s:aL):tQ [] s=s:=by simp[tQ]
theorem aeY(d:List aj){s:aL}(h:cB s=true):tQ d s=s:=by unfold tQ;rw[h];rfl
theorem WO(x:aj)(d:List aj)(s:aL):tQ d (nw x s)=tQ (x::d) s:=by
 unfold nw;cases h:sH x s with
 | true=>
  rw[azH,aeY d (show cB (Ys sz (Ju s) (0,0,0))=true from rfl)];unfold sH at h;simp only[azF,azM,aAi,aB6]at h;obtain⟨h1,h2,h3⟩:=h;unfold tQ;rw[h1,h2,azC (show x∈x::d from az1),azK h3];rfl
 | false=>
  rw[azI];unfold tQ;cases h1:cB s with
  | true=>rfl
  | false=>
   by_cases h3:nU s=(0,0,0)
   ·rw[azC h3];simp
   ·have hx:¬ nU s=x:=fun e=>by
     unfold sH at h;rw[h1,azC e,azK (fun e2=>h3 (e.trans e2))]at h;cases h
    rw[aBB.2 (show nU s∈d↔nU s∈x::d by simp[hx])]
theorem Fs:∀(d:List aj) (l:List aL),oe l d=l.map (tQ d)
 | [],l=>by
  show l=_;rw[show tQ []=id from funext aeX,aAW]
 | x::d,l=>by
  show oe (l.map (nw x)) d=_;rw[Fs d,List.map_map];exact aAA fun s _=>WO x d s
def nlk(s:aL):cu×aj:=(snd s,nU s)
theorem afC(op:Int)(l:List aL):(ny (l,op)).map nlk=l.map nlk:=by
 show(l.map (mg op)).map nlk=_;rw[List.map_map];apply aAA;intro s _;show nlk (mg op s)=nlk s;unfold mg;cases decide (Ju s=op)<;>rfl
theorem Ft(h:aj→Bool)(d:List aj)(m:List Int):∀(q:List bR) (l:List aL) (left:List bR) (an:List dv),(og h d m q l left an).1.map nlk=l.map nlk
 | [],l,left,an=>rfl
 | r::q,l,left,an=>by
  simp only[og];cases (ij h l r d m).2 with
  | true=>rw[azH,Ft h d m q,afC]
  | false=>rw[azI,Ft h d m q]
theorem uW(rs:List eB)(v:jf)(all:List ay):∀(r:List ay) (k i:Nat),(BZ rs v all r k)[i]? = (r[i]?).map fun s=>(s.1,s.2.1,s.2.2.1,s.2.2.2.1,MR (rs,all,((k+i:Nat):Int),v),s.2.2.2.2.2)
 | [],k,i=>rfl
 | s::r,k,0=>rfl
 | s::r,k,i+1=>by
  simp only[BZ,aBp];rw[uW rs v all r (k+1) i,show k+1+i=k+(i+1)by omega]
def Dr(a:List eB×Int×List cC×jf):List ay:=a.2.2.2.2.1.map (iU a.2.1 a.2.2.1 (aX a.2.2.1))
theorem zi(a:List eB×Int×List cC×jf){i:Nat}{c:Int}(hc:a.2.2.2.2.1[i]? = some c):
  ∃s,(gi a)[i]? = some s∧(s.1,s.2.1,s.2.2.1,s.2.2.2.1,s.2.2.2.2.2)=(fun t:ay=>(t.1,t.2.1,t.2.2.1,t.2.2.2.1,t.2.2.2.2.2)) (sJ (jL (Dr a)) (aX a.2.2.1) a.2.2.2.2.1 (iU a.2.1 a.2.2.1 (aX a.2.2.1) c)):=by
 unfold gi
 dsimp only
 rw[uW,aAv,aAv,hc];exact⟨_,rfl,rfl⟩
theorem PA(a:List eB×Int×List cC×jf):(gi a).length=a.2.2.2.2.1.length:=by
 unfold gi
 dsimp only
 rw[KH,aA7,aA7]
theorem S7(a:List eB×Int×List cC×jf){i:Nat}{c:Int}(hc:a.2.2.2.2.1[i]? = some c):
  ∃s,(gi a)[i]? = some s∧s.1.map nlk=((dp (c,a.2.1,a.2.2.1)).1.map (tQ (aX a.2.2.1))).map fun x=>(snd x,(0,0,0)):=by
 obtain⟨s,h1,h2⟩:=zi a hc;refine⟨s,h1,?_⟩;have h3:s.1=(sJ (jL (Dr a)) (aX a.2.2.1) a.2.2.2.2.1 (iU a.2.1 a.2.2.1 (aX a.2.2.1) c)).1:=azT (·.1) h2;rw[h3];unfold sJ;rw[Ft,← Bc];unfold ig;rw[Fs,List.map_map];rfl
theorem Fu(h:aj→Bool)(d:List aj)(m:List Int)(l0:List aL):∀(q:List bR) (l:List aL) (left:List bR) (an:List dv),SmT l l0→
  og h d m q l left an=((q.filter fun r=>(ij h l0 r d m).2).foldl (fun l r=>ny (l,(tZ r).2.1)) l,left++q.filter (fun r=>!(ij h l0 r d m).2),an++(q.filter fun r=>(ij h l0 r d m).2).map fun r=>((tZ r).2.1,(ij h l0 r d m).1))
 | [],l,left,an,hs=>by simp[og]
 | r::q,l,left,an,hs=>by
  simp only[og,hs.out];cases hb:(ij h l0 r d m).2 with
  | true=>rw[azH,Fu h d m l0 q _ _ _ (hs.rel _),aCp (by exact hb),aB7 (by rw[hb];simp)];simp
  | false=>rw[azI,Fu h d m l0 q _ _ _ hs,aB7 (by rw[hb];simp),aCp (by rw[hb];rfl)];simp
def UJ(op:Int)(l:List aL):Prop:=∀s∈l,Ju s ≠ op
theorem X7{op:Int}(h:op ≠ 0)(l:List aL):UJ op (ny (l,op)):=fun s hs=>by
 obtain⟨x,_,rfl⟩:=az4.1 (show s∈l.map (mg op)from hs);unfold mg;by_cases hx:Ju x=op
 ·rw[azC hx];exact fun e=>h e.symm
 ·rw[azK hx];exact hx
theorem Tx{op:Int}(h:op ≠ 0)(op':Int){l:List aL}(hl:UJ op l):UJ op (ny (l,op')):=fun s hs=>by
 obtain⟨x,hx,rfl⟩:=az4.1 (show s∈l.map (mg op')from hs);unfold mg;cases decide (Ju x=op')with
 | true=>exact fun e=>h e.symm
 | false=>exact hl x hx
theorem Ea{op:Int}(h:op ≠ 0):∀(q:List bR) (l:List aL),(UJ op l∨∃r∈q,(tZ r).2.1=op)→UJ op (q.foldl (fun l r=>ny (l,(tZ r).2.1)) l)
 | [],l,hl=>by
  rcases hl with hl | ⟨r,hr,_⟩
  ·exact hl
  ·simp at hr
 | r::q,l,hl=>by
  rw[aAN];refine Ea h q _ ?_;rcases hl with hl | ⟨x,hx,e⟩
  ·exact .inl (Tx h _ hl)
  ·rcases azW.1 hx with rfl | hx
   ·exact .inl (by rw[e];exact X7 h l)
   ·exact .inr ⟨x,hx,e⟩
def knB(a:List eB×Int×List cC×jf)(c:Int)(r:bR):Bool:=(ij (jL (Dr a)) (iU a.2.1 a.2.2.1 (aX a.2.2.1) c).1 r (aX a.2.2.1) a.2.2.2.2.1).2
theorem aft(a:List eB×Int×List cC×jf){i:Nat}{c:Int}(hc:a.2.2.2.2.1[i]? = some c):
  ∃s,(gi a)[i]? = some s∧s.2.1=(dp (c,a.2.1,a.2.2.1)).2.1.filter (fun r=>!knB a c r)∧s.2.2.2.1.length=((dp (c,a.2.1,a.2.2.1)).2.1.filter (knB a c)).length∧
   ∀r∈(dp (c,a.2.1,a.2.2.1)).2.1,knB a c r=true→(tZ r).2.1 ≠ 0→UJ (tZ r).2.1 s.1:=by
 obtain⟨s,h1,h2⟩:=zi a hc;have hq:(iU a.2.1 a.2.2.1 (aX a.2.2.1) c).2.1=(dp (c,a.2.1,a.2.2.1)).2.1:=by rw[← Bc];rfl
 have e1:s.1=(sJ (jL (Dr a)) (aX a.2.2.1) a.2.2.2.2.1 (iU a.2.1 a.2.2.1 (aX a.2.2.1) c)).1:=azT (·.1) h2;have e2:s.2.1=(sJ (jL (Dr a)) (aX a.2.2.1) a.2.2.2.2.1 (iU a.2.1 a.2.2.1 (aX a.2.2.1) c)).2.1:=azT (·.2.1) h2;have e3:s.2.2.2.1=(sJ (jL (Dr a)) (aX a.2.2.1) a.2.2.2.2.1 (iU a.2.1 a.2.2.1 (aX a.2.2.1) c)).2.2.2.1:=azT (·.2.2.2.1) h2;unfold sJ at e1 e2 e3;rw[Fu _ _ _ (iU a.2.1 a.2.2.1 (aX a.2.2.1) c).1 _ _ _ _ rfl,hq]at e1 e2 e3;refine⟨s,h1,?_,?_,fun r hr hk h0=>?_⟩
 ·rw[e2];rfl
 ·rw[e3,bh];simp only[aAs,aA7];rfl
 ·rw[e1]
  exact Ea h0 _ _ (.inr ⟨r,aBN.2 ⟨hr,hk⟩,rfl⟩)
open Go.Proofs
theorem Fv{l:List cC}{i:Nat}{r:cC}{n:Int}(hi:l[i]? = some r)(hb:∀j,j<i→∀x,l[j]? = some x→x.1 ≠ r.1):dp (r.1,n,l)=(r.2.2.2.2.1,r.2.2.2.2.2.1,[],[],[],[]):=by
 have bO:=(azR.1 hi).1;have hd:l.drop i=r::l.drop (i+1):=by
  rw[aA4 bO]
  congr 1
  rw[azS bO]at hi;exact az9 hi
 have ha:(l.take i).any (fun q=>decide (q.1=r.1))=false:=by
  rw[aBD];intro x hx;obtain⟨j,hj⟩:=aBW.1 hx;rw[aAx]at hj
  split at hj
  ·rename_i h1
   simpa using hb j h1 x hj
  ·cases hj
 have hf:bu (fun q:cC=>decide (q.1=r.1)) l 0=((i:Nat):Int):=by
  rw[(BU l 0 i r _ hd (azC rfl)).2 ha,Int.zero_add]
 unfold dp
 dsimp only
 rw[hf,azK (show ¬((i:Nat):Int)<0 by omega),aAn,aAm,hi];rfl
def agR(v:jf)(p:ay×Int):cC:=(p.2,v.1,v.2.1,v.2.2,p.1.1,p.1.2.1,[],[],[],[],false,0,[],[],[],[],[],[],[],[])
def agL(v:jf)(out:List ay):List cC:=(out.zip v.2.1).map (agR v)
theorem agI(v:jf)(out:List ay):aX (agL v out)=[]:=by
 have:∀(l:List (ay×Int)) (o:List aj),(l.map (agR v)).foldl (fun o r=>(rR r).foldl (fun o m=>qf o m.2) o) o=o:=fun l=>by
  induction l with
  | nil=>intro o;rfl
  | cons p l ih=>intro o;exact ih o
 exact this _ []
theorem arW{v:jf}{out:List ay}(hn:v.2.1.Nodup)(hl:out.length=v.2.1.length){i:Nat}{c:Int}{s:ay}(hc:v.2.1[i]? = some c)(hs:out[i]? = some s)(n:Int):dp (c,n,agL v out)=(s.1,s.2.1,[],[],[],[]):=by
 have hi:(agL v out)[i]? = some (agR v (s,c)):=by
  have hz:(out.zip v.2.1)[i]? = some (s,c):=aCq.2 ⟨hs,hc⟩;unfold agL;rw[aAv,hz];rfl
 have:=Fv (n:=n) hi fun j hj x hx=>by
  unfold agL at hx;rw[aAv]at hx;obtain⟨p,hp,rfl⟩:=aBu.1 hx;obtain⟨h1,h2⟩:=aCq.1 hp;show p.2 ≠ c;intro e;have e2:v.2.1[j]? = v.2.1[i]?:=by rw[h2,hc,e]
  have hj':=(azR.1 h2).1;have:=(List.getElem?_inj hj' hn).1 e2;omega
 exact this
theorem aiu(a:List eB×Int×List cC×jf){i:Nat}{c:Int}(hc:a.2.2.2.2.1[i]? = some c){s:ay}(hs:(gi a)[i]? = some s):∀x∈s.1,nU x=(0,0,0):=by
 obtain⟨s',h1,h2⟩:=S7 a hc;rw[hs]at h1;cases h1;intro x hx;have h3:nlk x∈s.1.map nlk:=List.mem_map_of_mem hx;rw[h2,az4]at h3;obtain⟨y,_,h4⟩:=h3;exact(azT Prod.snd h4).symm
theorem aqm{l:List aL}(h:∀x∈l,nU x=(0,0,0)):l.map nY=l:=by
 have:l.map nY=l.map id:=aAA fun s hs=>by
  show Ys (snd s) (Ju s) (0,0,0)=s;rw[← h s hs];rfl
 rw[this,aAW]
theorem aiB{a:List eB×Int×List cC×jf}(hn:a.2.2.2.2.1.Nodup){i:Nat}{c:Int}{s:ay}(hc:a.2.2.2.2.1[i]? = some c)(hs:(gi a)[i]? = some s)(n:Int):iU n (agL a.2.2.2 (gi a)) [] c=(s.1,s.2.1,[],[],[],[]):=by
 rw[← Bc];unfold ig;rw[arW hn (PA a) hc hs n];show((oe s.1 []).map nY,s.2.1,[],[],[],[])=_;rw[show oe s.1 []=s.1 from rfl,aqm (aiu a hc hs)]
theorem SmT.has{l l0:List aL}(h:SmT l l0)(x:aj):l.any (ZC x)=l0.any (ZC x):=by
 have key:∀q:List aL,q.any (ZC x)=(q.map fun s=>(cB s,xH s)).any fun p=>!p.1&&decide (p.2=x):=fun q=>by rw[List.any_map];rfl
 rw[key,key,h]
theorem agy(l0:List aL):∀(q:List bR) (l:List aL),SmT l l0→SmT (q.foldl (fun l r=>ny (l,(tZ r).2.1)) l) l0
 | [],l,h=>h
 | r::q,l,h=>agy l0 q _ (h.rel _)
theorem ahO(a:List eB×Int×List cC×jf){i:Nat}{c:Int}(hc:a.2.2.2.2.1[i]? = some c){s:ay}(hs:(gi a)[i]? = some s):
  SmT s.1 (iU a.2.1 a.2.2.1 (aX a.2.2.1) c).1∧∀r∈s.2.1,knB a c r=false:=by
 obtain⟨s',h1,h2⟩:=zi a hc;rw[hs]at h1;cases h1;have e1:s.1=(sJ (jL (Dr a)) (aX a.2.2.1) a.2.2.2.2.1 (iU a.2.1 a.2.2.1 (aX a.2.2.1) c)).1:=azT (·.1) h2;have e2:s.2.1=(sJ (jL (Dr a)) (aX a.2.2.1) a.2.2.2.2.1 (iU a.2.1 a.2.2.1 (aX a.2.2.1) c)).2.1:=azT (·.2.1) h2;unfold sJ at e1 e2;rw[Fu _ _ _ (iU a.2.1 a.2.2.1 (aX a.2.2.1) c).1 _ _ _ _ rfl]at e1 e2;refine⟨by rw[e1];exact agy _ _ _ rfl,fun r hr=>?_⟩;rw[e2]at hr;simp only[aAs,aBN,aAi]at hr;exact hr.2
theorem anQ{a:List eB×Int×List cC×jf}(hn:a.2.2.2.2.1.Nodup)(n:Int):jL (Dr (a.1,n,agL a.2.2.2 (gi a),a.2.2.2))=jL (Dr a):=by
 funext x
 unfold jL Dr;rw[List.any_map,List.any_map];have key:∀c∈a.2.2.2.2.1,((fun s:ay=>s.1.any (ZC x)) ∘ iU n (agL a.2.2.2 (gi a)) (aX (agL a.2.2.2 (gi a)))) c=((fun s:ay=>s.1.any (ZC x)) ∘ iU a.2.1 a.2.2.1 (aX a.2.2.1)) c:=fun c hc=>by
  obtain⟨i,hi⟩:=aBW.1 hc;obtain⟨s,hs,_⟩:=zi a hi;show(iU n (agL a.2.2.2 (gi a)) (aX (agL a.2.2.2 (gi a))) c).1.any (ZC x)=(iU a.2.1 a.2.2.1 (aX a.2.2.1) c).1.any (ZC x);rw[agI,aiB hn hi hs n];exact(ahO a hi hs).1.has x
 rw[aBM,aBm,aBm];constructor
 ·rintro⟨c,hc,h⟩;exact⟨c,hc,by rw[← key c hc];exact h⟩
 ·rintro⟨c,hc,h⟩;exact⟨c,hc,by rw[key c hc];exact h⟩
theorem agC{a:List eB×Int×List cC×jf}{i:Nat}{c:Int}(hc:a.2.2.2.2.1[i]? = some c){s:ay}(hs:(gi a)[i]? = some s){r:bR}(hr:r∈s.2.1):(ij (jL (Dr a)) s.1 r [] a.2.2.2.2.1).2=false:=by
 obtain⟨h1,h2⟩:=ahO a hc hs;have h3:=h2 r hr;unfold knB at h3;rw[h1.out];unfold ij at h3 ⊢;cases h6:decide ((sQ r).1=6)with
 | true=>rfl
 | false=>rw[h6]at h3;exact h3
theorem arV{a:List eB×Int×List cC×jf}(hn:a.2.2.2.2.1.Nodup){i:Nat}{c:Int}(hc:a.2.2.2.2.1[i]? = some c){s:ay}(hs:(gi a)[i]? = some s)(n:Int):
  sJ (jL (Dr (a.1,n,agL a.2.2.2 (gi a),a.2.2.2))) (aX (agL a.2.2.2 (gi a))) a.2.2.2.2.1 (iU n (agL a.2.2.2 (gi a)) (aX (agL a.2.2.2 (gi a))) c)=(s.1,s.2.1,[],[],[],[]):=by
 rw[anQ hn n,agI,aiB hn hc hs n];have e1:(s.2.1.filter fun r=>(ij (jL (Dr a)) s.1 r [] a.2.2.2.2.1).2)=[]:=aCd.2 fun r hr=>by rw[agC hc hs hr];simp
 have e2:(s.2.1.filter fun r=>!(ij (jL (Dr a)) s.1 r [] a.2.2.2.2.1).2)=s.2.1:=List.filter_eq_self.2 fun r hr=>by rw[agC hc hs hr];rfl
 unfold sJ
 dsimp only
 rw[Fu _ _ _ s.1 _ _ _ _ rfl,e1,e2];rfl
def Tw(a:List eB×Int×List cC×jf):List ay:=(Dr a).map (sJ (jL (Dr a)) (aX a.2.2.1) a.2.2.2.2.1)
theorem MA(a:List eB×Int×List cC×jf):gi a=BZ a.1 a.2.2.2 (Tw a) (Tw a) 0:=rfl
theorem agB(rs:List eB)(ow:List Int)(c:Int):∀(p q:List ay) (m:List Int) (out:List ag),p.map (·.1)=q.map (·.1)→XS rs ow c (p.zip m) out=XS rs ow c (q.zip m) out
 | [],[],m,out,h=>rfl
 | [],y::q,m,out,h=>by simp at h
 | x::p,[],m,out,h=>by simp at h
 | x::p,y::q,[],out,h=>rfl
 | x::p,y::q,c'::m,out,h=>by
  simp only[aAy,aBw]at h;simp only[List.zip_cons_cons,XS,h.1];exact agB rs ow c p q m _ h.2
theorem aid{a:List eB×Int×List cC×jf}(hn:a.2.2.2.2.1.Nodup)(n:Int){i:Nat}{s:ay}(hs:(gi a)[i]? = some s):
  (gi (a.1,n,agL a.2.2.2 (gi a),a.2.2.2))[i]? = some (s.1,s.2.1,[],[],s.2.2.2.2.1,[]):=by
 obtain⟨c,hc⟩:∃c,a.2.2.2.2.1[i]? = some c:=by
  have:=(azR.1 hs).1;rw[PA]at this;exact⟨_,azS this⟩
 have ho:∀(j:Nat) (c:Int) (t:ay),a.2.2.2.2.1[j]? = some c→(gi a)[j]? = some t→(Tw (a.1,n,agL a.2.2.2 (gi a),a.2.2.2))[j]? = some (t.1,t.2.1,[],[],[],[]):=fun j c t hj ht=>by
  unfold Tw;rw[aAv];unfold Dr;rw[aAv,hj];exact azT some (arV hn hj ht n)
 have hf:(Tw (a.1,n,agL a.2.2.2 (gi a),a.2.2.2)).map (·.1)=(Tw a).map (·.1):=by
  rw[show(Tw a).map (·.1)=(gi a).map (·.1)by rw[MA,KJ]];apply List.ext_getElem?;intro j;rw[aAv,aAv];cases hj:a.2.2.2.2.1[j]? with
  | some c=>
   obtain⟨t,ht,_⟩:=zi a hj;rw[ho j c t hj ht,ht];rfl
  | none=>
   have h1:(gi a)[j]? = none:=by
    rw[List.getElem?_eq_none_iff]at hj ⊢;rw[PA];exact hj
   have h2:(Tw (a.1,n,agL a.2.2.2 (gi a),a.2.2.2))[j]? = none:=by
    unfold Tw Dr;rw[aAv,aAv,hj];rfl
   rw[h1,h2]
   try rfl
 have Qc:=hs;rw[MA,uW]at Qc;obtain⟨t,ht,rfl⟩:=aBu.1 Qc;rw[MA,uW,ho i c _ hc hs];have:MR (a.1,Tw (a.1,n,agL a.2.2.2 (gi a),a.2.2.2),((0+i:Nat):Int),a.2.2.2)=MR (a.1,Tw a,((0+i:Nat):Int),a.2.2.2):=agB _ _ _ _ _ _ _ hf;simp only[az7];rw[this]
open Go.Proofs
open Go.Proofs
theorem J3(c:Int)(e:ag):∀(l:List aL) (k:Nat),e∈wZ c l k↔∃(j:Nat) (s:aL),l[j]? = some s∧cB s=false∧e=(c,((k+j:Nat):Int),snd s)
 | [],k=>by simp[wZ]
 | s::l,k=>by
  have ih:=J3 c e l (k+1);have key:(∃(j:Nat) (t:aL),(s::l)[j]? = some t∧cB t=false∧e=(c,((k+j:Nat):Int),snd t))↔(cB s=false∧e=(c,((k:Nat):Int),snd s))∨∃(j:Nat) (t:aL),l[j]? = some t∧cB t=false∧e=(c,((k+1+j:Nat):Int),snd t):=by
   constructor
   ·rintro⟨j,t,h1,h2,h3⟩
    cases j with
    | zero=>simp at h1;subst h1;exact .inl ⟨h2,h3⟩
    | succ j=>exact .inr ⟨j,t,by simpa using h1,h2,by rw[h3];congr 3;omega⟩
   ·rintro(⟨h1,h2⟩ | ⟨j,t,h1,h2,h3⟩)
    ·exact⟨0,s,rfl,h1,h2⟩
    ·exact⟨j+1,t,by simpa using h1,h2,by rw[h3];congr 3;omega⟩
  rw[key,← ih];simp only[wZ];cases hb:cB s with
  | true=>simp
  | false=>simp;rfl
theorem J2(c:Int)(e:ag)(l:List aL):e∈jQ (l,c)↔∃(j:Nat) (s:aL),l[j]? = some s∧cB s=false∧e=(c,((j:Nat):Int),snd s):=by
 unfold jQ;rw[(lb _).mem_iff,J3];simp only[az8]
theorem afZ(rs:List eB)(all:List ay)(v:jf)(k:Nat)(e:ag):e∈MR (rs,all,((k:Nat):Int),v)↔iG rs v.2.2 (v.2.1.getD k 0) e=true∧∃(i:Nat) (t:ay) (c:Int),all[i]? = some t∧v.2.1[i]? = some c∧∃(j:Nat) (s:aL),t.1[j]? = some s∧cB s=false∧e=(c,((j:Nat):Int),snd s):=by
 have e1:MR (rs,all,((k:Nat):Int),v)=MK rs v.2.2 (v.2.1.getD k 0) (all.zip v.2.1):=by
  rw[MJ];rfl
 rw[e1];unfold MK;rw[(lb _).mem_iff,aCc];constructor
 ·rintro⟨⟨t,c⟩,hp,he⟩
  obtain⟨h1,h2⟩:=aBN.1 he;obtain⟨i,hi⟩:=aBW.1 hp;obtain⟨h3,h4⟩:=aCq.1 hi;exact⟨h2,i,t,c,h3,h4,(J2 c e t.1).1 h1⟩
 ·rintro⟨h2,i,t,c,h3,h4,h5⟩
  have hz:(all.zip v.2.1)[i]? = some (t,c):=aCq.2 ⟨h3,h4⟩;exact⟨(t,c),azO hz,aBN.2 ⟨(J2 c e t.1).2 h5,h2⟩⟩
theorem Xr(a:List eB×Int×List cC×jf){k:Nat}{t:ay}(ht:(gi a)[k]? = some t)(e:ag):
  e∈t.2.2.2.2.1↔iG a.1 a.2.2.2.2.2 (a.2.2.2.2.1.getD k 0) e=true∧∃(i:Nat) (u:ay) (c:Int),(gi a)[i]? = some u∧a.2.2.2.2.1[i]? = some c∧∃(j:Nat) (s:aL),u.1[j]? = some s∧cB s=false∧e=(c,((j:Nat):Int),snd s):=by
 have h2:=ht;rw[MA,uW]at h2;obtain⟨t0,_,rfl⟩:=aBu.1 h2;show e∈MR (a.1,Tw a,((0+k:Nat):Int),a.2.2.2)↔_;rw[az8,afZ];have key:∀(i j:Nat) (s:aL),(∃u:ay,(Tw a)[i]? = some u∧u.1[j]? = some s)↔∃u:ay,(gi a)[i]? = some u∧u.1[j]? = some s:=fun i j s=>by
  have hf:(gi a).map (·.1)=(Tw a).map (·.1):=by rw[MA,KJ]
  have hfi:=azT (fun z=>z[i]?) hf;simp only[aAv]at hfi;constructor
  ·rintro⟨u,h1,h2⟩
   rw[h1]at hfi;obtain⟨w,hw,he⟩:=aBu.1 hfi;exact⟨w,hw,by rw[he];exact h2⟩
  ·rintro⟨u,h1,h2⟩
   rw[h1]at hfi;obtain⟨w,hw,he⟩:=aBu.1 hfi.symm;exact⟨w,hw,by rw[he];exact h2⟩
 constructor
 ·rintro⟨h1,i,u,c,h3,h4,j,s,h5,h6,h7⟩
  obtain⟨u',g1,g2⟩:=(key i j s).1 ⟨u,h3,h5⟩;exact⟨h1,i,u',c,g1,h4,j,s,g2,h6,h7⟩
 ·rintro⟨h1,i,u,c,h3,h4,j,s,h5,h6,h7⟩
  obtain⟨u',g1,g2⟩:=(key i j s).2 ⟨u,h3,h5⟩;exact⟨h1,i,u',c,g1,h4,j,s,g2,h6,h7⟩
open Go.Proofs
