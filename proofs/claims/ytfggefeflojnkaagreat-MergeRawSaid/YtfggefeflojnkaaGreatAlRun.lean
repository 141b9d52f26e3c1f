/- By an AI agent. -/
import Derived.Test.YtfggefeflojnkaaGreatAlMem
import Derived.Deep.LoopGhost
import Derived.Scope
namespace Go.AL
section
variable {P:Program} {w0:World} {I:sy} {A0:Nat→Prop} {n:Nat} {s:St} {a:Act} {w:World} {β:Nat→Option Nat} {A:Nat→Prop}
theorem RB.store(R:RB w0 I A0 n s a w β A){t:TypeId}{x y:V}{cx cy:Value}(hx:Rel ⟨w,A,s.h,β⟩ x cx)(hy:Rel ⟨w,A,s.h,β⟩ y cy){p:Prop}{o:Nat}{ob':Ob}(h:fg P s.h t x y=.H7 p o ob')(hp:p)(ht:0<aB P t)
  (dst:Option Tmp) (hd:∀k,dst=some k→k<n) :
  ∃w',(Instr.storeAt t cx cy).run P w=.ok () w'∧RR w0 I A0 n ((s.ca o ob').put dst .dead) (a.put dst undef) w':=by
 unfold fg at h
 split at h<;>try (cases h;done)
 rename_i o m i j
 split at h<;>try (cases h;done)
 rename_i ob ho
 split at h<;>try (cases h;done)
 rename_i row aO;simp only[AR.H7.injEq]at h;obtain⟨rfl,rfl,rfl⟩:=h;obtain⟨p1,p2,p3,p4⟩:=hp;obtain⟨b,hb,rfl⟩:=(hx ob ho).2 p1;simp only at hb;have aX:=R.cq.ok o ob ho;simp only at aX;rw[hb]at aX;obtain⟨_,cur,hh,bQ,hlen,iu⟩:=aX;simp only at hh iu;have hcy:=Cells.Fm hy p2;have sK:cy.cells.size=y.cells.length:=by simpa using hcy.1
 obtain⟨ti,rT,dC⟩:=j7 (P:=P) (t:=t) rfl ht;have DP:=bQ row (aCC aO);have oh:=(aCD.1 aO).1;have hrb:(i+1)*ob.es≤cur.size:=aCO (aDa _ oh) hlen;rw[aCZ]at hrb;have wJ:=run_storeCells_at (P:=P) b (i*ob.es+j) ob.ty cy.cells.toList 0 cur w hh (by simp only[aDM,sK];omega) (fun u hu=>by
  obtain⟨k,hk⟩:=aDf hu;have wK:k<y.cells.length:=by rw[← hcy.1];exact(aCD.1 hk).1
  obtain⟨u',u1,u2,_⟩:=hcy.2 k _ (aCF wK);rw[hk]at u1;cases u1;exact u2)
 obtain⟨cur',aa3⟩:∃cur',cur'=(cur.toList.take (i*ob.es+j+0)++cy.cells.toList++cur.toList.drop (i*ob.es+j+0+cy.cells.toList.length)).toArray:=⟨_,rfl⟩;rw[← aa3]at wJ;have xj:cur'.size=cur.size:=by
  rw[aa3];simp only[aDY,aCp,aCV,aC2,aDM,sK];omega
 have C5:∀k,cur'[k]? = if i*ob.es+j≤k∧k<i*ob.es+j+y.cells.length then cy.cells[k-(i*ob.es+j)]? else cur[k]?:=by
  intro k;rw[aa3];simp only[aD9,aEs,aDg];have aoF:(cur.toList.take (i*ob.es+j)).length=i*ob.es+j:=by simp;omega
  by_cases c1:k<i*ob.es+j
  ·rw[aC6 (by rw[aoF];exact c1),aDs,aCr c1,aCo (by omega)]
   simp
  ·rw[aCY (by rw[aoF];omega),aoF]
   by_cases c2:k-(i*ob.es+j)<y.cells.length
   ·rw[aC6 (by simp[sK];omega),aCr (by omega)]
    simp
   ·rw[aCY (by simp[sK];omega),aCo (by omega),aDQ]
    simp only[aDM,sK,aDy]
    congr 1
    omega
 have hpl:(putAt row j y.cells).length=row.length:=by
  simp only[putAt,aCp,aCV,aC2];omega
 refine⟨w.setRow b cur',?_,_,_,R.ahz o ob {ob with imp:=ob.imp || !y.pure,rows:=ob.rows.set i (putAt row j y.cells) } ho rfl rfl (by simp) (w.setRow b cur') b cur' (setRow_heap w b cur cur' ob.ty (0,0) hh) (.inl ⟨hb,fun c hc=>?_⟩) ?_ ?_ ⟨rfl,rfl,rfl⟩ ?_ ?_ ?_ dst hd .dead undef (.inl rfl)⟩
 ·have aia:cy.cells.size=ti.size:=by rw[sK,p3,dC]
  simp only[Instr.storeAt,Instr.sureAddr,Sem.run_bind,Sem.run_pure,Result.andThen_ok,storeVar,sizeOf,typeInfo];simp[rT,aia];exact wJ
 ·rw[hh]at hc;simp at hc;rw[← hc];exact xj
 ·intro k hk ec
  exact setRow_other w b k cur' (fun e=>ec (by rw[hb,e]))
 ·simp[World.setRow]
 ·intro r hr
  simp only at hr;rcases List.mem_or_eq_of_mem_set hr with h | h
  ·exact bQ r h
  ·rw[h,hpl,DP]
 ·simp only[aCx];rw[xj];exact hlen
 ·intro i' gk kh j' x sG
  simp only at kh;have sT:∀(Y1:List V),ob.rows[i']? = some Y1→Y1[j']? = some x→(i'=i→¬ (j≤j'∧j'<j+y.cells.length))→
    ∃v,cur'[i'*ob.es+j']? = some v∧v.oneCell'=true∧bB ⟨w,A,s.h,β⟩ x v∧((ob.imp || !y.pure)=false→bh w A x v):=by
   intro Y1 h0 h1 ec;obtain⟨v,c1,c2,c3,c4⟩:=iu i' Y1 h0 j' x h1;refine⟨v,?_,c2,c3,fun hi=>c4 (by simp at hi;exact hi.1)⟩;rw[C5,aCo,c1];intro hc;have hj':j'<ob.es:=by rw[← bQ Y1 (aCC h0)];exact(aCD.1 h1).1
   have hii:i'=i:=by
    rcases aEZ i' i with cg | heq | UL
    ·have:(i'+1)*ob.es≤i*ob.es:=aDa _ cg
     rw[aCZ]at this;omega
    ·exact heq
    ·have:(i+1)*ob.es≤i'*ob.es:=aDa _ UL
     rw[aCZ]at this;omega
   subst hii;exact ec rfl ⟨by omega,by omega⟩
  by_cases hii:i'=i
  ·subst hii
   rw[aD4 oh]at kh;cases kh;simp only[putAt,aDg]at sG;by_cases c1:j'<j
   ·rw[aC6 (by simp;omega),aDs,aCr c1]at sG
    exact sT row aO sG (fun _=>by omega)
   ·rw[aCY (by simp;omega)]at sG
    simp only[aCV,show min j row.length=j from by omega]at sG;by_cases c2:j'-j<y.cells.length
    ·rw[aC6 c2]at sG
     obtain⟨u,u1,u2,u3,u4⟩:=hcy.2 _ x sG;refine⟨u,?_,u2,u3,fun hi=>u4 (by simp at hi;simp[hi.2])⟩;rw[C5,aCr (by omega),show i'*ob.es+j'-(i'*ob.es+j)=j'-j from by omega];simpa using u1
    ·rw[aCY (by omega),aDQ]at sG
     rw[show j+y.cells.length+(j'-j-y.cells.length)=j' from by omega]at sG;exact sT row aO sG (fun _=>by omega)
  ·rw[aEu (fun e=>hii e.symm)]at kh
   exact sT gk kh sG (fun e=>absurd e hii)
theorem aj0(R:RB w0 I A0 n s a w β A)(o:Oper){p:Prop}{q:Nat}{ob:Ob}(h:gF P o s.ev s.h=.H7 p q ob)(hp:p)(hd:∀k,o.dst=some k→k<n):
  ∃w',(execOp a.eval o).run P w=.ok .skip w'∧RR w0 I A0 n ((s.ca q ob).put o.dst .dead) (a.put o.dst undef) w':=by
 have bL:=kK R.ai;obtain⟨dst,op,ty,pos,after,guard⟩:=o;unfold gF at h;simp only at h
 split at h<;>try (cases h;done)
 ·split at h<;>cases h
 ·rename_i t
  rcases iU P t with e | ⟨ob,e⟩<;>rw[e]at h<;>cases h
 ·unfold iD at h
  split at h<;>try (cases h;done)
  split at h<;>try (cases h;done)
  split at h<;>cases h
 ·unfold cY at h
  split at h<;>try (cases h;done)
  split at h<;>cases h
 ·split at h<;>try (cases h;done)
  unfold ic at h
  split at h<;>try (cases h;done)
  ·split at h<;>try (cases h;done)
   split at h<;>try (cases h;done)
   unfold fD at h
   split at h<;>try (cases h;done)
   split at h<;>try (cases h;done)
   split at h<;>try (cases h;done)
   split at h<;>cases h
  ·unfold fD at h
   split at h<;>try (cases h;done)
   split at h<;>try (cases h;done)
   split at h<;>try (cases h;done)
   split at h<;>cases h
 ·
  rename_i t x y
  split at h<;>try (cases h;done)
  rename_i ht;obtain⟨w',hr,hR⟩:=R.store (P:=P) (bL x) (bL y) h hp ht dst hd;refine⟨w',?_,hR⟩;simp only[execOp];rw[Sem.run_bind,hr];rfl
 ·split at h<;>cases h
 ·split at h<;>cases h
 ·split at h<;>cases h
 ·split at h<;>try (cases h;done)
  split at h<;>cases h
 ·unfold eH at h
  split at h<;>try (cases h;done)
  split at h<;>try (cases h;done)
  split at h<;>try (cases h;done)
  all_goals (split at h<;>cases h)
 ·unfold df at h
  split at h<;>try (cases h;done)
  ·split at h<;>try (cases h;done)
   split at h<;>cases h
  ·split at h<;>cases h
 ·unfold kN at h
  split at h<;>try (cases h;done)
  split at h<;>try (cases h;done)
  split at h<;>try (cases h;done)
  split at h<;>try (cases h;done)
  split at h<;>cases h
 ·split at h
  ·unfold dL at h
   split at h<;>try (cases h;done)
   split at h<;>try (cases h;done)
   split at h<;>try (cases h;done)
   split at h<;>cases h
  ·unfold eo at h
   split at h<;>try (cases h;done)
   split at h<;>try (cases h;done)
   split at h<;>try (cases h;done)
   split at h<;>cases h
  ·unfold dx at h
   split at h<;>try (cases h;done)
   split at h<;>try (cases h;done)
   split at h<;>try (cases h;done)
   all_goals (split at h<;>cases h)
 ·split at h<;>try (cases h;done)
  split at h<;>cases h
 ·split at h<;>cases h
 ·split at h<;>cases h
 ·rename_i c
  obtain⟨callee,args,argTypes⟩:=c;unfold fh at h;simp only at h
  split at h<;>try (cases h;done)
  ·split at h<;>try (cases h;done)
   split at h<;>cases h
  ·split at h<;>try (cases h;done)
   split at h<;>try (cases h;done)
   split at h<;>cases h
  ·split at h<;>try (cases h;done)
   split at h<;>try (cases h;done)
   unfold dQ at h
   split at h<;>try (cases h;done)
   split at h<;>try (cases h;done)
   split at h<;>try (cases h;done)
   split at h<;>cases h
  ·split at h<;>cases h
  ·split at h<;>cases h
 ·unfold nY at h
  split at h<;>try (cases h;done)
  split at h<;>try (cases h;done)
  split at h<;>cases h
theorem aj2(R:RB w0 I A0 n s a w β A)(o:Oper){p:Prop}{q:Nat}{ob:Ob}(h:gF P o s.ev s.h=.app p q ob)(hp:p)(hd:∀k,o.dst=some k→k<n):
  ∃u w',(execOp a.eval o).run P w=.ok (.value u) w'∧RR w0 I A0 n ((s.ca q ob).put o.dst (.ref q ob.rows.length)) (a.put o.dst u) w':=by
 have bL:=kK R.ai;obtain⟨dst,op,ty,pos,after,guard⟩:=o;unfold gF at h;simp only at h
 split at h<;>try (cases h;done)
 ·split at h<;>cases h
 ·rename_i t
  rcases iU P t with e | ⟨ob,e⟩<;>rw[e]at h<;>cases h
 ·unfold iD at h
  split at h<;>try (cases h;done)
  split at h<;>try (cases h;done)
  split at h<;>cases h
 ·unfold cY at h
  split at h<;>try (cases h;done)
  split at h<;>cases h
 ·split at h<;>try (cases h;done)
  unfold ic at h
  split at h<;>try (cases h;done)
  ·split at h<;>try (cases h;done)
   split at h<;>try (cases h;done)
   unfold fD at h
   split at h<;>try (cases h;done)
   split at h<;>try (cases h;done)
   split at h<;>try (cases h;done)
   split at h<;>cases h
  ·unfold fD at h
   split at h<;>try (cases h;done)
   split at h<;>try (cases h;done)
   split at h<;>try (cases h;done)
   split at h<;>cases h
 ·split at h<;>try (cases h;done)
  unfold fg at h
  split at h<;>try (cases h;done)
  split at h<;>try (cases h;done)
  split at h<;>cases h
 ·split at h<;>cases h
 ·split at h<;>cases h
 ·split at h<;>cases h
 ·split at h<;>try (cases h;done)
  split at h<;>cases h
 ·unfold eH at h
  split at h<;>try (cases h;done)
  split at h<;>try (cases h;done)
  split at h<;>try (cases h;done)
  all_goals (split at h<;>cases h)
 ·unfold df at h
  split at h<;>try (cases h;done)
  ·split at h<;>try (cases h;done)
   split at h<;>cases h
  ·split at h<;>cases h
 ·unfold kN at h
  split at h<;>try (cases h;done)
  split at h<;>try (cases h;done)
  split at h<;>try (cases h;done)
  split at h<;>try (cases h;done)
  split at h<;>cases h
 ·split at h
  ·unfold dL at h
   split at h<;>try (cases h;done)
   split at h<;>try (cases h;done)
   split at h<;>try (cases h;done)
   split at h<;>cases h
  ·unfold eo at h
   split at h<;>try (cases h;done)
   split at h<;>try (cases h;done)
   split at h<;>try (cases h;done)
   split at h<;>cases h
  ·unfold dx at h
   split at h<;>try (cases h;done)
   split at h<;>try (cases h;done)
   split at h<;>try (cases h;done)
   all_goals (split at h<;>cases h)
 ·split at h<;>try (cases h;done)
  split at h<;>cases h
 ·split at h<;>cases h
 ·split at h<;>cases h
 ·rename_i c
  obtain⟨callee,args,argTypes⟩:=c;unfold fh at h;simp only at h
  split at h<;>try (cases h;done)
  ·split at h<;>try (cases h;done)
   split at h<;>cases h
  ·split at h<;>try (cases h;done)
   split at h<;>try (cases h;done)
   split at h<;>cases h
  ·split at h<;>try (cases h;done)
   rename_i x y t t' dd hts
   split at h<;>try (cases h;done)
   rename_i htt;subst htt;unfold dQ at h
   split at h<;>try (cases h;done)
   rename_i e new he bS
   split at h<;>try (cases h;done)
   rename_i hz
   split at h<;>try (cases h;done)
   rename_i o m gu
   split at h<;>try (cases h;done)
   rename_i bG ho;simp only[AR.app.injEq]at h;obtain⟨rfl,rfl,rfl⟩:=h;obtain⟨p1,p2,p3,p4,p5,p6⟩:=hp;have hx:=bL x;rw[gu]at hx;have hm:args.map a.eval=#[a.eval x,a.eval y]:=by
    apply aDV;simp[dd]
   have hmt:argTypes=#[t,t]:=by apply aDV;simpa using hts
   simp only[not_or]at hz;obtain⟨r,w',hr,hR⟩:=R.Vu (P:=P) he (by omega) (Option.isSome_iff_ne_none.2 (by simpa using hz.2)) (bL y) bS p4 ho hx p1 p2 p3 p5 p6 ty dst hd;refine⟨r,w',?_,hR⟩;simp only[execOp,resolve,invoke,builtin,hm,hmt,Sem.run_bind,Sem.run_pure,Result.andThen_ok,hr]
  ·split at h<;>cases h
  ·split at h<;>cases h
 ·unfold nY at h
  split at h<;>try (cases h;done)
  split at h<;>try (cases h;done)
  split at h<;>cases h
end
end Go.AL
namespace Go.AL
inductive RD where
 | v (x:V)
 | o (ty es:Nat) (rows:List (List V))
 | a (ty es:Nat) (rows:List (List V)) (pre post:List V)
def V.atom:V→Bool
 | .int .. | .bool _ | .str _ | .nil | .sl _ | .raw _=>true
 | _=>false
def RD.val(k:Nat):RD→V
 | .v x=>x
 | .o _ _ rows=>.ref k rows.length
 | .a _ _ rows pre post=>.dP (pre++.ref k rows.length::post)
def RD.ob:RD→Option Ob
 | .v _=>none
 | .o ty es rows=>some ⟨ty,es,false,rows⟩
 | .a ty es rows _ _=>some ⟨ty,es,false,rows⟩
def RD.ok:RD→Bool
 | .v x=>x.pure
 | .o ..=>true
 | .a _ _ _ pre post=>(pre++post).all V.atom
def fC(rds:List RD)(k:Nat):Option Ob:=(rds[k]?).bind RD.ob
def jq:List Value→Value
 | [v]=>v
 | vs=>.tuple vs.toArray
def lB:List V→V
 | [v]=>v
 | vs=>.kQ vs
def cG:Nat→List RD→List V
 | _,[]=>[]
 | d,rd::r=>rd.val d::cG (d+1000) r
def fY:Nat→Option Ob:=fun _=>none
def iF:Nat→Option Nat:=fun _=>none
def H8:sy:=⟨fun _=>False,fun _=>False,iF,fun _=>0,fun _=>undef⟩
structure vC (w:World) (A:Nat→Prop) (rds:List RD) (w':World) (us:List Value) (β':Nat→Option Nat) (A':Nat→Prop):Prop where
 len:us.length=rds.length
 cq:cz ⟨w',A',fC rds,β'⟩
 rel:∀(k:Nat) (rd:RD),rds[k]? = some rd→∃u,us[k]? = some u∧cH ⟨w',A',fC rds,β'⟩ (rd.val k) u
 a0:∀b,b<w.heap.size→A b→A' b
 ev:Ev w w' H8.P
 own:∀k ob b,fC rds k=some ob→β' k=some b→w.heap.size≤b
def Ew(P:Program)(f:FuncId)(args:List V)(Pd:List RD→Prop):Prop:=
 (∀rds,Pd rds→∀rd∈rds,rd.ok=true)∧
 ∀(w:World) (A:Nat→Prop) (vs:Array Value),(∀b,A b→b<w.heap.size)→vs.size=args.length→
  (∀(i:Nat) (x:V),args[i]? = some x→∃u,vs[i]? = some u∧Rel ⟨w,A,fY,iF⟩ x u)→
  Calls P f vs w fun e w'=>∃rds us β' A',Pd rds∧e=.returned (jq us)∧vC w A rds w' us β' A'
def bq(d m p:Nat):Bool:=decide (d≤p)&&((p-d) % 1000 == 0)&&decide ((p-d) / 1000<m)
theorem dw{d m p:Nat}(h:bq d m p=true):p=d+1000*((p-d) / 1000)∧(p-d) / 1000<m:=by
 simp only[bq,aCs,aCy,aDI]at h;obtain⟨⟨h1,h2⟩,h3⟩:=h;exact⟨by omega,h3⟩
theorem ib{d m k:Nat}(h:k<m):bq d m (d+1000*k)=true∧(d+1000*k-d) / 1000=k:=by
 have e:(d+1000*k-d) / 1000=k:=by omega
 refine⟨?_,e⟩;simp only[bq,aCs,aCy,aDI,e];exact⟨⟨by omega,by omega⟩,h⟩
def ek(h:Nat→Option Ob)(d:Nat)(rds:List RD):Nat→Option Ob:=fun p=>
 if bq d rds.length p then fC rds ((p-d) / 1000)else(h p).map (Ob.kill (bq d rds.length))
def St.call(s:St)(dst:Option Nat)(rds:List RD):St:=match dst with
 | some d=>⟨fun i=>if i=d then lB (cG d rds)else(s.t i).kill (bq d rds.length),ek s.h d rds⟩
 | none=>s
theorem mN:∀(rds:List RD) (d k:Nat),(cG d rds)[k]? = (rds[k]?).map (RD.val (d+1000*k))
 | [],d,k=>by simp[cG]
 | rd::r,d,0=>by simp[cG]
 | rd::r,d,k+1=>by
  simp only[cG,aDZ];rw[mN r (d+1000) k]
  congr 2
  omega
theorem tg:∀(rds:List RD) (d:Nat),(cG d rds).length=rds.length
 | [],d=>rfl
 | rd::r,d=>by simp[cG,tg r]
theorem rO{E E':Env}{x:V}{u:Value}(hp:x.pure=true)(hs:E.w=E'.w)(hA:∀b,b<E'.w.heap.size→E'.A b→E.A b)(h:cH E x u):cH E' x u:=by
 have key:∀y v,bh E.w E.A y v→bh E'.w E'.A y v:=fun y v h=>by
  rw[← hs];exact h.frame (fun _ _ _=>rfl) (aCt _) (fun b hb=>hA b (by rw[← hs];exact hb))
 cases x with
 | agg cs=>
  obtain⟨vs,hv,dC,hc⟩:=h;exact⟨vs,hv,dC,fun i x hx=>let ⟨u,h1,h2⟩:=hc i x hx;⟨u,h1,key _ _ h2⟩⟩
 | int k n=>exact key _ _ h
 | bool b=>exact key _ _ h
 | str s=>exact key _ _ h
 | nil=>exact key _ _ h
 | sl rows=>exact key _ _ h
 | raw v=>exact key _ _ h
 | _=>simp[V.pure]at hp
theorem wT{E E':Env}{x:V}{v:Value}(hx:x.atom=true)(hP:∀y v,bh E.w E.A y v→bh E'.w E'.A y v)(h:bB E x v):bB E' x v:=by
 cases x<;>first | exact hP _ _ h | (simp[V.atom]at hx;done)
theorem Zy{E E':Env}{pre post:List V}{n k k':Nat}{u:Value}(hp:(pre++post).all V.atom=true)(hP:∀y v,bh E.w E.A y v→bh E'.w E'.A y v)
  (hr:∀v,bB E (.ref k n) v→bB E' (.ref k' n) v) (h:cH E (.dP (pre++.ref k n::post)) u):cH E' (.dP (pre++.ref k' n::post)) u:=by
 obtain⟨vs,hv,dC,hc⟩:=h;have fJ:=aCG.1 hp;refine⟨vs,hv,by simpa using dC,fun i x hx=>?_⟩;rcases aEZ i pre.length with hi | hi | hi
 ·rw[aC6 hi]at hx
  obtain⟨q,q1,q2,q3⟩:=hc i x (by rw[aC6 hi];exact hx);exact⟨q,q1,q2,wT (fJ x (aDv _ (aCC hx))) hP q3⟩
 ·subst hi
  simp at hx;subst hx;obtain⟨q,q1,q2,q3⟩:=hc pre.length (.ref k n) (by simp);exact⟨q,q1,q2,hr q q3⟩
 ·obtain⟨j,hj⟩:∃j,i-pre.length=j+1:=⟨i-pre.length-1,by omega⟩
  rw[aCY (by omega),hj,aDZ]at hx;obtain⟨q,q1,q2,q3⟩:=hc i x (by rw[aCY (by omega),hj,aDZ];exact hx);exact⟨q,q1,q2,wT (fJ x (aDw _ (aCC hx))) hP q3⟩
section
variable {P:Program} {w0:World} {I:sy} {A0:Nat→Prop} {n:Nat} {s:St} {a:Act} {w:World} {β:Nat→Option Nat} {A:Nat→Prop}
theorem RB.call(R:RB w0 I A0 n s a w β A){rds:List RD}(aX:∀rd∈rds,rd.ok=true){w':World}{us:List Value}{β':Nat→Option Nat}{A':Nat→Prop}(h:vC w A rds w' us β' A')
  (dst:Option Tmp) (hd:∀k,dst=some k→k<n):RR w0 I A0 n (s.call dst rds) (a.put dst (jq us)) w':=by
 have lH:∀o ob' b,s.h o=some ob'→β o=some b→b<w.heap.size:=fun o ob' b ho hb=>by
  have:=R.cq.ok o ob' ho;simp only at this;rw[hb]at this;exact R.cq.lt b this.1
 have main:∀d,d<n→RB w0 I A0 n ⟨fun i=>(s.t i).kill (bq d rds.length),ek s.h d rds⟩ a w' (fun p=>if bq d rds.length p then β' ((p-d) / 1000)else β p)
    (fun b=>(b<w.heap.size∧A b)∨∃k ob,fC rds k=some ob∧β' k=some b)∧
   (∀(k:Nat) (rd:RD),rds[k]? = some rd→∃u,us[k]? = some u∧cH ⟨w',fun b=>(b<w.heap.size∧A b)∨∃k ob,fC rds k=some ob∧β' k=some b,ek s.h d rds,fun p=>if bq d rds.length p then β' ((p-d) / 1000)else β p⟩ (rd.val (d+1000*k)) u):=by
  intro d hdn;have FL:∀b,((b<w.heap.size∧A b)∨∃k ob,fC rds k=some ob∧β' k=some b)→A' b:=by
   rintro b (⟨h1,h2⟩ | ⟨k,ob,h1,h2⟩)
   ·exact h.a0 b h1 h2
   ·have:=h.cq.ok k ob h1
    simp only at this;rw[h2]at this;exact this.1
  have hold:∀b,b<w.heap.size→w'.heap[b]? = w.heap[b]?:=fun b hb=>h.ev.block b hb (fun hI=>hI)
  have S:Step ⟨w,A,s.h,β⟩ ⟨w',fun b=>(b<w.heap.size∧A b)∨∃k ob,fC rds k=some ob∧β' k=some b,ek s.h d rds,fun p=>if bq d rds.length p then β' ((p-d) / 1000)else β p⟩:=by
   refine⟨fun b hb _=>hold b hb,h.ev.size,fun b hb hh=>?_,fun b hb hh=>?_⟩
   ·rcases hh with⟨_,h2⟩ | ⟨k,ob,h1,h2⟩
    ·exact h2
    ·have:=h.own k ob b h1 h2
     simp only at hb;omega
   ·obtain⟨p,ob,hp,yX⟩:=hh
    simp only[ek]at hp yX;by_cases hK:bq d rds.length p=true
    ·rw[aCr hK]at hp yX
     have:=h.own _ ob b hp yX;simp only at hb;omega
    ·rw[aCo hK]at hp yX
     cases dG:s.h p with
     | none=>simp[dG]at hp
     | some bM=>exact⟨p,bM,dG,yX⟩
  have hk:∀p,bq d rds.length p=false→rz ⟨w,A,s.h,β⟩ ⟨w',fun b=>(b<w.heap.size∧A b)∨∃k ob,fC rds k=some ob∧β' k=some b,ek s.h d rds,fun p=>if bq d rds.length p then β' ((p-d) / 1000)else β p⟩ p:=by
   intro p hp ob' dW;simp only[ek,hp,aDt,aC4]at dW ⊢;cases dG:s.h p with
   | none=>simp[dG]at dW
   | some bM=>
    simp[dG]at dW;subst dW;refine⟨bM,rfl,by rw[Ob.dm];exact aCt _,fun _=>⟨trivial,Ob.eQ _ _,Ob.gP _ _,fun b cur' hb fw=>⟨cur',?_,rfl⟩⟩⟩;rw[hold b (lH p bM b dG hb)];exact fw
  have xh:∀(k:Nat) (rd:RD),rds[k]? = some rd→bq d rds.length (d+1000*k)=true∧(d+1000*k-d) / 1000=k:=fun k rd hk=>ib (aCD.1 hk).1
  have aZ:cz ⟨w',fun b=>(b<w.heap.size∧A b)∨∃k ob,fC rds k=some ob∧β' k=some b,ek s.h d rds,fun p=>if bq d rds.length p then β' ((p-d) / 1000)else β p⟩:=by
   refine⟨fun p ob hp=>?_,fun p q tZ bM b h1 h2 h3 h4=>?_,fun b hb=>h.cq.lt b (FL b hb)⟩
   ·simp only[ek]at hp ⊢
    by_cases hK:bq d rds.length p=true
    ·rw[aCr hK]at hp ⊢
     have cA:=h.cq.ok _ ob hp;simp only at cA;have himp:ob.imp=false:=by
      unfold fC at hp;cases hr:rds[(p-d) / 1000]? with
      | none=>simp[hr]at hp
      | some rd=>cases rd<;>simp[hr,RD.ob]at hp<;>(subst hp;rfl)
     cases hb:β' ((p-d) / 1000)with
     | none=>rw[hb]at cA;exact cA
     | some b=>
      rw[hb]at cA;obtain⟨_,cur,h1,h2,h3,h4⟩:=cA;refine⟨.inr ⟨_,ob,hp,hb⟩,cur,h1,h2,h3,fun i row hi j x hx=>?_⟩;obtain⟨v,c1,c2,_,c4⟩:=h4 i row hi j x hx;have c5:bh w' _ x v:=(c4 himp).frame (A':=fun b=>(b<w.heap.size∧A b)∨∃k ob,fC rds k=some ob∧β' k=some b) (fun _ _ _=>rfl) (aCt _) (fun b _ hb=>FL b hb);exact⟨v,c1,c2,bB.aU c5,fun _=>c5⟩
    ·rw[aCo hK]at hp ⊢
     cases dG:s.h p with
     | none=>simp[dG]at hp
     | some bM=>
      simp[dG]at hp;subst hp;have cA:=R.cq.ok p bM dG;exact sR.step R.cq S _ hk (fun b hb=>⟨hold b (lH p bM b dG hb),.inl ⟨lH p bM b dG hb,by simp only at cA;rw[hb]at cA;exact cA.1⟩⟩) cA
   ·simp only[ek]at h1 h2 h3 h4
    by_cases e1:bq d rds.length p=true
    ·by_cases e2:bq d rds.length q=true
     ·rw[aCr e1]at h1 h3
      rw[aCr e2]at h2 h4;have hi:=h.cq.inj _ _ tZ bM b h1 h2 h3 h4;have s1:=(dw e1).1;have s2:=(dw e2).1;rw[s1,s2,hi]
     ·rw[aCr e1]at h1 h3
      rw[aCo e2]at h2 h4;cases dG:s.h q with
      | none=>simp[dG]at h2
      | some CE=>
       have:=lH q CE b dG h4;have:=h.own _ tZ b h1 h3;omega
    ·by_cases e2:bq d rds.length q=true
     ·rw[aCo e1]at h1 h3
      rw[aCr e2]at h2 h4;cases dG:s.h p with
      | none=>simp[dG]at h1
      | some CE=>
       have:=lH p CE b dG h3;have:=h.own _ bM b h2 h4;omega
     ·rw[aCo e1]at h1 h3
      rw[aCo e2]at h2 h4;cases dG:s.h p with
      | none=>simp[dG]at h1
      | some CE=>
       cases Kv:s.h q with
       | none=>simp[Kv]at h2
       | some ZZ=>exact R.cq.inj p q CE ZZ b dG Kv h3 h4
  refine⟨?_,fun k rd hkr=>?_⟩
  ·have:=R.step w' _ _ (ek s.h d rds) (bq d rds.length) S hk aZ (fun b hb hb0=>.inl ⟨aCP hb R.ev.size,R.a0 b hb hb0⟩)
    ⟨h.ev.os.trans R.ev.os,h.ev.tape.trans R.ev.tape,h.ev.output.trans R.ev.output,aCO R.ev.size h.ev.size,fun k hk hI=>by
     rw[hold k (aCP hk R.ev.size)];exact R.ev.block k hk hI⟩
    (fun p ob b hp hb=>by
     simp only[ek]at hp;by_cases hK:bq d rds.length p=true
     ·rw[aCr hK]at hp hb
      have:=h.own _ ob b hp hb;exact .inl (aCO R.ev.size this)
     ·rw[aCo hK]at hp hb
      cases dG:s.h p with
      | none=>simp[dG]at hp
      | some bM=>exact R.own p bM b dG hb)
    (fun p hq hx=>by
     have hq2:=R.qn p hq;have:=(dw hx).1;omega)
    none (fun _ h=>by cases h) .dead undef trivial
   exact this
  ·obtain⟨u,hu,hrel⟩:=h.rel k rd hkr
   refine⟨u,hu,?_⟩;obtain⟨xi,KA⟩:=xh k rd hkr;cases rd with
   | v x=>exact rO (E:=⟨w',A',fC rds,β'⟩) (aX _ (aCC hkr)) rfl (fun b _ hb=>FL b hb) hrel
   | o ty es rows=>
    intro ob cA;simp only[ek,xi,aC5,KA]at cA;have hr:=hrel ob cA;simp only[xi,aC5,KA];exact hr
   | a ty es rows pre post=>
    refine Zy (aX _ (aCC hkr)) (fun y v h=>h.frame (fun _ _ _=>rfl) (aCt _) (fun b _ hb=>FL b hb)) (fun v hv=>?_) hrel;intro ob cA;simp only[ek,xi,aC5,KA]at cA;have hr:=hv ob cA;simp only[xi,aC5,KA];exact hr
 cases dst with
 | none=>
  have hold:∀b,b<w.heap.size→w'.heap[b]? = w.heap[b]?:=fun b hb=>h.ev.block b hb (fun hI=>hI)
  have S:Step ⟨w,A,s.h,β⟩ ⟨w',A,s.h,β⟩:=⟨fun b hb _=>hold b hb,h.ev.size,fun _ _ h=>h,fun _ _ h=>h⟩;have hk:∀p,rz ⟨w,A,s.h,β⟩ ⟨w',A,s.h,β⟩ p:=fun p ob ho=>⟨ob,ho,aCt _,fun _=>⟨rfl,rfl,rfl,fun b cur hb hc=>⟨cur,by
   simp only at hb hc ⊢;rw[hold b (lH p ob b ho hb)];exact hc,rfl⟩⟩⟩
  have:=R.step w' β A s.h (fun _=>false) S (fun p _=>hk p)
   ⟨fun o ob ho=>by
    have h2:=R.cq.ok o ob ho;have:=sR.step R.cq S (fun _=>false) (fun p _=>hk p) (fun b hb=>⟨hold b (lH o ob b ho hb),by simp only at h2;rw[hb]at h2;exact h2.1⟩) h2
    rwa [Ob.bV]at this,R.cq.inj,fun b hb=>aCP (R.cq.lt b hb) h.ev.size⟩
   R.a0 ⟨h.ev.os.trans R.ev.os,h.ev.tape.trans R.ev.tape,h.ev.output.trans R.ev.output,aCO R.ev.size h.ev.size,fun k hk hI=>by
     rw[hold k (aCP hk R.ev.size)];exact R.ev.block k hk hI⟩ R.own (fun _ _ h=>by cases h) none (fun _ h=>by cases h) .dead undef trivial
  have e:(⟨fun i=>(s.t i).kill fun _=>false,s.h⟩:St)=s:=by simp only[V.bV]
  rw[e]at this;exact⟨_,_,this⟩
 | some d=>
  obtain⟨hR,hrel⟩:=main d (hd d rfl);have aoB:Rel ⟨w',fun b=>(b<w.heap.size∧A b)∨∃k ob,fC rds k=some ob∧β' k=some b,ek s.h d rds,fun p=>if bq d rds.length p then β' ((p-d) / 1000)else β p⟩ (lB (cG d rds)) (jq us):=by
   have hl:us.length=(cG d rds).length:=by rw[h.len,tg]
   have fS:∀(k:Nat) (x:V),(cG d rds)[k]? = some x→∃u,us[k]? = some u∧cH ⟨w',fun b=>(b<w.heap.size∧A b)∨∃k ob,fC rds k=some ob∧β' k=some b,ek s.h d rds,fun p=>if bq d rds.length p then β' ((p-d) / 1000)else β p⟩ x u:=by
    intro k x hx;rw[mN]at hx;cases hr:rds[k]? with
    | none=>simp[hr]at hx
    | some rd=>
     simp[hr]at hx;subst hx;exact hrel k rd hr
   generalize cG d rds=xs at hl fS
   match xs,us with
   | [],[]=>exact⟨#[],rfl,rfl,fun i x hx=>by simp at hx⟩
   | [x],[u]=>
    obtain⟨u',h1,h2⟩:=fS 0 x rfl;simp at h1;subst h1;exact h2.rel
   | x::y::xs,u::u2::us=>
    refine⟨(u::u2::us).toArray,rfl,by simpa using hl,fun i z hz=>?_⟩;obtain⟨u',h1,h2⟩:=fS i z hz;exact⟨u',by simpa using h1,h2⟩
   | [],_::_=>simp at hl
   | _::_,[]=>simp at hl
   | [_],_::_::_=>simp at hl
   | _::_::_,[_]=>simp at hl
  exact⟨_,_,hR.put (some d) hd _ _ aoB⟩
end
end Go.AL
namespace Go.AL
def Qg:List V→List V→Prop
 | [],[]=>True
 | x::xs,y::ys=>(y=x∨(x=.nil∧y=.sl []))∧Qg xs ys
 | _,_=>False
def abQ(ob:Ob)(i:Nat)(row:List V):Prop:=(ob.imp=false∧ob.rows[i]? = some row)∨∃full,ob.rows[i]? = some full∧row=full.take row.length∧row.all V.atom=true
theorem Bw{E:Env}{ob:Ob}{b:Nat}(aX:sR E ob (some b)){i:Nat}{row:List V}(h:abQ ob i row):∃f:Nat→Value,∀(k:Nat) (x:V),row[k]? = some x→E.w.cell? ⟨b,i*ob.es+k,none⟩=some (f k)∧bh E.w E.A x (f k):=by
 rcases h with⟨himp,aO⟩ | ⟨full,aO,he,fJ⟩
 ·obtain⟨f,_,hc⟩:=xo aX aO
  exact⟨f,fun k x hk=>⟨(hc k x hk).1,(hc k x hk).2.2.2 himp⟩⟩
 ·obtain⟨f,_,hc⟩:=xo aX aO
  refine⟨f,fun k x hk=>?_⟩;have hx:=aCG.1 fJ x (aCC hk);have oY:full[k]? = some x:=by
   rw[he,aDs]at hk
   split at hk
   ·exact hk
   ·cases hk
  refine⟨(hc k x oY).1,?_⟩;have h3:=(hc k x oY).2.2.1;cases x<;>first | exact h3 | (simp[V.atom]at hx;done)
def xp(h:Nat→Option Ob):V→V→Prop
 | .ptr o n i j,.cp row j'=>∃ob,h o=some ob∧n=ob.rows.length∧abQ ob i row∧j'=j
 | .cp row j,.cp gk j'=>gk=row∧j'=j
 | x,y=>y=x∧x.pure=true∧∀cs,x ≠ .agg cs
def mV(h:Nat→Option Ob):List V→List V→Prop
 | [],[]=>True
 | x::xs,y::ys=>xp h x y∧mV h xs ys
 | _,_=>False
def jD(h:Nat→Option Ob):V→V→Prop
 | .ref o n,.rd rows=>∃ob,h o=some ob∧n=ob.rows.length∧ob.imp=false∧rows=ob.rows
 | .sl rows,.rd bE=>bE=rows
 | .rd rows,.rd bE=>bE=rows
 | .nil,.rd bE=>bE=[]
 | .nil,.sl bE=>bE=[]
 | .agg cs,.agg fj=>fj=cs∨Qg cs fj
 | .ptr o n i j,.cp row j'=>∃ob,h o=some ob∧n=ob.rows.length∧abQ ob i row∧j'=j
 | .cp row j,.cp gk j'=>gk=row∧j'=j
 | .fn f xs,.fn g ys=>g=f∧mV h xs ys
 | x,y=>y=x∧x.pure=true
def kM(h:Nat→Option Ob):List V→List V→Prop
 | [],[]=>True
 | x::xs,y::ys=>jD h x y∧kM h xs ys
 | _,_=>False
def FM(ops:Array Oper)(o:Oper)(s:St):Option (V×Bool):=
 match o.guard with
 | none=>none
 | some (j,want)=>match(ops[j]?).bind (·.dst)with
  | some d=>some (if d<100000 then s.t d else .dead,want)
  | none=>some (.dead,want)
def dOK(n:Nat):Option Nat→Prop
 | some d=>d<n
 | none=>True
theorem I0{w:World}{A:Nat→Prop}{x y:V}{u:Value}(h:y=x∨(x=.nil∧y=.sl []))(hr:bh w A x u):bh w A y u:=by
 rcases h with rfl | ⟨rfl,rfl⟩
 ·exact hr
 ·cases hr;exact .slnil _
theorem wO:∀{xs ys:List V},Qg xs ys→xs.length=ys.length∧∀(i:Nat) (y:V),ys[i]? = some y→∃x,xs[i]? = some x∧(y=x∨(x=.nil∧y=.sl []))
 | [],[],_=>⟨rfl,fun i y h=>by simp at h⟩
 | x::xs,y::ys,h=>by
  obtain⟨h,t⟩:=h;obtain⟨h1,h2⟩:=wO t;refine⟨by simp[h1],fun i z hz=>?_⟩;cases i with
  | zero=>simp at hz;subst hz;exact⟨x,rfl,h⟩
  | succ i=>exact h2 i z (by simpa using hz)
 | [],_::_,h=>h.elim
 | _::_,[],h=>h.elim
theorem ZL{w:World}{A:Nat→Prop}{h:Nat→Option Ob}{β:Nat→Option Nat}(H:cz ⟨w,A,h,β⟩){o n i j j':Nat}{row:List V}{u:Value}(hr:bB ⟨w,A,h,β⟩ (.ptr o n i j) u)
  (ha:∃ob,h o=some ob∧n=ob.rows.length∧abQ ob i row∧j'=j):bB ⟨w,A,fY,iF⟩ (.cp row j') u:=by
 obtain⟨ob,ho,hn,hcp,rfl⟩:=ha;obtain⟨b,hb,rfl⟩:=(hr ob ho).2 hn;have aX:=H.ok o ob ho;simp only at hb aX;rw[hb]at aX;have cg:=H.lt b aX.1;obtain⟨f,hc⟩:=Bw aX hcp;exact⟨b,i*ob.es,f,rfl,cg,fun⟨_,_,h,_⟩=>by simp[fY]at h,fun k x hk=>(hc k x hk).1,fun k x hk=>(hc k x hk).2⟩
theorem K1{w:World}{A:Nat→Prop}{h:Nat→Option Ob}{β:Nat→Option Nat}(H:cz ⟨w,A,h,β⟩):∀{xs ys:List V},mV h xs ys→
  xs.length=ys.length∧∀(i:Nat) (y:V),ys[i]? = some y→∃x,xs[i]? = some x∧∀u,bB ⟨w,A,h,β⟩ x u→bB ⟨w,A,fY,iF⟩ y u
 | [],[],_=>⟨rfl,fun i y h=>by simp at h⟩
 | x::xs,y::ys,ha=>by
  obtain⟨e1,e2⟩:=K1 H ha.2;refine⟨by simp[e1],fun i z hz=>?_⟩;cases i with
  | zero=>
   simp at hz;subst hz;refine⟨x,rfl,fun u hu=>?_⟩;have h1:=ha.1;unfold xp at h1
   split at h1
   ·exact ZL H hu h1
   ·obtain⟨rfl,rfl⟩:=h1
    obtain⟨b,off,f,g1,g2,_,g4,g5⟩:=hu;exact⟨b,off,f,g1,g2,(fun⟨_,_,h,_⟩=>by simp[fY]at h),g4,g5⟩
   ·obtain⟨rfl,hp,Ib⟩:=h1
    refine bB.aU (E:=⟨w,A,fY,iF⟩) (?_:bh w A y u);cases y<;>first | exact hu | (simp[V.pure]at hp;done) | exact absurd rfl (Ib _)
  | succ i=>
   obtain⟨x',h1,h2⟩:=e2 i z (by simpa using hz);exact⟨x',by simpa using h1,h2⟩
 | [],_::_,ha=>ha.elim
 | _::_,[],ha=>ha.elim
theorem Gt{w:World}{A:Nat→Prop}{h:Nat→Option Ob}{β:Nat→Option Nat}(H:cz ⟨w,A,h,β⟩){x y:V}{u:Value}(hr:Rel ⟨w,A,h,β⟩ x u)(ha:jD h x y):Rel ⟨w,A,fY,iF⟩ y u:=by
 have nM:∀b,¬ (⟨w,A,fY,iF⟩:Env).M b:=fun b ⟨_,_,h,_⟩=>by simp[fY]at h
 have XU:∀(X:Nat→Prop) (rows:List (List V)),gC w A X rows u→Rel ⟨w,A,fY,iF⟩ (.rd rows) u:=by
  intro X rows hs;rcases hs with h1 | ⟨b,off,cap,es,f,hv,jy,hb,bQ,hc,hrr⟩
  ·exact .inl h1
  ·exact .inr ⟨b,off,cap,es,f,hv,jy,fun ec=>⟨(hb ec).1,nM b⟩,bQ,hc,hrr⟩
 unfold jD at ha
 split at ha
 ·obtain⟨ob,ho,hn,himp,rfl⟩:=ha
  rename_i o n;have h2:=(hr ob ho).2 hn;have aX:=H.ok o ob ho;simp only at h2 aX;cases hb:β o with
  | none=>rw[hb]at h2 aX;exact .inl ⟨⟨_,h2⟩,aX⟩
  | some b=>
   rw[hb]at h2 aX;obtain⟨cap,cur,rfl,h3,h4,h5,h6⟩:=h2;obtain⟨hA,cur',hh,sJ,hlen,iu⟩:=aX;simp only at hh h5 iu;have:cur'=cur:=by rw[h5]at hh;simp at hh;exact hh.symm
   subst this;refine .inr ⟨b,0,cap,ob.es,fun i j=>(cur'[i*ob.es+j]?).getD undef,by rw[hn],by rw[← hn];exact h3,fun _=>⟨H.lt b hA,nM b⟩,sJ,fun i row hi j x hx=>?_,fun i row hi j x hx=>?_⟩
   ·obtain⟨v,c1,_⟩:=iu i row hi j x hx
    rw[aC0,cell_of_row w b _ cur' ob.ty (0,0) hh,c1];simp[c1]
   ·obtain⟨v,c1,_,_,c4⟩:=iu i row hi j x hx
    simp only[c1,aDK];exact c4 himp
 ·subst ha;exact XU _ _ (eA hr)
 ·subst ha;exact XU _ _ hr
 ·subst ha
  have:u=.slice none 0 0:=by cases hr;rfl
  exact .inl ⟨⟨_,this⟩,rfl⟩
 ·subst ha
  have:u=.slice none 0 0:=by cases hr;rfl
  subst this;exact .slnil _
 ·rename_i cs fj
  obtain⟨vs,rfl,hs,hc⟩:=hr;rcases ha with rfl | ha
  ·exact⟨vs,rfl,hs,hc⟩
  ·obtain⟨hl,hg⟩:=wO ha
   refine⟨vs,rfl,by rw[hs,hl],fun i y hy=>?_⟩;obtain⟨x,hx,hw⟩:=hg i y hy;obtain⟨u,h1,h2⟩:=hc i x hx;exact⟨u,h1,I0 hw h2⟩
 ·exact ZL H hr ha
 ·obtain⟨rfl,rfl⟩:=ha
  obtain⟨b,off,f,h1,h2,_,h4,h5⟩:=hr;exact⟨b,off,f,h1,h2,nM b,h4,h5⟩
 ·obtain⟨rfl,ha⟩:=ha
  obtain⟨vs,h1,h2,h3⟩:=hr;obtain⟨e1,e2⟩:=K1 H ha;refine⟨vs,h1,by rw[h2,e1],fun i y hy=>?_⟩;obtain⟨x,hx,uQ⟩:=e2 i y hy;obtain⟨u,u1,u2⟩:=h3 i x hx;exact⟨u,u1,uQ u u2⟩
 ·obtain⟨rfl,hp⟩:=ha
  have:cH ⟨w,A,h,β⟩ y u:=by cases y<;>first | exact hr | (simp[V.pure]at hp)
  exact(rO (E:=⟨w,A,h,β⟩) (E':=⟨w,A,fY,iF⟩) hp rfl (fun _ _ h=>h) this).rel
theorem Lm{w:World}{A:Nat→Prop}{h:Nat→Option Ob}{β:Nat→Option Nat}(H:cz ⟨w,A,h,β⟩):∀{xs ys:List V} {vs:Array Value} (k:Nat),kM h xs ys→(∀(i:Nat) (x:V),xs[i]? = some x→∃u,vs[k+i]? = some u∧Rel ⟨w,A,h,β⟩ x u)→
  xs.length=ys.length∧∀(i:Nat) (y:V),ys[i]? = some y→∃u,vs[k+i]? = some u∧Rel ⟨w,A,fY,iF⟩ y u
 | [],[],_,_,_,_=>⟨rfl,fun i y h=>by simp at h⟩
 | x::xs,y::ys,vs,k,ha,hr=>by
  obtain⟨h1,h2⟩:=ha;obtain⟨e1,e2⟩:=Lm H (vs:=vs) (k+1) h2 (fun i z hz=>by
   have:=hr (i+1) z (by simpa using hz)
   rwa [show k+(i+1)=k+1+i from by omega]at this)
  refine⟨by simp[e1],fun i z hz=>?_⟩;cases i with
  | zero=>
   simp at hz;subst hz;obtain⟨u,u1,u2⟩:=hr 0 x rfl;exact⟨u,u1,Gt H u2 h1⟩
  | succ i=>
   have:=e2 i z (by simpa using hz)
   rwa [show k+1+i=k+(i+1)from by omega]at this
 | [],_::_,_,_,ha,_=>ha.elim
 | _::_,[],_,_,ha,_=>ha.elim
section
variable {P:Program} {n:Nat} {w0:World} {I:sy} {A0:Nat→Prop}
theorem kG{ops:Array Oper}{o:Oper}{s:St}{a:Act}{w:World}{β:Nat→Option Nat}{A:Nat→Prop}(R:RB w0 I A0 n s a w β A):
  (FM ops o s=none→Region.wanted o (yielded ops a.tmps)=true)∧
  (∀b want,FM ops o s=some (.bool b,want)→Region.wanted o (yielded ops a.tmps)=(b == want))∧
  (∀xs want,FM ops o s=some (.kQ xs,want)→Region.wanted o (yielded ops a.tmps)=false):=by
 unfold FM Region.wanted;cases hg:o.guard with
 | none=>simp
 | some jw=>
  obtain⟨j,aq8⟩:=jw;simp only;cases hd:(ops[j]?).bind (·.dst)with
  | none=>simp
  | some d=>
   have hs:Rel ⟨w,A,s.h,β⟩ (if d<100000 then s.t d else .dead) (a.tmps.getD d undef):=kK R.ai (.tmp d);refine⟨by simp,fun b want h=>?_,fun xs want h=>?_⟩
   ·simp only[aCA,aCH]at h
    obtain⟨h1,rfl⟩:=h;rw[h1]at hs;have hv:=uy hs;have:yielded ops a.tmps j=some b:=by
     unfold yielded;rw[hd];simp only[aDd];rw[aDr]at hv;cases ht:a.tmps[d]? with
     | none=>rw[ht]at hv;cases hv
     | some u=>rw[ht]at hv;simp at hv;subst hv;rfl
    rw[this];cases b<;>cases aq8<;>rfl
   ·simp only[aCA,aCH]at h
    obtain⟨h1,rfl⟩:=h;rw[h1]at hs;obtain⟨vs,hv,_⟩:=QD hs;have:yielded ops a.tmps j=none:=by
     unfold yielded;rw[hd];simp only[aDd];rw[aDr]at hv;cases ht:a.tmps[d]? with
     | none=>rfl
     | some u=>rw[ht]at hv;simp at hv;subst hv;rfl
    rw[this];rfl
theorem wS{E:Env}:Rel E (.kQ []) undef:=⟨#[],rfl,rfl,fun i x h=>by simp at h⟩
theorem vj{n:Nat}{d:Option Nat}(h:dOK n d):∀k,d=some k→k<n:=by
 intro k hk;subst hk;exact h
theorem tF{s:St}{a:Act}{w:World}{β:Nat→Option Nat}{A:Nat→Prop}{sv:Nat→Value}(aow:∀i,Rel ⟨w,A,s.h,β⟩ (s.t i) (nU sv a i))(o:Oper){g:FuncId}{args:List V}(h:gF P o s.ev s.h=.call g args):
  ∃vs:Array Value,(execOp a.eval o).run P w=.ok (.enter g vs) w∧vs.size=args.length∧∀(i:Nat) (x:V),args[i]? = some x→∃u,vs[i]? = some u∧Rel ⟨w,A,s.h,β⟩ x u:=by
 have bL:=kK aow;obtain⟨dst,op,ty,pos,after,guard⟩:=o;unfold gF at h;simp only at h
 split at h<;>try (cases h;done)
 ·split at h<;>cases h
 ·rename_i t
  rcases iU P t with e | ⟨ob,e⟩<;>rw[e]at h<;>cases h
 ·unfold iD at h
  split at h<;>try (cases h;done)
  split at h<;>try (cases h;done)
  split at h<;>cases h
 ·unfold cY at h
  split at h<;>try (cases h;done)
  split at h<;>cases h
 ·split at h<;>try (cases h;done)
  unfold ic at h
  split at h<;>try (cases h;done)
  ·split at h<;>try (cases h;done)
   split at h<;>try (cases h;done)
   unfold fD at h
   split at h<;>try (cases h;done)
   split at h<;>try (cases h;done)
   split at h<;>try (cases h;done)
   split at h<;>cases h
  ·unfold fD at h
   split at h<;>try (cases h;done)
   split at h<;>try (cases h;done)
   split at h<;>try (cases h;done)
   split at h<;>cases h
 ·split at h<;>try (cases h;done)
  unfold fg at h
  split at h<;>try (cases h;done)
  split at h<;>try (cases h;done)
  split at h<;>cases h
 ·split at h<;>cases h
 ·split at h<;>cases h
 ·split at h<;>cases h
 ·split at h<;>try (cases h;done)
  split at h<;>cases h
 ·unfold eH at h
  split at h<;>try (cases h;done)
  split at h<;>try (cases h;done)
  split at h<;>try (cases h;done)
  all_goals (split at h<;>cases h)
 ·unfold df at h
  split at h<;>try (cases h;done)
  ·split at h<;>try (cases h;done)
   split at h<;>cases h
  ·split at h<;>cases h
 ·unfold kN at h
  split at h<;>try (cases h;done)
  split at h<;>try (cases h;done)
  split at h<;>try (cases h;done)
  split at h<;>try (cases h;done)
  split at h<;>cases h
 ·split at h
  ·unfold dL at h
   split at h<;>try (cases h;done)
   split at h<;>try (cases h;done)
   split at h<;>try (cases h;done)
   split at h<;>cases h
  ·unfold eo at h
   split at h<;>try (cases h;done)
   split at h<;>try (cases h;done)
   split at h<;>try (cases h;done)
   split at h<;>cases h
  ·unfold dx at h
   split at h<;>try (cases h;done)
   split at h<;>try (cases h;done)
   split at h<;>try (cases h;done)
   all_goals (split at h<;>cases h)
 ·split at h<;>try (cases h;done)
  split at h<;>cases h
 ·split at h<;>cases h
 ·split at h<;>cases h
 ·rename_i c
  obtain⟨callee,dp,argTypes⟩:=c;unfold fh at h;simp only at h
  split at h<;>try (cases h;done)
  ·rename_i F
   split at h<;>try (cases h;done)
   rename_i g' bZ hF
   split at h<;>try (cases h;done)
   rename_i aa7;simp only[AR.call.injEq]at h;obtain⟨rfl,rfl⟩:=h;have hx:=bL F;rw[hF]at hx;obtain⟨cvs,hv,dC,hc⟩:=hx;unfold BC at aa7
   split at aa7<;>try (cases aa7;done)
   rename_i fn hfn;simp only[aCs,aDe]at aa7;refine⟨dp.map a.eval++cvs,?_,by simp[dC],fun i x hx=>?_⟩
   ·have hb:fn.body.isNone=false:=by cases hfb:fn.body<;>simp_all
    simp only[execOp,resolve,hv,Deferred.ofValue,Sem.run_bind,Sem.run_pure,Result.andThen_ok,invoke,callFunc];have hn:¬ fn.name = "runtime.NumGoroutine":=by simpa using aa7.2
    have Bk:¬ fn.body=none:=by intro e;rw[e]at hb;cases hb
    simp[Sem.run,program,hfn,hn,Bk]
   ·by_cases hi:i<dp.size
    ·rw[aC6 (by simpa using hi),aDm]at hx
     have hg:dp.toList[i]? = some dp[i]:=by simp[hi]
     rw[hg]at hx;simp at hx;subst hx;refine⟨a.eval dp[i],?_,bL _⟩;rw[aDX (by simpa using hi)];simp[hi]
    ·rw[aCY (by simp;omega)]at hx
     simp only[aDF,aDM]at hx;obtain⟨u,h1,h2⟩:=hc _ x hx;refine⟨u,?_,Rel.Fl h2⟩;rw[aEt (by simp;omega)];simpa using h1
  ·split at h<;>try (cases h;done)
   split at h<;>try (cases h;done)
   split at h<;>cases h
  ·split at h<;>try (cases h;done)
   split at h<;>try (cases h;done)
   unfold dQ at h
   split at h<;>try (cases h;done)
   split at h<;>try (cases h;done)
   split at h<;>try (cases h;done)
   split at h<;>cases h
  ·split at h<;>cases h
  ·split at h<;>cases h
 ·unfold nY at h
  split at h<;>try (cases h;done)
  split at h<;>try (cases h;done)
  split at h<;>cases h
end
end Go.AL
