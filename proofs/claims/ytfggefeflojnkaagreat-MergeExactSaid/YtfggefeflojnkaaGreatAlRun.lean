/- AI. -/
import Derived.Test.YtfggefeflojnkaaGreatAlMem
import Derived.Deep.LoopGhost
import Derived.Scope
namespace Go.AL
section
variable {P:Program} {w0:World} {I:rM} {A0:Nat→Prop} {n:Nat} {s:St} {a:Act} {w:World} {β:Nat→Option Nat} {A:Nat→Prop}
theorem RB.store(R:RB w0 I A0 n s a w β A){t:TypeId}{x y:V}{cx cy:Value}(hx:Rel ⟨w,A,s.h,β⟩ x cx)(hy:Rel ⟨w,A,s.h,β⟩ y cy){p:Prop}{o:Nat}{ob':Ob}(h:fh P s.h t x y=.H3 p o ob')(hp:p)(ht:0<aq P t)
  (dst:Option Tmp) (hd:∀k,dst=some k→k<n) :
  ∃w',(Instr.storeAt t cx cy).run P w=.ok () w'∧RR w0 I A0 n ((s.bQ o ob').put dst .dead) (a.put dst undef) w':=by
 unfold fh at h
 split at h<;>try trivial
 rename_i o m i j
 split at h<;>try trivial
 rename_i ob ho
 split at h<;>try trivial
 rename_i row aK;simp only[AR.H3.injEq]at h;obtain⟨rfl,rfl,rfl⟩:=h;obtain⟨p1,p2,p3,p4⟩:=hp;obtain⟨b,hb,rfl⟩:=(hx ob ho).2 p1;simp only at hb;have aO:=R.bZ.ok o ob ho;simp only at aO;rw[hb]at aO;obtain⟨_,cur,hh,bI,hlen,j6⟩:=aO;simp only at hh j6;have hcy:=Cells.FO hy p2;have rX:cy.cells.size=y.cells.length:=by simpa using hcy.1
 obtain⟨ti,ra,dO⟩:=kf (P:=P) (t:=t) rfl ht;have Em:=bI row (azO aK);have nB:=(azR.1 aK).1;have hrb:(i+1)*ob.es≤cur.size:=az0 (aAh _ nB) hlen;rw[aAb]at hrb;have wu:=run_storeCells_at (P:=P) b (i*ob.es+j) ob.ty cy.cells.toList 0 cur w hh (by simp only[aAU,rX];omega) (fun u hu=>by
  obtain⟨k,hk⟩:=aAr hu;have Dv:k<y.cells.length:=by grind
  obtain⟨u',u1,u2,_⟩:=hcy.2 k _ (azS Dv);grind)
 obtain⟨cur',Zw⟩:∃cur',cur'=(cur.toList.take (i*ob.es+j+0)++cy.cells.toList++cur.toList.drop (i*ob.es+j+0+cy.cells.toList.length)).toArray:=⟨_,rfl⟩;rw[← Zw]at wu;have uR:cur'.size=cur.size:=by
  grind
 have Dx:∀k,cur'[k]? = if i*ob.es+j≤k∧k<i*ob.es+j+y.cells.length then cy.cells[k-(i*ob.es+j)]? else cur[k]?:=by
  intro k;rw[Zw];simp only[aBj,aBF,aAB];have alY:(cur.toList.take (i*ob.es+j)).length=i*ob.es+j:=by simp;omega
  by_cases c1:k<i*ob.es+j
  ·grind
  ·rw[aAa (by grind),alY]
   by_cases c2:k-(i*ob.es+j)<y.cells.length
   ·grind
   ·rw[aAa (by grind),azD (by omega),aAM]
    grind
 have Qf:(putAt row j y.cells).length=row.length:=by
  simp only[putAt,azG,az5,aAe];omega
 refine⟨w.setRow b cur',?_,_,_,R.afB o ob {ob with imp:=ob.imp || !y.pure,rows:=ob.rows.set i (putAt row j y.cells) } ho rfl rfl (by simp) (w.setRow b cur') b cur' (setRow_heap w b cur cur' ob.ty (0,0) hh) (.inl ⟨hb,fun c hc=>?_⟩) ?_ ?_ ⟨rfl,rfl,rfl⟩ ?_ ?_ ?_ dst hd .dead undef (.inl rfl)⟩
 ·have agm:cy.cells.size=ti.size:=by grind
  simp only[Instr.storeAt,Instr.sureAddr,Sem.run_bind,Sem.run_pure,Result.andThen_ok,storeVar,sizeOf,typeInfo];simp_all
 ·grind
 ·intro k hk dU
  exact setRow_other w b k cur' (fun e=>dU (by rw[hb,e]))
 ·simp_all
 ·grind
 ·grind
 ·intro i' dX j5 j' x hx'
  simp only at j5;have oA:∀(Xq:List V),ob.rows[i']? = some Xq→Xq[j']? = some x→(i'=i→¬ (j≤j'∧j'<j+y.cells.length))→
    ∃v,cur'[i'*ob.es+j']? = some v∧v.oneCell'=true∧bw ⟨w,A,s.h,β⟩ x v∧((ob.imp || !y.pure)=false→aY w A x v):=by
   intro Xq h0 h1 dU;obtain⟨v,c1,c2,c3,c4⟩:=j6 i' Xq h0 j' x h1;refine⟨v,?_,c2,c3,fun hi=>c4 (by grind)⟩;rw[Dx,azD,c1];intro hc;have hj':j'<ob.es:=by rw[← bI Xq (azO h0)];exact(azR.1 h1).1
   have hii:i'=i:=by
    rcases Nat.lt_trichotomy i' i with bO | heq | Dw
    ·have:(i'+1)*ob.es≤i*ob.es:=aAh _ bO
     rw[aAb]at this;omega
    ·exact heq
    ·have:(i+1)*ob.es≤i'*ob.es:=aAh _ Dw
     rw[aAb]at this;omega
   subst hii;exact dU rfl ⟨by omega,by omega⟩
  by_cases hii:i'=i
  ·subst hii
   rw[aA6 nB]at j5;cases j5;simp only[putAt,aAB]at hx';by_cases c1:j'<j
   ·grind
   ·rw[aAa (by simp;omega)]at hx'
    simp only[az5,show min j row.length=j from by omega]at hx';by_cases c2:j'-j<y.cells.length
    ·rw[aAg c2]at hx'
     obtain⟨u,u1,u2,u3,u4⟩:=hcy.2 _ x hx';refine⟨u,?_,u2,u3,fun hi=>u4 (by grind)⟩;rw[Dx,azE (by omega),show i'*ob.es+j'-(i'*ob.es+j)=j'-j from by omega];grind
    ·rw[aAa (by omega),aAM]at hx'
     rw[show j+y.cells.length+(j'-j-y.cells.length)=j' from by omega]at hx';grind
  grind
theorem ahk(R:RB w0 I A0 n s a w β A)(o:Oper){p:Prop}{q:Nat}{ob:Ob}(h:gH P o s.ev s.h=.H3 p q ob)(hp:p)(hd:∀k,o.dst=some k→k<n):
  ∃w',(execOp a.eval o).run P w=.ok .skip w'∧RR w0 I A0 n ((s.bQ q ob).put o.dst .dead) (a.put o.dst undef) w':=by
 have bm:=kB R.au;obtain⟨dst,op,ty,pos,after,guard⟩:=o;unfold gH at h;simp only at h
 split at h<;>try trivial
 ·grind
 ·grind[jd]
 ·grind[iL]
 ·grind[cW]
 ·split at h<;>try trivial
  unfold iy at h
  split at h<;>try trivial
  all_goals grind[fF]
 ·
  rename_i t x y
  split at h<;>try trivial
  rename_i ht;obtain⟨w',hr,hR⟩:=R.store (P:=P) (bm x) (bm y) h hp ht dst hd;refine⟨w',?_,hR⟩;simp only[execOp];simp_all
 ·grind
 ·grind
 ·grind
 ·grind
 ·grind[ez]
 ·unfold dd at h
  grind
 ·unfold kH at h
  grind
 ·split at h
  ·unfold dG at h
   grind
  ·unfold dZ at h
   grind
  ·unfold dy at h
   grind
 ·grind
 ·grind
 ·grind
 ·rename_i c
  obtain⟨callee,args,argTypes⟩:=c;unfold fi at h;simp only at h
  split at h<;>try trivial
  ·grind
  ·grind
  ·split at h<;>try trivial
   grind[dM]
  all_goals grind
 ·unfold nu at h
  grind
theorem ahm(R:RB w0 I A0 n s a w β A)(o:Oper){p:Prop}{q:Nat}{ob:Ob}(h:gH P o s.ev s.h=.app p q ob)(hp:p)(hd:∀k,o.dst=some k→k<n):
  ∃u w',(execOp a.eval o).run P w=.ok (.value u) w'∧RR w0 I A0 n ((s.bQ q ob).put o.dst (.ref q ob.rows.length)) (a.put o.dst u) w':=by
 have bm:=kB R.au;obtain⟨dst,op,ty,pos,after,guard⟩:=o;unfold gH at h;simp only at h
 split at h<;>try trivial
 ·grind
 ·grind[jd]
 ·grind[iL]
 ·grind[cW]
 ·split at h<;>try trivial
  unfold iy at h
  split at h<;>try trivial
  all_goals grind[fF]
 ·split at h<;>try trivial
  unfold fh at h
  grind
 ·grind
 ·grind
 ·grind
 ·grind
 ·grind[ez]
 ·unfold dd at h
  grind
 ·unfold kH at h
  grind
 ·split at h
  ·unfold dG at h
   grind
  ·unfold dZ at h
   grind
  ·unfold dy at h
   grind
 ·grind
 ·grind
 ·grind
 ·rename_i c
  obtain⟨callee,args,argTypes⟩:=c;unfold fi at h;simp only at h
  split at h<;>try trivial
  ·grind
  ·grind
  ·split at h<;>try trivial
   rename_i x y t t' cZ Y2
   split at h<;>try trivial
   rename_i htt;subst htt;unfold dM at h
   split at h<;>try trivial
   rename_i e new he bF
   split at h<;>try trivial
   rename_i hz
   split at h<;>try trivial
   rename_i o m gp
   split at h<;>try trivial
   rename_i bA ho;simp only[AR.app.injEq]at h;obtain⟨rfl,rfl,rfl⟩:=h;obtain⟨p1,p2,p3,p4,p5,p6⟩:=hp;have hx:=bm x;rw[gp]at hx;have hm:args.map a.eval=#[a.eval x,a.eval y]:=by
    apply aA3;simp[cZ]
   have hmt:argTypes=#[t,t]:=by grind
   simp only[not_or]at hz;obtain⟨r,w',hr,hR⟩:=R.UC (P:=P) he (by omega) (Option.isSome_iff_ne_none.2 (by grind)) (bm y) bF p4 ho hx p1 p2 p3 p5 p6 ty dst hd;refine⟨r,w',?_,hR⟩;simp only[execOp,resolve,invoke,builtin,hm,hmt,Sem.run_bind,Sem.run_pure,Result.andThen_ok,hr]
  all_goals grind
 ·unfold nu at h
  grind
end
end Go.AL
namespace Go.AL
inductive RD where
 | v (x:V)
 | o (ty es:Nat) (rows:List (List V))
def V.atom:V→Bool
 | .int .. | .bool _ | .str _ | .nil | .sl _ | .raw _=>true
 | _=>false
def RD.val(k:Nat):RD→V
 | .v x=>x
 | .o _ _ rows=>.ref k rows.length
def RD.ob:RD→Option Ob
 | .v _=>none
 | .o ty es rows=>some ⟨ty,es,false,rows⟩
def RD.ok:RD→Bool
 | .v x=>x.pure
 | .o ..=>true
def gC(rds:List RD)(k:Nat):Option Ob:=(rds[k]?).bind RD.ob
def jE:List Value→Value
 | [v]=>v
 | vs=>.tuple vs.toArray
def lh:List V→V
 | [v]=>v
 | vs=>.kI vs
def cq:Nat→List RD→List V
 | _,[]=>[]
 | d,rd::r=>rd.val d::cq (d+1000) r
def fB:Nat→Option Ob:=fun _=>none
def iE:Nat→Option Nat:=fun _=>none
def zl:rM:=⟨fun _=>False,fun _=>False,iE,fun _=>0,fun _=>undef⟩
structure vu (w:World) (A:Nat→Prop) (rds:List RD) (w':World) (us:List Value) (β':Nat→Option Nat) (A':Nat→Prop):Prop where
 len:us.length=rds.length
 bZ:bU ⟨w',A',gC rds,β'⟩
 rel:∀(k:Nat) (rd:RD),rds[k]? = some rd→∃u,us[k]? = some u∧cD ⟨w',A',gC rds,β'⟩ (rd.val k) u
 a0:∀b,b<w.heap.size→A b→A' b
 ev:Ev w w' zl.P
 own:∀k ob b,gC rds k=some ob→β' k=some b→w.heap.size≤b
def EW(P:Program)(f:FuncId)(args:List V)(Pd:List RD→Prop):Prop:=
 (∀rds,Pd rds→∀rd∈rds,rd.ok=true)∧
 ∀(w:World) (A:Nat→Prop) (vs:Array Value),(∀b,A b→b<w.heap.size)→vs.size=args.length→
  (∀(i:Nat) (x:V),args[i]? = some x→∃u,vs[i]? = some u∧Rel ⟨w,A,fB,iE⟩ x u)→
  Calls P f vs w fun e w'=>∃rds us β' A',Pd rds∧e=.returned (jE us)∧vu w A rds w' us β' A'
def bc(d m p:Nat):Bool:=decide (d≤p)&&((p-d) % 1000 == 0)&&decide ((p-d) / 1000<m)
theorem dx{d m p:Nat}(h:bc d m p=true):p=d+1000*((p-d) / 1000)∧(p-d) / 1000<m:=by
 simp only[bc,azF,azM,aAO]at h;grind
theorem jS{d m k:Nat}(h:k<m):bc d m (d+1000*k)=true∧(d+1000*k-d) / 1000=k:=by
 have e:(d+1000*k-d) / 1000=k:=by omega
 refine⟨?_,e⟩;simp only[bc,azF,azM,aAO,e];grind
def ek(h:Nat→Option Ob)(d:Nat)(rds:List RD):Nat→Option Ob:=fun p=>
 if bc d rds.length p then gC rds ((p-d) / 1000)else(h p).map (Ob.kill (bc d rds.length))
def St.call(s:St)(dst:Option Nat)(rds:List RD):St:=match dst with
 | some d=>⟨fun i=>if i=d then lh (cq d rds)else(s.t i).kill (bc d rds.length),ek s.h d rds⟩
 | none=>s
theorem mh:∀(rds:List RD) (d k:Nat),(cq d rds)[k]? = (rds[k]?).map (RD.val (d+1000*k))
 | [],d,k=>by simp[cq]
 | rd::r,d,0=>by simp[cq]
 | rd::r,d,k+1=>by
  simp only[cq,aBp];rw[mh r (d+1000) k]
  grind
theorem sP:∀(rds:List RD) (d:Nat),(cq d rds).length=rds.length
 | [],d=>rfl
 | rd::r,d=>by simp[cq,sP r]
theorem qX{E E':Env}{x:V}{u:Value}(hp:x.pure=true)(hs:E.w=E'.w)(hA:∀b,b<E'.w.heap.size→E'.A b→E.A b)(h:cD E x u):cD E' x u:=by
 have key:∀y v,aY E.w E.A y v→aY E'.w E'.A y v:=fun y v h=>by
  rw[← hs];exact h.frame (fun _ _ _=>rfl) (azJ _) (fun b hb=>hA b (by grind))
 cases x with
 | agg cs=>
  obtain⟨vs,hv,dO,hc⟩:=h;exact⟨vs,hv,dO,fun i x hx=>let ⟨u,h1,h2⟩:=hc i x hx;⟨u,h1,key _ _ h2⟩⟩
 | int k n=>exact key _ _ h
 | bool b=>exact key _ _ h
 | str s=>exact key _ _ h
 | nil=>exact key _ _ h
 | sl rows=>exact key _ _ h
 | raw v=>exact key _ _ h
 | _=>grind[V.pure]
theorem wG{E E':Env}{x:V}{v:Value}(hx:x.atom=true)(hP:∀y v,aY E.w E.A y v→aY E'.w E'.A y v)(h:bw E x v):bw E' x v:=by
 cases x<;>first | exact hP _ _ h | (simp[V.atom]at hx;done)
section
variable {P:Program} {w0:World} {I:rM} {A0:Nat→Prop} {n:Nat} {s:St} {a:Act} {w:World} {β:Nat→Option Nat} {A:Nat→Prop}
theorem RB.call(R:RB w0 I A0 n s a w β A){rds:List RD}(aO:∀rd∈rds,rd.ok=true){w':World}{us:List Value}{β':Nat→Option Nat}{A':Nat→Prop}(h:vu w A rds w' us β' A')
  (dst:Option Tmp) (hd:∀k,dst=some k→k<n):RR w0 I A0 n (s.call dst rds) (a.put dst (jE us)) w':=by
 have lB:∀o ob' b,s.h o=some ob'→β o=some b→b<w.heap.size:=fun o ob' b ho hb=>by
  have:=R.bZ.ok o ob' ho;simp only at this;rw[hb]at this;exact R.bZ.lt b this.1
 have main:∀d,d<n→RB w0 I A0 n ⟨fun i=>(s.t i).kill (bc d rds.length),ek s.h d rds⟩ a w' (fun p=>if bc d rds.length p then β' ((p-d) / 1000)else β p)
    (fun b=>(b<w.heap.size∧A b)∨∃k ob,gC rds k=some ob∧β' k=some b)∧
   (∀(k:Nat) (rd:RD),rds[k]? = some rd→∃u,us[k]? = some u∧cD ⟨w',fun b=>(b<w.heap.size∧A b)∨∃k ob,gC rds k=some ob∧β' k=some b,ek s.h d rds,fun p=>if bc d rds.length p then β' ((p-d) / 1000)else β p⟩ (rd.val (d+1000*k)) u):=by
  intro d hdn;have Nx:∀b,((b<w.heap.size∧A b)∨∃k ob,gC rds k=some ob∧β' k=some b)→A' b:=by
   rintro b (⟨h1,h2⟩ | ⟨k,ob,h1,h2⟩)
   ·exact h.a0 b h1 h2
   ·have:=h.bZ.ok k ob h1
    simp only at this;rw[h2]at this;exact this.1
  have hold:∀b,b<w.heap.size→w'.heap[b]? = w.heap[b]?:=fun b hb=>h.ev.block b hb (fun hI=>hI)
  have S:Step ⟨w,A,s.h,β⟩ ⟨w',fun b=>(b<w.heap.size∧A b)∨∃k ob,gC rds k=some ob∧β' k=some b,ek s.h d rds,fun p=>if bc d rds.length p then β' ((p-d) / 1000)else β p⟩:=by
   refine⟨fun b hb _=>hold b hb,h.ev.size,fun b hb hh=>?_,fun b hb hh=>?_⟩
   ·rcases hh with⟨_,h2⟩ | ⟨k,ob,h1,h2⟩
    ·exact h2
    ·have:=h.own k ob b h1 h2
     simp only at hb;omega
   ·obtain⟨p,ob,hp,yM⟩:=hh
    simp only[ek]at hp yM;by_cases hK:bc d rds.length p=true
    ·rw[azE hK]at hp yM
     have:=h.own _ ob b hp yM;simp only at hb;omega
    ·rw[azD hK]at hp yM
     cases dS:s.h p with
     | none=>simp[dS]at hp
     | some bE=>exact⟨p,bE,dS,yM⟩
  have hk:∀p,bc d rds.length p=false→qJ ⟨w,A,s.h,β⟩ ⟨w',fun b=>(b<w.heap.size∧A b)∨∃k ob,gC rds k=some ob∧β' k=some b,ek s.h d rds,fun p=>if bc d rds.length p then β' ((p-d) / 1000)else β p⟩ p:=by
   intro p hp ob' dT;simp only[ek,hp,aAE,aAd]at dT ⊢;cases dS:s.h p with
   | none=>simp[dS]at dT
   | some bE=>
    simp[dS]at dT;subst dT;refine⟨bE,rfl,by rw[Ob.dg];exact azJ _,fun _=>⟨trivial,Ob.eP _ _,Ob.gU _ _,fun b cur' hb fw=>⟨cur',?_,rfl⟩⟩⟩;rw[hold b (lB p bE b dS hb)];exact fw
  have wT:∀(k:Nat) (rd:RD),rds[k]? = some rd→bc d rds.length (d+1000*k)=true∧(d+1000*k-d) / 1000=k:=fun k rd hk=>jS (azR.1 hk).1
  have aP:bU ⟨w',fun b=>(b<w.heap.size∧A b)∨∃k ob,gC rds k=some ob∧β' k=some b,ek s.h d rds,fun p=>if bc d rds.length p then β' ((p-d) / 1000)else β p⟩:=by
   refine⟨fun p ob hp=>?_,fun p q tK bE b h1 h2 h3 h4=>?_,fun b hb=>h.bZ.lt b (Nx b hb)⟩
   ·simp only[ek]at hp ⊢
    by_cases hK:bc d rds.length p=true
    ·rw[azE hK]at hp ⊢
     have cR:=h.bZ.ok _ ob hp;simp only at cR;have himp:ob.imp=false:=by
      unfold gC at hp;cases hr:rds[(p-d) / 1000]? with
      | none=>simp[hr]at hp
      | some rd=>cases rd<;>simp[hr,RD.ob]at hp<;>(subst hp;rfl)
     cases hb:β' ((p-d) / 1000)with
     | none=>rw[hb]at cR;exact cR
     | some b=>
      rw[hb]at cR;obtain⟨_,cur,h1,h2,h3,h4⟩:=cR;refine⟨.inr ⟨_,ob,hp,hb⟩,cur,h1,h2,h3,fun i row hi j x hx=>?_⟩;obtain⟨v,c1,c2,_,c4⟩:=h4 i row hi j x hx;have c5:aY w' _ x v:=(c4 himp).frame (A':=fun b=>(b<w.heap.size∧A b)∨∃k ob,gC rds k=some ob∧β' k=some b) (fun _ _ _=>rfl) (azJ _) (fun b _ hb=>Nx b hb);exact⟨v,c1,c2,bw.aN c5,fun _=>c5⟩
    ·rw[azD hK]at hp ⊢
     cases dS:s.h p with
     | none=>simp[dS]at hp
     | some bE=>
      simp[dS]at hp;subst hp;have cR:=R.bZ.ok p bE dS;exact si.step R.bZ S _ hk (fun b hb=>⟨hold b (lB p bE b dS hb),.inl ⟨lB p bE b dS hb,by simp only at cR;rw[hb]at cR;exact cR.1⟩⟩) cR
   ·simp only[ek]at h1 h2 h3 h4
    by_cases e1:bc d rds.length p=true
    ·by_cases e2:bc d rds.length q=true
     ·rw[azE e1]at h1 h3
      rw[azE e2]at h2 h4;have hi:=h.bZ.inj _ _ tK bE b h1 h2 h3 h4;have s1:=(dx e1).1;have s2:=(dx e2).1;rw[s1,s2,hi]
     ·rw[azE e1]at h1 h3
      rw[azD e2]at h2 h4;cases dS:s.h q with
      | none=>simp[dS]at h2
      | some sk=>
       have:=lB q sk b dS h4;have:=h.own _ tK b h1 h3;omega
    ·by_cases e2:bc d rds.length q=true
     ·rw[azD e1]at h1 h3
      rw[azE e2]at h2 h4;cases dS:s.h p with
      | none=>simp[dS]at h1
      | some sk=>
       have:=lB p sk b dS h3;have:=h.own _ bE b h2 h4;omega
     ·rw[azD e1]at h1 h3
      rw[azD e2]at h2 h4;cases dS:s.h p with
      | none=>simp[dS]at h1
      | some sk=>
       cases Kf:s.h q with
       | none=>simp[Kf]at h2
       | some X4=>exact R.bZ.inj p q sk X4 b dS Kf h3 h4
  refine⟨?_,fun k rd hkr=>?_⟩
  ·have:=R.step w' _ _ (ek s.h d rds) (bc d rds.length) S hk aP (fun b hb hb0=>.inl ⟨az3 hb R.ev.size,R.a0 b hb hb0⟩)
    ⟨h.ev.os.trans R.ev.os,h.ev.tape.trans R.ev.tape,h.ev.output.trans R.ev.output,az0 R.ev.size h.ev.size,fun k hk hI=>by
     rw[hold k (az3 hk R.ev.size)];exact R.ev.block k hk hI⟩
    (fun p ob b hp hb=>by
     simp only[ek]at hp;by_cases hK:bc d rds.length p=true
     ·rw[azE hK]at hp hb
      have:=h.own _ ob b hp hb;exact .inl (az0 R.ev.size this)
     ·rw[azD hK]at hp hb
      cases dS:s.h p with
      | none=>simp[dS]at hp
      | some bE=>exact R.own p bE b dS hb)
    (fun p hq hx=>by
     have hq2:=R.qn p hq;have:=(dx hx).1;omega)
    none (fun _ h=>by cases h) .dead undef trivial
   exact this
  ·obtain⟨u,hu,hrel⟩:=h.rel k rd hkr
   refine⟨u,hu,?_⟩;obtain⟨wV,hk2⟩:=wT k rd hkr;cases rd with
   | v x=>exact qX (E:=⟨w',A',gC rds,β'⟩) (aO _ (azO hkr)) rfl (fun b _ hb=>Nx b hb) hrel
   | o ty es rows=>
    intro ob cR;simp only[ek,wV,aAo,hk2]at cR;have hr:=hrel ob cR;simp only[wV,aAo,hk2];exact hr
 cases dst with
 | none=>
  have hold:∀b,b<w.heap.size→w'.heap[b]? = w.heap[b]?:=fun b hb=>h.ev.block b hb (fun hI=>hI)
  have S:Step ⟨w,A,s.h,β⟩ ⟨w',A,s.h,β⟩:=⟨fun b hb _=>hold b hb,h.ev.size,fun _ _ h=>h,fun _ _ h=>h⟩;have hk:∀p,qJ ⟨w,A,s.h,β⟩ ⟨w',A,s.h,β⟩ p:=fun p ob ho=>⟨ob,ho,azJ _,fun _=>⟨rfl,rfl,rfl,fun b cur hb hc=>⟨cur,by
   grind⟩⟩⟩
  have:=R.step w' β A s.h (fun _=>false) S (fun p _=>hk p)
   ⟨fun o ob ho=>by
    have h2:=R.bZ.ok o ob ho;have:=si.step R.bZ S (fun _=>false) (fun p _=>hk p) (fun b hb=>⟨hold b (lB o ob b ho hb),by simp only at h2;rw[hb]at h2;exact h2.1⟩) h2
    rwa [Ob.bK]at this,R.bZ.inj,fun b hb=>az3 (R.bZ.lt b hb) h.ev.size⟩
   R.a0 ⟨h.ev.os.trans R.ev.os,h.ev.tape.trans R.ev.tape,h.ev.output.trans R.ev.output,az0 R.ev.size h.ev.size,fun k hk hI=>by
     rw[hold k (az3 hk R.ev.size)];exact R.ev.block k hk hI⟩ R.own (fun _ _ h=>by cases h) none (fun _ h=>by cases h) .dead undef trivial
  have e:(⟨fun i=>(s.t i).kill fun _=>false,s.h⟩:St)=s:=by simp only[V.bK]
  rw[e]at this;exact⟨_,_,this⟩
 | some d=>
  obtain⟨hR,hrel⟩:=main d (hd d rfl);have alS:Rel ⟨w',fun b=>(b<w.heap.size∧A b)∨∃k ob,gC rds k=some ob∧β' k=some b,ek s.h d rds,fun p=>if bc d rds.length p then β' ((p-d) / 1000)else β p⟩ (lh (cq d rds)) (jE us):=by
   have hl:us.length=(cq d rds).length:=by rw[h.len,sP]
   have fQ:∀(k:Nat) (x:V),(cq d rds)[k]? = some x→∃u,us[k]? = some u∧cD ⟨w',fun b=>(b<w.heap.size∧A b)∨∃k ob,gC rds k=some ob∧β' k=some b,ek s.h d rds,fun p=>if bc d rds.length p then β' ((p-d) / 1000)else β p⟩ x u:=by
    intro k x hx;grind[mh]
   generalize cq d rds=xs at hl fQ
   match xs,us with
   | [],[]=>exact⟨#[],rfl,rfl,fun i x hx=>by simp at hx⟩
   | [x],[u]=>
    obtain⟨u',h1,h2⟩:=fQ 0 x rfl;simp at h1;subst h1;exact h2.rel
   | x::y::xs,u::u2::us=>
    refine⟨(u::u2::us).toArray,rfl,by simpa using hl,fun i z hz=>?_⟩;obtain⟨u',h1,h2⟩:=fQ i z hz;exact⟨u',by simpa using h1,h2⟩
   | [],_::_=>simp at hl
   | _::_,[]=>simp at hl
   | [_],_::_::_=>simp at hl
   | _::_::_,[_]=>simp at hl
  exact⟨_,_,hR.put (some d) hd _ _ alS⟩
end
end Go.AL
namespace Go.AL
def Ph:List V→List V→Prop
 | [],[]=>True
 | x::xs,y::ys=>(y=x∨(x=.nil∧y=.sl []))∧Ph xs ys
 | _,_=>False
def Z6(ob:Ob)(i:Nat)(row:List V):Prop:=(ob.imp=false∧ob.rows[i]? = some row)∨∃full,ob.rows[i]? = some full∧row=full.take row.length∧row.all V.atom=true
theorem B1{E:Env}{ob:Ob}{b:Nat}(aO:si E ob (some b)){i:Nat}{row:List V}(h:Z6 ob i row):∃f:Nat→Value,∀(k:Nat) (x:V),row[k]? = some x→E.w.cell? ⟨b,i*ob.es+k,none⟩=some (f k)∧aY E.w E.A x (f k):=by
 rcases h with⟨himp,aK⟩ | ⟨full,aK,he,fP⟩
 ·obtain⟨f,_,hc⟩:=xi aO aK
  exact⟨f,fun k x hk=>⟨(hc k x hk).1,(hc k x hk).2.2.2 himp⟩⟩
 ·obtain⟨f,_,hc⟩:=xi aO aK
  refine⟨f,fun k x hk=>?_⟩;have hx:=azU.1 fP x (azO hk);have wv:full[k]? = some x:=by
   grind
  refine⟨(hc k x wv).1,?_⟩;have h3:=(hc k x wv).2.2.1;cases x<;>first | exact h3 | (simp[V.atom]at hx;done)
def xj(h:Nat→Option Ob):V→V→Prop
 | .ptr o n i j,.cp row j'=>∃ob,h o=some ob∧n=ob.rows.length∧Z6 ob i row∧j'=j
 | .cp row j,.cp dX j'=>dX=row∧j'=j
 | x,y=>y=x∧x.pure=true∧∀cs,x ≠ .agg cs
def mB(h:Nat→Option Ob):List V→List V→Prop
 | [],[]=>True
 | x::xs,y::ys=>xj h x y∧mB h xs ys
 | _,_=>False
def jU(h:Nat→Option Ob):V→V→Prop
 | .ref o n,.rd rows=>∃ob,h o=some ob∧n=ob.rows.length∧ob.imp=false∧rows=ob.rows
 | .sl rows,.rd bq=>bq=rows
 | .rd rows,.rd bq=>bq=rows
 | .nil,.rd bq=>bq=[]
 | .nil,.sl bq=>bq=[]
 | .agg cs,.agg eL=>eL=cs∨Ph cs eL
 | .ptr o n i j,.cp row j'=>∃ob,h o=some ob∧n=ob.rows.length∧Z6 ob i row∧j'=j
 | .cp row j,.cp dX j'=>dX=row∧j'=j
 | .fn f xs,.fn g ys=>g=f∧mB h xs ys
 | x,y=>y=x∧x.pure=true
def kG(h:Nat→Option Ob):List V→List V→Prop
 | [],[]=>True
 | x::xs,y::ys=>jU h x y∧kG h xs ys
 | _,_=>False
def Ge(ops:Array Oper)(o:Oper)(s:St):Option (V×Bool):=
 match o.guard with
 | none=>none
 | some (j,want)=>match(ops[j]?).bind (·.dst)with
  | some d=>some (if d<100000 then s.t d else .dead,want)
  | none=>some (.dead,want)
def dOK(n:Nat):Option Nat→Prop
 | some d=>d<n
 | none=>True
theorem Iz{w:World}{A:Nat→Prop}{x y:V}{u:Value}(h:y=x∨(x=.nil∧y=.sl []))(hr:aY w A x u):aY w A y u:=by
 rcases h with rfl | ⟨rfl,rfl⟩
 ·exact hr
 ·cases hr;exact .slnil _
theorem wA:∀{xs ys:List V},Ph xs ys→xs.length=ys.length∧∀(i:Nat) (y:V),ys[i]? = some y→∃x,xs[i]? = some x∧(y=x∨(x=.nil∧y=.sl []))
 | [],[],_=>⟨rfl,fun i y h=>by simp at h⟩
 | x::xs,y::ys,h=>by
  obtain⟨h,t⟩:=h;obtain⟨h1,h2⟩:=wA t;grind
 | [],_::_,h=>h.elim
 | _::_,[],h=>h.elim
theorem XO{w:World}{A:Nat→Prop}{h:Nat→Option Ob}{β:Nat→Option Nat}(H:bU ⟨w,A,h,β⟩){o n i j j':Nat}{row:List V}{u:Value}(hr:bw ⟨w,A,h,β⟩ (.ptr o n i j) u)
  (ha:∃ob,h o=some ob∧n=ob.rows.length∧Z6 ob i row∧j'=j):bw ⟨w,A,fB,iE⟩ (.cp row j') u:=by
 obtain⟨ob,ho,hn,hcp,rfl⟩:=ha;obtain⟨b,hb,rfl⟩:=(hr ob ho).2 hn;have aO:=H.ok o ob ho;simp only at hb aO;rw[hb]at aO;have bO:=H.lt b aO.1;obtain⟨f,hc⟩:=B1 aO hcp;exact⟨b,i*ob.es,f,rfl,bO,fun⟨_,_,h,_⟩=>by simp[fB]at h,fun k x hk=>(hc k x hk).1,fun k x hk=>(hc k x hk).2⟩
theorem KS{w:World}{A:Nat→Prop}{h:Nat→Option Ob}{β:Nat→Option Nat}(H:bU ⟨w,A,h,β⟩):∀{xs ys:List V},mB h xs ys→
  xs.length=ys.length∧∀(i:Nat) (y:V),ys[i]? = some y→∃x,xs[i]? = some x∧∀u,bw ⟨w,A,h,β⟩ x u→bw ⟨w,A,fB,iE⟩ y u
 | [],[],_=>⟨rfl,fun i y h=>by simp at h⟩
 | x::xs,y::ys,ha=>by
  obtain⟨e1,e2⟩:=KS H ha.2;refine⟨by simp[e1],fun i z hz=>?_⟩;cases i with
  | zero=>
   simp at hz;subst hz;refine⟨x,rfl,fun u hu=>?_⟩;have h1:=ha.1;unfold xj at h1
   split at h1
   ·grind[XO]
   ·obtain⟨rfl,rfl⟩:=h1
    obtain⟨b,off,f,g1,g2,_,g4,g5⟩:=hu;exact⟨b,off,f,g1,g2,(fun⟨_,_,h,_⟩=>by simp[fB]at h),g4,g5⟩
   ·obtain⟨rfl,hp,F9⟩:=h1
    refine bw.aN (E:=⟨w,A,fB,iE⟩) (?_:aY w A y u);cases y<;>first | exact hu | (simp[V.pure]at hp;done) | exact absurd rfl (F9 _)
  | succ i=>
   grind
 | [],_::_,ha=>ha.elim
 | _::_,[],ha=>ha.elim
theorem GG{w:World}{A:Nat→Prop}{h:Nat→Option Ob}{β:Nat→Option Nat}(H:bU ⟨w,A,h,β⟩){x y:V}{u:Value}(hr:Rel ⟨w,A,h,β⟩ x u)(ha:jU h x y):Rel ⟨w,A,fB,iE⟩ y u:=by
 have nM:∀b,¬ (⟨w,A,fB,iE⟩:Env).M b:=fun b ⟨_,_,h,_⟩=>by simp[fB]at h
 have WG:∀(X:Nat→Prop) (rows:List (List V)),gF w A X rows u→Rel ⟨w,A,fB,iE⟩ (.rd rows) u:=by
  intro X rows hs;rcases hs with h1 | ⟨b,off,cap,es,f,hv,jM,hb,bI,hc,hrr⟩
  ·exact .inl h1
  ·exact .inr ⟨b,off,cap,es,f,hv,jM,fun dU=>⟨(hb dU).1,nM b⟩,bI,hc,hrr⟩
 unfold jU at ha
 split at ha
 ·obtain⟨ob,ho,hn,himp,rfl⟩:=ha
  rename_i o n;have h2:=(hr ob ho).2 hn;have aO:=H.ok o ob ho;simp only at h2 aO;cases hb:β o with
  | none=>rw[hb]at h2 aO;exact .inl ⟨⟨_,h2⟩,aO⟩
  | some b=>
   rw[hb]at h2 aO;obtain⟨cap,cur,rfl,h3,h4,h5,h6⟩:=h2;obtain⟨hA,cur',hh,rW,hlen,j6⟩:=aO;simp only at hh h5 j6;have:cur'=cur:=by grind
   subst this;refine .inr ⟨b,0,cap,ob.es,fun i j=>(cur'[i*ob.es+j]?).getD undef,by rw[hn],by rw[← hn];exact h3,fun _=>⟨H.lt b hA,nM b⟩,rW,fun i row hi j x hx=>?_,fun i row hi j x hx=>?_⟩
   ·obtain⟨v,c1,_⟩:=j6 i row hi j x hx
    rw[az8,cell_of_row w b _ cur' ob.ty (0,0) hh,c1];simp[c1]
   grind
 ·subst ha;exact WG _ _ (ei hr)
 ·subst ha;exact WG _ _ hr
 ·subst ha
  have:u=.slice none 0 0:=by cases hr;rfl
  exact .inl ⟨⟨_,this⟩,rfl⟩
 ·subst ha
  have:u=.slice none 0 0:=by cases hr;rfl
  subst this;exact .slnil _
 ·rename_i cs eL
  obtain⟨vs,rfl,hs,hc⟩:=hr;rcases ha with rfl | ha
  ·exact⟨vs,rfl,hs,hc⟩
  ·obtain⟨hl,hg⟩:=wA ha
   refine⟨vs,rfl,by rw[hs,hl],fun i y hy=>?_⟩;grind[Iz]
 ·exact XO H hr ha
 ·obtain⟨rfl,rfl⟩:=ha
  obtain⟨b,off,f,h1,h2,_,h4,h5⟩:=hr;exact⟨b,off,f,h1,h2,nM b,h4,h5⟩
 ·obtain⟨rfl,ha⟩:=ha
  obtain⟨vs,h1,h2,h3⟩:=hr;obtain⟨e1,e2⟩:=KS H ha;refine⟨vs,h1,by rw[h2,e1],fun i y hy=>?_⟩;grind
 ·obtain⟨rfl,hp⟩:=ha
  have:cD ⟨w,A,h,β⟩ y u:=by cases y<;>first | exact hr | (simp[V.pure]at hp)
  exact(qX (E:=⟨w,A,h,β⟩) (E':=⟨w,A,fB,iE⟩) hp rfl (fun _ _ h=>h) this).rel
theorem K6{w:World}{A:Nat→Prop}{h:Nat→Option Ob}{β:Nat→Option Nat}(H:bU ⟨w,A,h,β⟩):∀{xs ys:List V} {vs:Array Value} (k:Nat),kG h xs ys→(∀(i:Nat) (x:V),xs[i]? = some x→∃u,vs[k+i]? = some u∧Rel ⟨w,A,h,β⟩ x u)→
  xs.length=ys.length∧∀(i:Nat) (y:V),ys[i]? = some y→∃u,vs[k+i]? = some u∧Rel ⟨w,A,fB,iE⟩ y u
 | [],[],_,_,_,_=>⟨rfl,fun i y h=>by simp at h⟩
 | x::xs,y::ys,vs,k,ha,hr=>by
  obtain⟨h1,h2⟩:=ha;obtain⟨e1,e2⟩:=K6 H (vs:=vs) (k+1) h2 (fun i z hz=>by
   have:=hr (i+1) z (by grind)
   grind)
  refine⟨by simp[e1],fun i z hz=>?_⟩;cases i with
  | zero=>
   simp at hz;subst hz;obtain⟨u,u1,u2⟩:=hr 0 x rfl;grind[GG]
  | succ i=>
   grind
 | [],_::_,_,_,ha,_=>ha.elim
 | _::_,[],_,_,ha,_=>ha.elim
section
variable {P:Program} {n:Nat} {w0:World} {I:rM} {A0:Nat→Prop}
theorem kA{ops:Array Oper}{o:Oper}{s:St}{a:Act}{w:World}{β:Nat→Option Nat}{A:Nat→Prop}(R:RB w0 I A0 n s a w β A):
  (Ge ops o s=none→Region.wanted o (yielded ops a.tmps)=true)∧
  (∀b want,Ge ops o s=some (.bool b,want)→Region.wanted o (yielded ops a.tmps)=(b == want))∧
  (∀xs want,Ge ops o s=some (.kI xs,want)→Region.wanted o (yielded ops a.tmps)=false):=by
 unfold Ge Region.wanted;cases hg:o.guard with
 | none=>simp
 | some jw=>
  obtain⟨j,aod⟩:=jw;simp only;cases hd:(ops[j]?).bind (·.dst)with
  | none=>simp
  | some d=>
   have hs:Rel ⟨w,A,s.h,β⟩ (if d<100000 then s.t d else .dead) (a.tmps.getD d undef):=kB R.au (.tmp d);refine⟨by simp,fun b want h=>?_,fun xs want h=>?_⟩
   ·simp only[azN,azY]at h
    obtain⟨h1,rfl⟩:=h;rw[h1]at hs;have hv:=ug hs;have:yielded ops a.tmps j=some b:=by
     unfold yielded;rw[hd];simp only[aAC];rw[aAw]at hv;cases ht:a.tmps[d]? with
     | none=>rw[ht]at hv;cases hv
     | some u=>grind
    grind
   ·simp only[azN,azY]at h
    obtain⟨h1,rfl⟩:=h;rw[h1]at hs;obtain⟨vs,hv,_⟩:=PC hs;have:yielded ops a.tmps j=none:=by
     unfold yielded;rw[hd];simp only[aAC];rw[aAw]at hv;grind
    grind
theorem qW{E:Env}:Rel E (.kI []) undef:=⟨#[],rfl,rfl,fun i x h=>by simp at h⟩
theorem uZ{n:Nat}{d:Option Nat}(h:dOK n d):∀k,d=some k→k<n:=by
 intro k hk;subst hk;exact h
theorem tj{s:St}{a:Act}{w:World}{β:Nat→Option Nat}{A:Nat→Prop}{sv:Nat→Value}(alN:∀i,Rel ⟨w,A,s.h,β⟩ (s.t i) (nk sv a i))(o:Oper){g:FuncId}{args:List V}(h:gH P o s.ev s.h=.call g args):
  ∃vs:Array Value,(execOp a.eval o).run P w=.ok (.enter g vs) w∧vs.size=args.length∧∀(i:Nat) (x:V),args[i]? = some x→∃u,vs[i]? = some u∧Rel ⟨w,A,s.h,β⟩ x u:=by
 have bm:=kB alN;obtain⟨dst,op,ty,pos,after,guard⟩:=o;unfold gH at h;simp only at h
 split at h<;>try trivial
 ·grind
 ·grind[jd]
 ·grind[iL]
 ·grind[cW]
 ·split at h<;>try trivial
  unfold iy at h
  split at h<;>try trivial
  all_goals grind[fF]
 ·split at h<;>try trivial
  unfold fh at h
  grind
 ·grind
 ·grind
 ·grind
 ·grind
 ·grind[ez]
 ·unfold dd at h
  grind
 ·unfold kH at h
  grind
 ·split at h
  ·unfold dG at h
   grind
  ·unfold dZ at h
   grind
  ·unfold dy at h
   grind
 ·grind
 ·grind
 ·grind
 ·rename_i c
  obtain⟨callee,dk,argTypes⟩:=c;unfold fi at h;simp only at h
  split at h<;>try trivial
  ·rename_i F
   split at h<;>try trivial
   rename_i g' aw hF
   split at h<;>try trivial
   rename_i Zz;simp only[AR.call.injEq]at h;obtain⟨rfl,rfl⟩:=h;have hx:=bm F;rw[hF]at hx;obtain⟨cvs,hv,dO,hc⟩:=hx;unfold B8 at Zz
   split at Zz<;>try (cases Zz;done)
   rename_i fn hfn;simp only[azF,aAi]at Zz;refine⟨dk.map a.eval++cvs,?_,by simp[dO],fun i x hx=>?_⟩
   ·have hb:fn.body.isNone=false:=by simp_all
    simp only[execOp,resolve,hv,Deferred.ofValue,Sem.run_bind,Sem.run_pure,Result.andThen_ok,invoke,callFunc];have hn:¬ fn.name = "runtime.NumGoroutine":=by grind
    have nC:¬ fn.body=none:=by grind
    simp_all
   ·by_cases hi:i<dk.size
    ·rw[aAg (by grind),aAv]at hx
     have hg:dk.toList[i]? = some dk[i]:=by simp[hi]
     grind
    ·rw[aAa (by simp;omega)]at hx
     simp only[aA7,aAU]at hx;obtain⟨u,h1,h2⟩:=hc _ x hx;refine⟨u,?_,Rel.FN h2⟩;grind
  ·grind
  ·split at h<;>try trivial
   grind[dM]
  all_goals grind
 ·unfold nu at h
  grind
end
end Go.AL
