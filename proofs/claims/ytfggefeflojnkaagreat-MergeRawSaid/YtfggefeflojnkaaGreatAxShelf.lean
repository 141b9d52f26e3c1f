/- By an AI agent. -/
import Derived.Test.YtfggefeflojnkaaGreatAxKit
import Derived.Shelf.GgSortFunc.InsertionK
set_option linter.unusedVariables false
namespace Go.AL
theorem ZM{w:World}{A:Nat→Prop}{β0:Nat→Option Nat}{ob:Ob}(H:cz ⟨w,A,cW [ob],β0⟩)(himp:ob.imp=false){bE:List (List V)}{w':World}(hr:bE.length=ob.rows.length)(bQ:∀row∈bE,row.length=ob.es)
  {b:Nat} {cur cur':Array Value} (hb:β0 500=some b) (hc:w.heap[b]? = some (.cells cur ob.ty (0,0))) (xP:w'.heap[b]? = some (.cells cur' ob.ty (0,0))) (dC:cur'.size=cur.size)
  (FI:∀(i:Nat) (row:List V),bE[i]? = some row→∀(j:Nat) (x:V),row[j]? = some x→∃v,cur'[i*ob.es+j]? = some v∧v.oneCell'=true∧bh w A x v) (bL:Ev w w' (fun k=>k=b)) :
  BQ w A [ob] β0 [] [some bE] w' [] β0 A:=by
 have UQ:cW [ob] 500=some ob:=by simp[cW]
 have aX:=H.ok 500 ob UQ;simp only[hb]at aX;obtain⟨hA,ct,c1,c2,c3,c4⟩:=aX;simp only at c1;have hp:∀p o,dV [ob] [] [some bE] p=some o→p=500∧o={ob with rows:=bE }:=fun p o h=>by
  unfold dV at h
  split at h
  ·unfold gX at h
   by_cases hp:p-500=0
   ·rw[hp]at h
    simp at h;exact⟨by omega,h.symm⟩
   ·obtain⟨m,hm⟩:∃m,p-500=m+1:=⟨p-500-1,by omega⟩
    rw[hm]at h;simp at h
  ·simp[fC]at h
 have hag:cZ A w w':=fun k hk hA'=>bL.block k hk (fun e=>hA' (by rw[e];exact hA))
 refine⟨rfl,by simp,⟨fun p o h=>?_,fun p q o1 o2 b' h1 h2 _ _=>?_,fun k hk=>aCP (H.lt k hk) bL.size⟩,fun k rd h=>by simp at h,fun _ _ h=>h,?_,fun k o b' h=>by simp[fC]at h,fun i o o' h1 h2=>?_⟩
 ·obtain⟨rfl,rfl⟩:=hp p o h
  simp only[hb];refine⟨hA,cur',xP,bQ,?_,fun i row hi j x hx=>?_⟩
  ·have:ct=cur:=by rw[hc]at c1;cases c1;rfl
   subst this;rw[dC,hr];exact c3
  ·obtain⟨v,d1,d2,d3⟩:=FI i row hi j x hx
   have d4:bh w' A x v:=d3.frame hag bL.size (fun _ _ h=>h);exact⟨v,d1,d2,bB.aU d4,fun _=>d4⟩
 ·rw[(hp p o1 h1).1,(hp q o2 h2).1]
 ·exact⟨bL.os,bL.tape,bL.output,bL.size,fun k hk hn=>bL.block k hk (fun e=>hn ⟨0,ob,rfl,by rw[e];exact hb⟩)⟩
 ·cases i with
  | zero=>
   simp at h1;subst h1;have:o'={ob with rows:=bE }:=by
    unfold gX at h2;simp at h2;exact h2.symm
   subst this;refine⟨hr,rfl,fun b' axc e1 e2=>?_⟩;rw[show 500+0=500 from rfl,hb]at e1;cases e1;rw[hc]at e2;cases e2;exact⟨cur',xP,dC⟩
  | succ i=>simp at h1
theorem Uh{w:World}{A:Nat→Prop}{β0:Nat→Option Nat}{ob:Ob}(H:cz ⟨w,A,cW [ob],β0⟩)(hb:β0 500=none){w':World}(bL:Ev w w' H8.P):
  BQ w A [ob] β0 [] [some []] w' [] β0 A:=by
 have UQ:cW [ob] 500=some ob:=by simp[cW]
 have aX:=H.ok 500 ob UQ;simp only[hb]at aX;have h0:ob.rows=[]:=aX;have hp:∀p o,dV [ob] [] [some []] p=some o→p=500∧o={ob with rows:=[] }:=fun p o h=>by
  unfold dV at h
  split at h
  ·unfold gX at h
   by_cases hp:p-500=0
   ·rw[hp]at h
    simp at h;exact⟨by omega,h.symm⟩
   ·obtain⟨m,hm⟩:∃m,p-500=m+1:=⟨p-500-1,by omega⟩
    rw[hm]at h;simp at h
  ·simp[fC]at h
 refine⟨rfl,by simp,⟨fun p o h=>?_,fun p q o1 o2 b' h1 h2 _ _=>?_,fun k hk=>aCP (H.lt k hk) bL.size⟩,fun k rd h=>by simp at h,fun _ _ h=>h,?_,fun k o b' h=>by simp[fC]at h,fun i o o' h1 h2=>?_⟩
 ·obtain⟨rfl,rfl⟩:=hp p o h
  simp only[hb];exact rfl
 ·rw[(hp p o1 h1).1,(hp q o2 h2).1]
 ·exact⟨bL.os,bL.tape,bL.output,bL.size,fun k hk hn=>bL.block k hk (fun e=>e)⟩
 ·cases i with
  | zero=>
   simp at h1;subst h1;have:o'={ob with rows:=[] }:=by
    unfold gX at h2;simp at h2;exact h2.symm
   subst this;refine⟨by rw[h0],rfl,fun b' axc e1 e2=>?_⟩;rw[show 500+0=500 from rfl,hb]at e1;cases e1
  | succ i=>simp at h1
open Go.Sort Go.Proofs
structure al9 {α:Type} (k:Nat) (R:α→List V→Prop) (enc:α→List Value) (U2:α→List V):Prop where
 len:∀x,(enc x).length=k
 one:∀x,∀v∈enc x,v.oneCell'=true
 to:∀x row,R x row→row.length=k∧∀(w:World) (A:Nat→Prop) (j:Nat) (y:V) (u:Value),row[j]? = some y→bh w A y u→(enc x)[j]? = some u
 asl:∀x,(U2 x).length=k
 back:∀x,R x (U2 x)
 rel:∀(x:α) (w:World) (A:Nat→Prop) (j:Nat) (y:V),(U2 x)[j]? = some y→∃u,(enc x)[j]? = some u∧bh w A y u
theorem aiJ{α:Type}[Inhabited α]{enc:α→List Value}{k:Nat}{w:World}{b n:Nat}{d:Array α}{os:Array Obj}(hb:b<w.heap.size):Ev w (sortWorldK enc k w b 0 n d os) (fun q=>q=b):=by
 refine⟨rfl,rfl,rfl,by simp[sortWorldK,grow,putRowK,putRow,mapBlock],fun q hq hn=>?_⟩;unfold sortWorldK;rw[heap_grow_old _ _ (by simpa [putRowK,putRow,mapBlock]using hq)];simp only[putRowK,putRow,mapBlock,heap_ahead,aE4];rw[aCo (fun e=>hn e.symm)]
theorem MQ{α:Type}[Inhabited α]{enc:α→List Value}{k:Nat}{w:World}{b n:Nat}{d:Array α}{os:Array Obj}{cur:Array Value}{ty:TypeId}(hc:w.heap[b]? = some (.cells cur ty (0,0))):
  (sortWorldK enc k w b 0 n d os).heap[b]? = some (.cells (putCells id 0 (flatK enc k d) cur) ty (0,0)):=by
 have hb:b<w.heap.size:=(aDJ.1 hc).1;unfold sortWorldK;rw[heap_grow_old _ _ (by simpa [putRowK,putRow,mapBlock]using hb)];simp only[putRowK,putRow,mapBlock,heap_ahead,aE4,aC5,hc,aCU,onCells]
theorem Rv{k i j:Nat}(hj:j<k):(i*k+j) / k=i∧(i*k+j) % k=j:=by
 have h1:(i*k+j) / k=i:=(blk_iff k i _ (by omega)).1 ⟨by omega,by omega⟩;exact⟨h1,by rw[Nat.mod_eq_sub_div_mul,h1];omega⟩
theorem aiE{k i j n:Nat}(hi:i<n)(hj:j<k):i*k+j<n*k:=by
 have:=aDa k (show i+1≤n from hi);rw[aCZ,aD3]at this;omega
theorem Yl{P:Program}{f g ty k:Nat}{α:Type}[Inhabited α]{R:α→List V→Prop}{enc:α→List Value}{U2:α→List V}(E:al9 k R enc U2)(Tw:List α→List α)(hlen:∀l,(Tw l).length=l.length)
  (asA:∀b cap (d:Array α) w,HoldsK enc k w b 0 d→b<w.heap.size→d.size<4611686018427387904→
   Calls P f #[.slice (some ⟨b,0,none⟩) d.size cap,.func (.func g) #[] #[]] w fun e w'=>e=.returned (.tuple #[])∧∃n os,w'=sortWorldK enc k w b 0 n (Tw d.toList).toArray os)
  (asT:∀p cap w,Calls P f #[.slice p 0 cap,.func (.func g) #[] #[]] w fun e w'=>e=.returned (.tuple #[])∧w'=w)
  {l:List α} {rows:List (List V)} (bS:aP R l rows) (aov:l.length<4611686018427387904) :
  FnL P f [.ref 500 rows.length,.fn g []] [⟨ty,k,false,rows⟩] (fun rds outs=>rds=[]∧∃bE,outs=[some bE]∧aP R (Tw l) bE∧bE.length=rows.length):=by
 refine⟨fun rds outs h rd hrd=>(by rw[h.1]at hrd;cases hrd),fun w A β0 vs H dC hrel=>?_⟩;have Ky:=bS.len;obtain⟨v0,e0,r0⟩:=hrel 0 _ rfl;obtain⟨v1,e1,r1⟩:=hrel 1 _ rfl;have xg:vs=#[v0,v1]:=by
  apply Array.ext
  ·simpa using dC
  ·intro i h1 h2
   simp at h2
   match i,h2 with
   | 0,_=>rw[aDL h1]at e0;simpa using e0
   | 1,_=>rw[aDL h1]at e1;simpa using e1
 subst xg;obtain⟨us,rfl,ja,_⟩:=r1;have ja:us=#[]:=by simpa using ja
 subst ja;have UQ:cW [⟨ty,k,false,rows⟩] 500=some ⟨ty,k,false,rows⟩:=by simp[cW]
 have aX:=H.ok 500 _ UQ;obtain⟨_,hr⟩:=r0 _ UQ;have hr:=hr rfl;simp only at aX hr;have done:∀w',w'=w→rows=[]→β0 500=none→∃rds outs us β' A',(rds=[]∧∃bE,outs=[some bE]∧aP R (Tw l) bE∧bE.length=rows.length)∧Ending.returned (.tuple #[])=.returned (jq us)∧BQ w A [⟨ty,k,false,rows⟩] β0 rds outs w' us β' A':=by
  rintro w' rfl rfl hb;have hl:l=[]:=aCX Ky;have hs:Tw l=[]:=aCX (by rw[hlen,hl];rfl);exact⟨[],[some []],[],β0,A,⟨rfl,[],rfl,by rw[hs];trivial,rfl⟩,rfl,Uh H hb ⟨rfl,rfl,rfl,aCt _,fun _ _ _=>rfl⟩⟩
 cases hb:β0 500 with
 | none=>
  rw[hb]at aX hr;have h0:rows=[]:=aX;rw[hr];refine(asT none 0 w).mono ?_;rintro e w' ⟨rfl,hw⟩;exact done w' hw h0 hb
 | some b=>
  rw[hb]at aX hr;obtain⟨cap,ct,rfl,jy,aAg,hh,xj⟩:=hr;obtain⟨hA,cur,hh',bQ,aip,FI⟩:=aX;simp only at hh hh' bQ aip FI xj;have fw:ct=cur:=by rw[hh']at hh;simp at hh;exact hh.symm
  subst fw;have Bk:b<w.heap.size:=H.lt b hA;have Ro:∀(i:Nat) (x:α),l[i]? = some x→∀j,j<k→ct[i*k+j]? = (enc x)[j]?:=by
   intro i x hi j hj;obtain⟨row,aO,hR⟩:=bS.get i x hi;obtain⟨h1,h2⟩:=E.to x row hR;have hj':j<row.length:=by rw[h1];exact hj
   obtain⟨v,c1,c2,_,c4⟩:=FI i row aO j _ (aCF hj');rw[c1];exact(h2 w A j _ v (aCF hj') (c4 trivial)).symm
  have C5:∀(d:List α) t,t<d.length*k→∃x,d[t / k]? = some x∧(flatK enc k d.toArray)[t]! = (enc x)[t % k]!∧t % k<k∧t=t / k*k+t % k:=by
   intro d t ht;have k0:0<k:=Nat.pos_of_ne_zero fun h=>by subst h;simp at ht
   have h1:t / k<d.length:=(Nat.div_lt_iff_lt_mul k0).2 ht;refine⟨d[t / k],aCF h1,?_,Nat.mod_lt _ k0,by have:=Nat.div_add_mod t k;rw[aEh]at this;exact this.symm⟩;rw[get_flatK _ _ _ _ (by simpa using ht)]
   congr 2
   rw[getElem!_pos d.toArray (t / k) (by simpa using h1)];simp
  have hH:HoldsK enc k w b 0 l.toArray:=by
   intro t ht;rw[size_flatK]at ht;have ht':t<l.length*k:=by simpa using ht
   obtain⟨x,hx,e1,hm,e2⟩:=C5 l t ht';have hc:=Ro _ x hx _ hm;rw[← e2]at hc;have cg:t % k<(enc x).length:=by rw[E.len];exact hm
   refine⟨?_,by simp[World.frozen?,hh]⟩;rw[e1];simp only[World.cell?,hh,aC0];rw[hc,aCF cg,getElem!_pos (enc x) _ cg];rfl
  have hs:=asA b cap l.toArray w hH Bk (by simpa using aov);rw[show l.toArray.size=rows.length by simpa using Ky]at hs;refine hs.mono ?_;rintro e w' ⟨rfl,n,os,hw⟩;have Xe:(Tw l).length=rows.length:=by rw[hlen,Ky]
  refine⟨[],[some ((Tw l).map U2)],[],β0,A,⟨rfl,_,rfl,?_,by simpa using Xe⟩,rfl,?_⟩
  ·clear hs hw Xe
   generalize Tw l=m;induction m with
   | nil=>trivial
   | cons x m ih=>exact⟨E.back x,ih⟩
  ·refine ZM H rfl (by simpa using Xe) (fun row aO=>?_) hb hh (cur':=putCells id 0 (flatK enc k (Tw l).toArray) ct) ?_ (by simp[putCells]) (fun i row hi j x hx=>?_) (hw▸aiJ Bk)
   ·obtain⟨x,_,rfl⟩:=aCN.1 aO
    exact E.asl x
   ·rw[hw];simpa using MQ (enc:=enc) (k:=k) (n:=n) (d:=(Tw l).toArray) (os:=os) hh
   ·rw[aDm]at hi
    cases kh:(Tw l)[i]? with
    | none=>rw[kh]at hi;cases hi
    | some y=>
     rw[kh]at hi;cases hi;obtain⟨u,hu,sH⟩:=E.rel y w A j x hx;have hj:j<k:=by rw[← E.asl y];exact(aCD.1 hx).1
     have oh:i<(Tw l).length:=(aCD.1 kh).1;have cg:=aiE (k:=k) oh hj;have awn:i*k+j<ct.size:=by rw[Xe]at cg;exact aCP cg aip
     refine⟨u,?_,?_,sH⟩
     ·rw[aDL (by simpa [putCells]using awn)]
      simp only[putCells,Array.getElem_mapIdx,aDj,true_and,aC0,Nat.sub_zero,id_eq];rw[aCr (by rw[size_flatK];simpa using cg)];obtain⟨z,hz,e1,_,_⟩:=C5 (Tw l) _ cg;rw[(Rv hj).1,kh]at hz;cases hz;rw[e1,(Rv hj).2];have hju:j<(enc y).length:=by rw[E.len];exact hj
      rw[getElem!_pos (enc y) j hju];rw[aCF hju]at hu;exact hu
     ·exact E.one y u (aCC hu)
