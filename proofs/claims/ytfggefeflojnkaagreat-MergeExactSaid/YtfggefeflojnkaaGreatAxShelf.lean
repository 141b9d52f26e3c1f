/- AI. -/
import Derived.Test.YtfggefeflojnkaaGreatAxAuto
import Derived.Shelf.GgSortFunc.InsertionK
set_option linter.unusedVariables false
namespace Go.AL
theorem XP{w:World}{A:Nat→Prop}{β0:Nat→Option Nat}{ob:Ob}(H:bU ⟨w,A,cV [ob],β0⟩)(himp:ob.imp=false){bq:List (List V)}{w':World}(hr:bq.length=ob.rows.length)(bI:∀row∈bq,row.length=ob.es)
  {b:Nat} {cur cur':Array Value} (hb:β0 500=some b) (hc:w.heap[b]? = some (.cells cur ob.ty (0,0))) (xO:w'.heap[b]? = some (.cells cur' ob.ty (0,0))) (dO:cur'.size=cur.size)
  (Gc:∀(i:Nat) (row:List V),bq[i]? = some row→∀(j:Nat) (x:V),row[j]? = some x→∃v,cur'[i*ob.es+j]? = some v∧v.oneCell'=true∧aY w A x v) (bm:Ev w w' (fun k=>k=b)) :
  CG w A [ob] β0 [] [some bq] w' [] β0 A:=by
 have T0:cV [ob] 500=some ob:=by simp[cV]
 have aO:=H.ok 500 ob T0;simp only[hb]at aO;obtain⟨hA,cb,c1,c2,c3,c4⟩:=aO;simp only at c1;have hp:∀p o,eH [ob] [] [some bq] p=some o→p=500∧o={ob with rows:=bq }:=fun p o h=>by
  unfold eH at h
  split at h
  ·unfold ik at h
   by_cases hp:p-500=0
   ·rw[hp]at h
    grind
   grind
  ·simp[gC]at h
 have hag:cz A w w':=fun k hk hA'=>bm.block k hk (fun e=>hA' (by rw[e];exact hA))
 refine⟨rfl,by simp,⟨fun p o h=>?_,fun p q o1 o2 b' h1 h2 _ _=>?_,fun k hk=>az3 (H.lt k hk) bm.size⟩,fun k rd h=>by simp at h,fun _ _ h=>h,?_,fun k o b' h=>by simp[gC]at h,fun i o o' h1 h2=>?_⟩
 ·obtain⟨rfl,rfl⟩:=hp p o h
  simp only[hb];refine⟨hA,cur',xO,bI,?_,fun i row hi j x hx=>?_⟩
  ·grind
  ·obtain⟨v,d1,d2,d3⟩:=Gc i row hi j x hx
   have d4:aY w' A x v:=d3.frame hag bm.size (fun _ _ h=>h);grind[bw.aN]
 all_goals grind[ik]
theorem To{w:World}{A:Nat→Prop}{β0:Nat→Option Nat}{ob:Ob}(H:bU ⟨w,A,cV [ob],β0⟩)(hb:β0 500=none){w':World}(bm:Ev w w' zl.P):
  CG w A [ob] β0 [] [some []] w' [] β0 A:=by
 have T0:cV [ob] 500=some ob:=by simp[cV]
 have aO:=H.ok 500 ob T0;simp only[hb]at aO;have h0:ob.rows=[]:=aO;have hp:∀p o,eH [ob] [] [some []] p=some o→p=500∧o={ob with rows:=[] }:=fun p o h=>by
  grind[eH,ik,gC]
 refine⟨rfl,by simp,⟨fun p o h=>?_,fun p q o1 o2 b' h1 h2 _ _=>?_,fun k hk=>az3 (H.lt k hk) bm.size⟩,fun k rd h=>by simp at h,fun _ _ h=>h,?_,fun k o b' h=>by simp[gC]at h,fun i o o' h1 h2=>?_⟩
 ·obtain⟨rfl,rfl⟩:=hp p o h
  simp only[hb];exact rfl
 ·grind
 ·exact⟨bm.os,bm.tape,bm.output,bm.size,fun k hk hn=>bm.block k hk (fun e=>e)⟩
 grind[ik]
open Go.Sort Go.Proofs
structure ajB {α:Type} (k:Nat) (R:α→List V→Prop) (enc:α→List Value) (Ub:α→List V):Prop where
 len:∀x,(enc x).length=k
 one:∀x,∀v∈enc x,v.oneCell'=true
 to:∀x row,R x row→row.length=k∧∀(w:World) (A:Nat→Prop) (j:Nat) (y:V) (u:Value),row[j]? = some y→aY w A y u→(enc x)[j]? = some u
 apr:∀x,(Ub x).length=k
 back:∀x,R x (Ub x)
 rel:∀(x:α) (w:World) (A:Nat→Prop) (j:Nat) (y:V),(Ub x)[j]? = some y→∃u,(enc x)[j]? = some u∧aY w A y u
theorem agT{α:Type}[Inhabited α]{enc:α→List Value}{k:Nat}{w:World}{b n:Nat}{d:Array α}{os:Array Obj}(hb:b<w.heap.size):Ev w (sortWorldK enc k w b 0 n d os) (fun q=>q=b):=by
 refine⟨rfl,rfl,rfl,by simp[sortWorldK,grow,putRowK,putRow,mapBlock],fun q hq hn=>?_⟩;unfold sortWorldK;rw[heap_grow_old _ _ (by simpa [putRowK,putRow,mapBlock]using hq)];simp only[putRowK,putRow,mapBlock,heap_ahead,aCj];grind
theorem Mn{α:Type}[Inhabited α]{enc:α→List Value}{k:Nat}{w:World}{b n:Nat}{d:Array α}{os:Array Obj}{cur:Array Value}{ty:TypeId}(hc:w.heap[b]? = some (.cells cur ty (0,0))):
  (sortWorldK enc k w b 0 n d os).heap[b]? = some (.cells (putCells id 0 (flatK enc k d) cur) ty (0,0)):=by
 have hb:b<w.heap.size:=(aAP.1 hc).1;unfold sortWorldK;rw[heap_grow_old _ _ (by simpa [putRowK,putRow,mapBlock]using hb)];simp only[putRowK,putRow,mapBlock,heap_ahead,aCj,aAo,hc,az7,onCells]
theorem Qu{k i j:Nat}(hj:j<k):(i*k+j) / k=i∧(i*k+j) % k=j:=by
 have h1:(i*k+j) / k=i:=(blk_iff k i _ (by omega)).1 ⟨by omega,by omega⟩;exact⟨h1,by rw[Nat.mod_eq_sub_div_mul,h1];omega⟩
theorem agQ{k i j n:Nat}(hi:i<n)(hj:j<k):i*k+j<n*k:=by
 have:=aAh k (show i+1≤n from hi);grind
theorem W3{P:Program}{f g ty k:Nat}{α:Type}[Inhabited α]{R:α→List V→Prop}{enc:α→List Value}{Ub:α→List V}(E:ajB k R enc Ub)(SN:List α→List α)(hlen:∀l,(SN l).length=l.length)
  (apI:∀b cap (d:Array α) w,HoldsK enc k w b 0 d→b<w.heap.size→d.size<4611686018427387904→
   Calls P f #[.slice (some ⟨b,0,none⟩) d.size cap,.func (.func g) #[] #[]] w fun e w'=>e=.returned (.tuple #[])∧∃n os,w'=sortWorldK enc k w b 0 n (SN d.toList).toArray os)
  (ap0:∀p cap w,Calls P f #[.slice p 0 cap,.func (.func g) #[] #[]] w fun e w'=>e=.returned (.tuple #[])∧w'=w)
  {l:List α} {rows:List (List V)} (bF:aJ R l rows) (alM:l.length<4611686018427387904) :
  FnL P f [.ref 500 rows.length,.fn g []] [⟨ty,k,false,rows⟩] (fun rds outs=>rds=[]∧∃bq,outs=[some bq]∧aJ R (SN l) bq∧bq.length=rows.length):=by
 refine⟨fun rds outs h rd Ze=>(by grind),fun w A β0 vs H dO hrel=>?_⟩;have Nn:=bF.len;obtain⟨v0,e0,r0⟩:=hrel 0 _ rfl;obtain⟨v1,e1,r1⟩:=hrel 1 _ rfl;have tL:vs=#[v0,v1]:=by
  grind
 subst tL;obtain⟨us,rfl,gV,_⟩:=r1;have gV:us=#[]:=by simpa using gV
 subst gV;have T0:cV [⟨ty,k,false,rows⟩] 500=some ⟨ty,k,false,rows⟩:=by simp[cV]
 have aO:=H.ok 500 _ T0;obtain⟨_,hr⟩:=r0 _ T0;have hr:=hr rfl;simp only at aO hr;have done:∀w',w'=w→rows=[]→β0 500=none→∃rds outs us β' A',(rds=[]∧∃bq,outs=[some bq]∧aJ R (SN l) bq∧bq.length=rows.length)∧Ending.returned (.tuple #[])=.returned (jE us)∧CG w A [⟨ty,k,false,rows⟩] β0 rds outs w' us β' A':=by
  rintro w' rfl rfl hb;have hl:l=[]:=aAf Nn;have hs:SN l=[]:=aAf (by rw[hlen,hl];rfl);exact⟨[],[some []],[],β0,A,⟨rfl,[],rfl,by rw[hs];trivial,rfl⟩,rfl,To H hb ⟨rfl,rfl,rfl,azJ _,fun _ _ _=>rfl⟩⟩
 cases hb:β0 500 with
 | none=>
  rw[hb]at aO hr;have h0:rows=[]:=aO;rw[hr];refine(ap0 none 0 w).mono ?_;grind
 | some b=>
  rw[hb]at aO hr;obtain⟨cap,cb,rfl,jM,axF,hh,uR⟩:=hr;obtain⟨hA,cur,hh',bI,agz,Gc⟩:=aO;simp only at hh hh' bI agz Gc uR;have fw:cb=cur:=by grind
  subst fw;have nC:b<w.heap.size:=H.lt b hA;have BO:∀(i:Nat) (x:α),l[i]? = some x→∀j,j<k→cb[i*k+j]? = (enc x)[j]?:=by
   intro i x hi j hj;obtain⟨row,aK,hR⟩:=bF.get i x hi;obtain⟨h1,h2⟩:=E.to x row hR;have hj':j<row.length:=by rw[h1];exact hj
   obtain⟨v,c1,c2,_,c4⟩:=Gc i row aK j _ (azS hj');grind
  have Dx:∀(d:List α) t,t<d.length*k→∃x,d[t / k]? = some x∧(flatK enc k d.toArray)[t]! = (enc x)[t % k]!∧t % k<k∧t=t / k*k+t % k:=by
   intro d t ht;have k0:0<k:=Nat.pos_of_ne_zero fun h=>by subst h;simp at ht
   have h1:t / k<d.length:=(Nat.div_lt_iff_lt_mul k0).2 ht;refine⟨d[t / k],azS h1,?_,Nat.mod_lt _ k0,by have:=Nat.div_add_mod t k;rw[aBo]at this;exact this.symm⟩;rw[get_flatK _ _ _ _ (by simpa using ht)]
   grind
  have hH:HoldsK enc k w b 0 l.toArray:=by
   intro t ht;rw[size_flatK]at ht;have ht':t<l.length*k:=by simpa using ht
   obtain⟨x,hx,e1,hm,e2⟩:=Dx l t ht';have hc:=BO _ x hx _ hm;rw[← e2]at hc;have bO:t % k<(enc x).length:=by rw[E.len];exact hm
   refine⟨?_,by simp[World.frozen?,hh]⟩;rw[e1];simp only[World.cell?,hh,az8];grind
  have hs:=apI b cap l.toArray w hH nC (by simpa using alM);rw[show l.toArray.size=rows.length by simpa using Nn]at hs;refine hs.mono ?_;rintro e w' ⟨rfl,n,os,hw⟩;have Nh:(SN l).length=rows.length:=by rw[hlen,Nn]
  refine⟨[],[some ((SN l).map Ub)],[],β0,A,⟨rfl,_,rfl,?_,by simpa using Nh⟩,rfl,?_⟩
  ·clear hs hw Nh
   generalize SN l=m;induction m with
   | nil=>trivial
   | cons x m ih=>exact⟨E.back x,ih⟩
  ·refine XP H rfl (by simpa using Nh) (fun row aK=>?_) hb hh (cur':=putCells id 0 (flatK enc k (SN l).toArray) cb) ?_ (by simp[putCells]) (fun i row hi j x hx=>?_) (hw▸agT nC)
   ·obtain⟨x,_,rfl⟩:=az4.1 aK
    exact E.apr x
   ·grind[Mn]
   ·rw[aAv]at hi
    cases j5:(SN l)[i]? with
    | none=>grind
    | some y=>
     rw[j5]at hi;cases hi;obtain⟨u,hu,s5⟩:=E.rel y w A j x hx;have hj:j<k:=by rw[← E.apr y];exact(azR.1 hx).1
     have nB:i<(SN l).length:=(azR.1 j5).1;have bO:=agQ (k:=k) nB hj;have atI:i*k+j<cb.size:=by grind
     refine⟨u,?_,?_,s5⟩
     ·rw[aAL (by simpa [putCells]using atI)]
      simp only[putCells,Array.getElem_mapIdx,aAu,true_and,az8,Nat.sub_zero,id_eq];rw[azE (by simp_all)];obtain⟨z,hz,e1,_,_⟩:=Dx (SN l) _ bO;rw[(Qu hj).1,j5]at hz;cases hz;rw[e1,(Qu hj).2];grind
     ·exact E.one y u (azO hu)
