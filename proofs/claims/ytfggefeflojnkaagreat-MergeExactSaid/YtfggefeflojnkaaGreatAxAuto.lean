/- AI. -/
import Derived.Test.YtfggefeflojnkaaGreatAxRun
import Derived.ProofKit
import Derived.ChangeSame
import Derived.WideKeyArgs
import Derived.KernelRfl
import Derived.IntWalk
set_option linter.unusedSimpArgs false
set_option linter.unusedVariables false
open Go.IntKind (i64 u64)
namespace Go.AL
open Go.RowKit Go.ChangeShapes
def VR{A:Type}(p:A→Prop):List A→Prop
 | []=>True
 | a::l=>p a∧VR p l
def InK(k:IntKind)(n:Int):Prop:=k.min≤n∧n≤k.max
mutual
def GL:(t:Ty)→t.T→Prop
 | .int k,n=>InK k n
 | .bool,_=>True
 | .str,s=>ByteArray.size s≤maxLen
 | .sl cs,l=>List.length (α:=aA cs) l≤maxLen∧VR (mZ cs) l
def mZ:(τ:List Ty)→aA τ→Prop
 | [],_=>True
 | t::ts,x=>qh (GL t) ts x
def qh{A:Type}(R:A→Prop):(τ:List Ty)→cI A τ→Prop
 | [],x=>R x
 | t::ts,x=>R (Prod.fst x)∧qh (GL t) ts (Prod.snd x)
end
theorem jk{t:Ty}{ts:List Ty}{x:aA (t::ts)}{row:List V}:bW (t::ts) x row↔dz (eM t) ts x row:=by grind[bW]
theorem ou{x:aA []}{row:List V}:bW [] x row↔row=[]:=by grind[bW]
theorem qV{A:Type}{R:A→V→Prop}{x:cI A []}{row:List V}:dz R [] x row↔∃v,row=[v]∧R x v:=by grind[dz]
theorem jA{A:Type}{R:A→V→Prop}{t:Ty}{ts:List Ty}{x:cI A (t::ts)}{row:List V}:
  dz R (t::ts) x row↔∃v r,row=v::r∧R (Prod.fst (α:=A) (β:=cI t.T ts) x) v∧dz (eM t) ts (Prod.snd (α:=A) (β:=cI t.T ts) x) r:=by grind[dz]
theorem qU{t:Ty}{ts:List Ty}{x:aA (t::ts)}:mZ (t::ts) x↔qh (GL t) ts x:=by grind[mZ]
theorem Xo{x:aA []}:mZ [] x↔True:=by grind[mZ]
theorem DY{A:Type}{R:A→Prop}{x:cI A []}:qh R [] x↔R x:=by grind[qh]
theorem l9{A:Type}{R:A→Prop}{t:Ty}{ts:List Ty}{x:cI A (t::ts)}:
  qh R (t::ts) x↔R (Prod.fst (α:=A) (β:=cI t.T ts) x)∧qh (GL t) ts (Prod.snd (α:=A) (β:=cI t.T ts) x):=by grind[qh]
theorem kW{t:Ty}{x:aA [t]}{row:List V}:bW [t] x row↔∃v,row=[v]∧eM t x v:=jk.trans (qV (R:=eM t) (x:=x))
theorem kV{t:Ty}{x:aA [t]}:mZ [t] x↔GL t x:=qU.trans (DY (R:=GL t) (x:=x))
theorem jv{cs:List Ty}{l:(Ty.sl cs).T}{v:V}:eM (.sl cs) l v↔((l:List (aA cs))=[]∧v=.nil)∨∃rows,v=.sl rows∧bD cs l rows:=by grind[eM,bD]
theorem qS{k:IntKind}{n:(Ty.int k).T}{v:V}:eM (.int k) n v↔v=.int k n:=by grind[eM]
theorem kM{n:Ty.bool.T}{v:V}:eM .bool n v↔v=.bool n:=by grind[eM]
theorem tO{n:Ty.str.T}{v:V}:eM .str n v↔v=.str n:=by grind[eM]
theorem Fo{cs:List Ty}{l:(Ty.sl cs).T}:GL (.sl cs) l↔List.length (α:=aA cs) l≤maxLen∧VR (mZ cs) l:=by grind[GL]
theorem aeU{k:IntKind}{n:(Ty.int k).T}:GL (.int k) n↔InK k n:=by grind[GL]
theorem WC{n:Ty.bool.T}:GL .bool n↔True:=by grind[GL]
theorem aeT{n:Ty.str.T}:GL .str n↔ByteArray.size n≤maxLen:=by grind[GL]
def noA:Nat→Prop:=fun _=>False
def Ln(w:World)(row:List V)(cs:List Value):Prop:=row.length=cs.length∧∀(i:Nat) (v:V),row[i]? = some v→∃u,cs[i]? = some u∧aY w noA v u
theorem Ln.app{w:World}{r1 r2:List V}{c1 c2:List Value}(h1:Ln w r1 c1)(h2:Ln w r2 c2):Ln w (r1++r2) (c1++c2):=by
 refine⟨by simp[h1.1,h2.1],fun i v hv=>?_⟩;rcases aAH i r1.length with h | h
 ·rw[aAg h]at hv
  obtain⟨u,e1,e2⟩:=h1.2 i v hv;grind
 ·rw[aAa h]at hv
  obtain⟨u,e1,e2⟩:=h2.2 _ v hv;exact⟨u,by rw[aAa (by rw[← h1.1];exact h),← h1.1];exact e1,e2⟩
def uE{A:Type}:(τ:List Ty)→{t:Ty}→{ts:List Ty}→cI A τ→cI t.T ts→cI A (τ++t::ts)
 | [],_,_,x,y=>(x,y)
 | _::τ,_,_,x,y=>(Prod.fst x,uE τ (Prod.snd x) y)
theorem BG{A:Type}:∀(τ:List Ty) (R:A→V→Prop) {t:Ty} {ts:List Ty} (x:cI A τ) (y:cI t.T ts) (r1 r2:List V),dz R τ x r1→dz (eM t) ts y r2→dz R (τ++t::ts) (uE τ x y) (r1++r2)
 | [],R,t,ts,x,y,r1,r2,h1,h2=>by
  obtain⟨v,rfl,hv⟩:=qV.1 h1;exact jA.2 ⟨v,r2,rfl,hv,h2⟩
 | t0::τ,R,t,ts,x,y,r1,r2,h1,h2=>by
  obtain⟨v,r,rfl,hv,hr⟩:=jA.1 h1;exact jA.2 ⟨v,r++r2,rfl,hv,BG τ (eM t0) _ y r r2 hr h2⟩
theorem BF{A:Type}:∀(τ:List Ty) (R:A→Prop) {t:Ty} {ts:List Ty} (x:cI A τ) (y:cI t.T ts),qh R τ x→qh (GL t) ts y→qh R (τ++t::ts) (uE τ x y)
 | [],R,t,ts,x,y,h1,h2=>l9.2 ⟨DY.1 h1,h2⟩
 | t0::τ,R,t,ts,x,y,h1,h2=>l9.2 ⟨(l9.1 h1).1,BF τ (GL t0) _ y (l9.1 h1).2 h2⟩
theorem Xn(τ σ:List Ty)(x:aA τ)(y:aA σ)(r1 r2:List V)(h1:bW τ x r1)(h2:bW σ y r2)(w1:mZ τ x)(w2:mZ σ y):∃z:aA (τ++σ),bW (τ++σ) z (r1++r2)∧mZ (τ++σ) z:=by
 cases σ with
 | nil=>
  have:=ou.1 h2;grind
 | cons t ts=>
  cases τ with
  | nil=>
   have:=ou.1 h1;grind
  | cons t0 τ=>exact⟨uE τ x y,jk.2 (BG τ (eM t0) x y r1 r2 (jk.1 h1) (jk.1 h2)),qU.2 (BF τ (GL t0) x y (qU.1 w1) (qU.1 w2))⟩
theorem xM{A:Type}{p:Nat→A→Prop}:∀(n:Nat),(∀i,i<n→∃a,p i a)→∃l:List A,l.length=n∧∀i a,l[i]? = some a→p i a
 | 0,_=>⟨[],rfl,fun i a h=>by simp at h⟩
 | n+1,h=>by
  obtain⟨l,h1,h2⟩:=xM n (fun i hi=>h i (by omega));obtain⟨a,ha⟩:=h n (by omega);refine⟨l++[a],by simp[h1],fun i b hb=>?_⟩;grind
section
variable {H:Type} {enc:TypeId×Value→H} {P:Program} {w:World}
theorem Un{a:Addr}{n:Nat}{cs:List Value}(h:w.cells? 0 a n=some cs):cs.length=n∧∀(j:Nat) (u:Value),cs[j]? = some u→w.cell? (a.add j)=some u:=by
 unfold World.cells? at h
 split at h<;>try trivial
 refine⟨by simpa using mapM_some_length h,fun j u hu=>?_⟩;have hj:j<n:=by
  have:=(azR.1 hu).1;have:=mapM_some_length h;grind
 have:=mapM_some_get h j j (by simp[hj]);grind
theorem Uo{a:Addr}{u:Value}(h:w.cell? (a.add 0)=some u):a.spot=none∧a.block<w.heap.size:=by
 have e:a.add 0=a:=by simp[Addr.add]
 rw[e]at h;unfold World.cell? at h
 split at h<;>try trivial
 rename_i c _ _ hb
 split at h<;>try trivial
 rename_i hs;refine⟨by simpa using hs,?_⟩;grind
theorem Jn:∀(d:Nat) (t:TypeId) (τ:List Ty),gf P d t=some τ→∀(fuel:Nat) (cs:List Value) (x:DataW H×List MemPlace),DataW.trod enc P w 0 (fun _=>true) true fuel t cs=some x→
  ∃(y:aA τ) (row:List V),bW τ y row∧Ln w row cs∧mZ τ y:=by
 intro d;induction d with
 | zero=>intro t τ h;cases h
 | succ d ih=>
  intro t τ h fuel cs x hx;simp only[gf]at h
  split at h<;>try trivial
  ·rename_i hu
   cases h
   obtain⟨b,rfl,_⟩:=DataW.trod_bool hu hx;refine⟨b,[.bool b],?_,⟨rfl,fun i v hv=>?_⟩,?_⟩
   ·exact kW.2 ⟨_,rfl,kM.2 rfl⟩
   ·match i with
    | 0=>simp at hv;subst hv;exact⟨_,rfl,.bool b⟩
    | i+1=>simp at hv
   ·exact kV.2 (WC.2 trivial)
  ·rename_i hu
   cases h
   obtain⟨b,rfl,_,hb⟩:=DataW.trod_string hu hx;refine⟨b,[.str b],?_,⟨rfl,fun i v hv=>?_⟩,?_⟩
   ·exact kW.2 ⟨_,rfl,tO.2 rfl⟩
   ·match i with
    | 0=>simp at hv;subst hv;exact⟨_,rfl,.str b⟩
    | i+1=>simp at hv
   ·exact kV.2 (aeT.2 hb)
  ·rename_i k hu
   cases h
   obtain⟨n,rfl,_,hn⟩:=DataW.trod_int hu hx;refine⟨n,[.int k n],?_,⟨rfl,fun i v hv=>?_⟩,?_⟩
   ·exact kW.2 ⟨_,rfl,qS.2 rfl⟩
   ·match i with
    | 0=>simp at hv;subst hv;exact⟨_,rfl,.int k n⟩
    | i+1=>simp at hv
   ·exact kV.2 (aeU.2 (by simp only[Lit.wf,azF,azM]at hn;exact hn))
  ·rename_i e hu
   split at h<;>try trivial
   rename_i c r hr;cases h;rcases DataW.trod_slice hu hx with⟨rfl,_⟩ | ⟨a,len,cap,elems,rest,n,rfl,rfl,_,_,hlc,V3,hlen,sq,F2,_⟩
   ·refine⟨([]:List (aA (c::r))),[.nil],?_,⟨rfl,fun i v hv=>?_⟩,?_⟩
    ·exact kW.2 ⟨_,rfl,jv.2 (.inl ⟨rfl,rfl⟩)⟩
    ·match i with
     | 0=>simp at hv;subst hv;exact⟨_,rfl,.nil⟩
     | i+1=>simp at hv
    ·exact kV.2 (Fo.2 ⟨aAu _,trivial⟩)
   ·
    have one:∀i,(∃z,(w.cells? 0 (a.add (i*P.cellsOf e)) (P.cellsOf e)).bind (DataW.trod enc P w 0 (fun _=>true) true n e)=some z)→
      ∃(y:aA (c::r)) (row:List V) (ci:List Value),bW (c::r) y row∧mZ (c::r) y∧Ln w row ci∧row.length=(c::r).length∧ci.length=P.cellsOf e∧∀(j:Nat) (u:Value),ci[j]? = some u→w.cell? ((a.add (i*P.cellsOf e)).add j)=some u:=by
     rintro i ⟨z,hz⟩;rw[Option.bind_eq_some_iff]at hz;obtain⟨ci,hci,hz⟩:=hz;obtain⟨y,row,h1,h2,h3⟩:=ih e (c::r) hr n ci z hz;obtain⟨e1,e2⟩:=Un hci;exact⟨y,row,ci,h1,h3,h2,ib h1,e1,e2⟩
    have hce:cap ≠ 0→a.spot=none∧a.block<w.heap.size∧P.cellsOf e=(c::r).length:=by
     intro su;have hz:∃z,(w.cells? 0 (a.add (0*P.cellsOf e)) (P.cellsOf e)).bind (DataW.trod enc P w 0 (fun _=>true) true n e)=some z:=by
      by_cases hl:len=0
      ·obtain⟨k1,k2⟩:=F2 rfl
       have:=k2 0 (by omega);grind
      ·rw[sq 0 (by omega)]
       grind
     obtain⟨y,row,ci,h1,h2,h3,h4,h5,h6⟩:=one 0 hz;have aiq:ci.length=(c::r).length:=by rw[← h3.1,h4]
     have dr:0<ci.length:=by grind
     have h7:=h6 0 (ci[0]'dr) (azS dr);have e0:(a.add (0*P.cellsOf e))=a:=by simp[Addr.add]
     grind[Uo]
    have each:∀i,i<len→∃q:aA (c::r)×List V×List Value,bW (c::r) q.1 q.2.1∧mZ (c::r) q.1∧Ln w q.2.1 q.2.2∧q.2.1.length=(c::r).length∧q.2.2.length=P.cellsOf e∧∀(j:Nat) (u:Value),q.2.2[j]? = some u→w.cell? ((a.add (i*P.cellsOf e)).add j)=some u:=by
     intro i hi;obtain⟨y,row,ci,h⟩:=one i ⟨elems[i]'(by omega),by rw[sq i hi];exact azS (by omega)⟩;exact⟨(y,row,ci),h⟩
    obtain⟨l,wU,Db⟩:=xM len each;have bF:bD (c::r) (l.map (·.1)) (l.map (·.2.1)):=by
     have:∀(l':List (aA (c::r)×List V×List Value)),(∀q∈l',bW (c::r) q.1 q.2.1)→bD (c::r) (l'.map (·.1)) (l'.map (·.2.1)):=by
      intro l';induction l' with
      | nil=>intro _;trivial
      | cons q l' ih=>intro h;exact⟨h q (az1 ..),ih (fun p hp=>h p (az6 _ hp))⟩
     refine this l (fun q hq=>?_);obtain⟨i,hi⟩:=aAr hq;grind
    have fQ:VR (mZ (c::r)) (l.map (·.1)):=by
     have:∀(l':List (aA (c::r)×List V×List Value)),(∀q∈l',mZ (c::r) q.1)→VR (mZ (c::r)) (l'.map (·.1)):=by
      intro l';induction l' with
      | nil=>intro _;trivial
      | cons q l' ih=>intro h;exact⟨h q (az1 ..),ih (fun p hp=>h p (az6 _ hp))⟩
     refine this l (fun q hq=>?_);obtain⟨i,hi⟩:=aAr hq;grind
    refine⟨l.map (·.1),[.sl (l.map (·.2.1))],?_,⟨rfl,fun i v hv=>?_⟩,?_⟩
    ·exact kW.2 ⟨_,rfl,jv.2 (.inr ⟨_,rfl,bF⟩)⟩
    ·match i with
     | i+1=>simp at hv
     | 0=>
      simp at hv;subst hv;refine⟨_,rfl,?_⟩;by_cases su:cap=0
      ·have hl0:len=0:=by omega
       subst su;subst hl0;have:l=[]:=aAf wU;subst this;exact .slnil _
      ·obtain⟨k1,k2,k3⟩:=hce su
       obtain⟨b,off,spot⟩:=a;simp only at k1 k2;subst k1;have hlen:(l.map (·.2.1)).length=len:=by simp[wU]
       have:=aY.sl (w:=w) (A:=noA) (l.map (·.2.1)) b off cap (c::r).length (fun i j=>(((l[i]?).bind fun q=>q.2.2[j]?)).getD undef) (by grind) (fun _=>⟨k2,fun h=>h⟩) (fun row aK=>?_) (fun i row hi j x hx=>?_) (fun i row hi j x hx=>?_)
       ·rw[hlen]at this;exact this
       ·obtain⟨q,hq,rfl⟩:=az4.1 aK
        obtain⟨i,hi⟩:=aAr hq;exact(Db i q hi).2.2.2.1
       ·rw[aAv]at hi
        cases TV:l[i]? with
        | none=>simp[TV]at hi
        | some q=>
         simp[TV]at hi;subst hi;obtain⟨_,_,g3,_,g5,g6⟩:=Db i q TV;obtain⟨u,hu1,_⟩:=g3.2 j x hx;simp only[aAC,hu1,aAK];rw[← g6 j u hu1,k3]
         congr 1
         simp only[Addr.add]
         split
         ·rename_i h0;rw[h0];split
          ·rename_i h1;rw[h1];rfl
          ·rfl
         ·split
          ·rename_i h1;rw[h1];rfl
          ·rfl
       ·rw[aAv]at hi
        cases TV:l[i]? with
        | none=>simp[TV]at hi
        | some q=>
         simp[TV]at hi;subst hi;obtain⟨_,_,g3,_,g5,g6⟩:=Db i q TV;obtain⟨u,hu1,hu2⟩:=g3.2 j x hx;simp only[aAC,hu1,aAK];exact hu2
    ·exact kV.2 (Fo.2 ⟨by rw[aA7,wU];omega,fQ⟩)
  ·rename_i fs hu
   split at h<;>try trivial
   rename_i σ hσ
   split at h<;>try trivial
   rename_i hl;cases h;obtain⟨xs,n,rfl,_,uR,hxs,hf⟩:=DataW.trod_struct hu hx;have key:∀(l:List Field) (k off:Nat) (σ:List Ty),FF (gf P d) l off=some σ→(∀(i:Nat) (f:Field),l[i]? = some f→fs[k+i]? = some f)→off+σ.length≤cs.length→
     ∃(y:aA σ) (row:List V),bW σ y row∧Ln w row ((cs.drop off).take σ.length)∧mZ σ y:=by
    intro l;induction l with
    | nil=>
     intro k off σ hσ _ _;cases hσ;exact⟨(),[],ou.2 rfl,⟨by simp,fun i v hv=>by simp at hv⟩,Xo.2 trivial⟩
    | cons f l ihl=>
     intro k off σ hσ Dx hle;simp only[FF]at hσ
     split at hσ<;>try (cases hσ;done)
     rename_i atr
     split at hσ<;>try (cases hσ;done)
     rename_i τ hτ
     split at hσ<;>try (cases hσ;done)
     rename_i r hr;cases hσ;have apX:=azV atr;have hfk:=Dx 0 f rfl;have htr:=hf (k+0) f hfk;have bO:k+0<xs.length:=by
      rw[hxs];rcases aAH (k+0) fs.size with h | h
      ·exact h
      ·rw[aA9 h]at hfk;cases hfk
     rw[azS bO,apX]at htr;obtain⟨y1,akF,h1,h2,h3⟩:=ih f.type τ hτ n _ _ htr;rw[azG]at hle;obtain⟨y2,aoV,g1,g2,g3⟩:=ihl (k+1) (off+τ.length) r hr (fun i f' hf'=>by
      have:=Dx (i+1) f' (by grind)
      rwa [show k+(i+1)=k+1+i from by omega]at this) (by omega)
     have wU:((cs.drop off).take (P.cellsOf f.type)).length=τ.length:=by rw[← h2.1,ib h1]
     have e1:(cs.drop off).take (P.cellsOf f.type)=(cs.drop off).take τ.length:=by
      have hh:min (P.cellsOf f.type) (cs.length-off)=τ.length:=by simpa using wU
      by_cases hm:P.cellsOf f.type≤cs.length-off
      ·rw[aBA hm]at hh;rw[hh]
      ·rw[Nat.min_eq_right (by omega)]at hh
       rw[aAQ (by simp;omega),aAQ (by simp;omega)]
     obtain⟨z,z1,z2⟩:=Xn τ r y1 y2 akF aoV h1 g1 h3 g3;refine⟨z,akF++aoV,z1,?_,z2⟩;have e2:(cs.drop off).take (τ++r).length=(cs.drop off).take τ.length++(cs.drop (off+τ.length)).take r.length:=by
      rw[azG,List.take_add,aBE]
     rw[e2,← e1];exact h2.app g2
   have Du:=azV hl;obtain⟨y,row,h1,h2,h3⟩:=key fs.toList 0 0 _ hσ (fun i f hf'=>by simpa using hf') (by grind);grind
end
def ang(P:Program)(t:TypeId):Option AK:=match P.underlying t with
 | some .bool=>some (.c .bool)
 | some .string=>some (.c .str)
 | some (.int k)=>some (.c (.int k))
 | some (.slice _)=>(match gf P 9 t with
  | some [.sl σ]=>some (.rd σ)
  | _=>none)
 | some (.struct _)=>(match gf P 9 t with
  | some τ=>some (.g τ)
  | none=>none)
 | _=>none
def ahs(P:Program):List TypeId→Option (List AK)
 | []=>some []
 | t::ts=>match ang P t,ahs P ts with
  | some k,some ks=>some (k::ks)
  | _,_=>none
def ahE:(k:AK)→k.T→Prop
 | .c t,x=>GL t x
 | .g τ,x=>mZ τ x
 | .rd τ,l=>List.length (α:=aA τ) l≤maxLen∧VR (mZ τ) l
 | .cp _,_=>False
 | .fn _ _,_=>False
 | .raw _,_=>False
def aer{A:Type}(R:A→Prop):(ks:List AK)→dA.ky A ks→Prop
 | [],x=>R x
 | k::ks,x=>R (Prod.fst x)∧aer (ahE k) ks (Prod.snd x)
def yD:(ks:List AK)→dA ks→Prop
 | [],_=>True
 | k::ks,x=>aer (ahE k) ks x
section
variable {H:Type} {enc:TypeId×Value→H} {P:Program} {w:World}
theorem WE{t:TypeId}{k:AK}(hk:ang P t=some k){r:Reach}{base:Nat}{v:Value}(uJ:Value.okWide P w r base t v){d:DataW H}{ps:List MemPlace}(h:DataW.Trod enc P w 0 (fun _=>true) true t v d ps):
  ∃(x:k.T) (y:V),lZ k x y∧ahE k x∧Rel ⟨w,noA,fB,iE⟩ y v:=by
 obtain⟨fuel,h⟩:=h;have one:∀(t':Ty) (hr:gf P 9 t=some [t']),(∀cs,v ≠ .agg cs)→∃(x:t'.T) (y:V),eM t' x y∧GL t' x∧aY w noA y v:=by
  intro t' hr F9;obtain⟨x,row,h1,h2,h3⟩:=Jn 9 t [t'] hr fuel _ _ h;obtain⟨y,rfl,hy⟩:=kW.1 h1;obtain⟨u,e1,e2⟩:=h2.2 0 y rfl;have:v.cells.toList=[v]:=by cases v<;>first | rfl | exact absurd rfl (F9 _)
  rw[this]at e1;simp at e1;subst e1;exact⟨x,y,hy,kV.1 h3,e2⟩
 unfold ang at hk
 split at hk<;>try (cases hk;done)
 ·rename_i hu
  cases hk
  obtain⟨x,y,h1,h2,h3⟩:=one .bool (by simp[gf,hu]) (by
   obtain⟨b,rfl⟩:=WideShapes.okWide_bool hu uJ;grind)
  exact⟨x,y,h1,h2,Rel.aN h3⟩
 ·rename_i hu
  cases hk
  obtain⟨x,y,h1,h2,h3⟩:=one .str (by simp[gf,hu]) (by
   intro cs hc;subst hc;simp[Value.okWide,hu,Cell.okWide,Cell.ok]at uJ)
  exact⟨x,y,h1,h2,Rel.aN h3⟩
 ·rename_i k' hu
  cases hk
  obtain⟨x,y,h1,h2,h3⟩:=one (.int k') (by simp[gf,hu]) (by
   intro cs hc;subst hc;simp[Value.okWide,hu,Cell.okWide,Cell.ok]at uJ)
  exact⟨x,y,h1,h2,Rel.aN h3⟩
 ·rename_i e hu
  split at hk<;>try (cases hk;done)
  rename_i σ hr;cases hk;obtain⟨x,y,h1,h2,h3⟩:=one (.sl σ) hr (by
   intro cs hc;subst hc;simp[Value.okWide,hu,Cell.okWide,Cell.ok]at uJ)
  rcases jv.1 h1 with⟨e1,rfl⟩ | ⟨rows,rfl,bF⟩
  ·refine⟨x,.rd [],⟨[],rfl,?_⟩,Fo.1 h2,?_⟩
   ·have e1':(x:List (aA σ))=[]:=e1
    rw[e1'];trivial
   ·cases h3;exact .inl ⟨⟨_,rfl⟩,rfl⟩
  ·refine⟨x,.rd rows,⟨rows,rfl,bF⟩,Fo.1 h2,?_⟩
   exact gF.frame (fun _ _ _=>rfl) (fun _ _ _=>rfl) (azJ _) (fun _ _ h=>h) (fun b _ h=>by obtain⟨_,_,h,_⟩:=h;simp[fB]at h) (me.1 h3)
 ·rename_i fs hu
  split at hk<;>try (cases hk;done)
  rename_i τ hr;cases hk;obtain⟨x,row,h1,h2,h3⟩:=Jn 9 t τ hr fuel _ _ h;have:∃cs,v=.agg cs:=by
   unfold Value.okWide at uJ;grind
  obtain⟨cs,rfl⟩:=this;refine⟨x,.agg row,⟨row,rfl,h1⟩,h3,cs,rfl,?_,fun i y hy=>?_⟩
  ·have:=h2.1
   simpa [Value.cells]using this.symm
  ·obtain⟨u,e1,e2⟩:=h2.2 i y hy
   exact⟨u,by simpa [Value.cells]using e1,e2⟩
theorem aaw{k:AK}{ks:List AK}{x:k.T}{a:dA ks}{y:V}{args:List V}(h1:lZ k x y)(h2:bY ks a args)(w1:ahE k x)(w2:yD ks a):∃b:dA (k::ks),bY (k::ks) b (y::args)∧yD (k::ks) b:=by
 cases ks with
 | nil=>
  simp only[bY]at h2;subst h2;exact⟨x,by simp only[bY];exact⟨y,rfl,h1⟩,by simp only[yD];exact w1⟩
 | cons k2 ks=>
  refine⟨(x,a),?_,?_⟩
  ·simp only[bY]at h2 ⊢
   exact⟨y,args,rfl,h1,h2⟩
  ·simp only[yD]at w2 ⊢
   exact⟨w1,w2⟩
theorem DH{r:Reach}{base:Nat}:∀{ts:List TypeId} {ad:List AK},ahs P ts=some ad→∀{vs:List Value} {ds:List (DataW H)} {ps:List MemPlace},(∀(j:Nat) t v,ts[j]? = some t→vs[j]? = some v→Value.okWide P w r base t v)→
  DataW.TrodAll enc P w 0 (fun _=>true) true ts vs ds ps→∃(a:dA ad) (args:List V),bY ad a args∧yD ad a∧args.length=vs.length∧ds.length=vs.length∧vs.length=ts.length∧∀(i:Nat) (x:V),args[i]? = some x→∃u,vs[i]? = some u∧Rel ⟨w,noA,fB,iE⟩ x u
 | [],ad,had,vs,ds,ps,_,h=>by
  cases had
  match vs,ds,h with
  | [],[],_=>exact⟨(),[],by simp only[bY],by simp only[yD],rfl,rfl,rfl,fun i x h=>by simp at h⟩
 | t::ts,ad,had,vs,ds,ps,uJ,h=>by
  match vs,ds,h with
  | v::vs,d::ds,h=>
   obtain⟨p,q,h1,h2,_⟩:=h;simp only[ahs]at had
   split at had<;>try (cases had;done)
   rename_i k ks hk hks;cases had;obtain⟨x,y,a1,a2,a3⟩:=WE hk (uJ 0 t v rfl rfl) h1;obtain⟨a,args,b1,b2,b3,b4,b6,b5⟩:=DH hks (fun j t v hj hv=>uJ (j+1) t v (by grind) (by grind)) h2;obtain⟨b,c1,c2⟩:=aaw a1 b1 a2 b2;refine⟨b,y::args,c1,c2,by simp[b3],by simp[b4],by simp[b6],fun i z hz=>?_⟩;cases i with
   | zero=>simp at hz;subst hz;exact⟨v,rfl,a3⟩
   | succ i=>
    obtain⟨u,e1,e2⟩:=b5 i z (by grind);exact⟨u,by simpa using e1,e2⟩
theorem DL(hl:laidOutB P=true){W W':World}(hb:Below W.heap.size W W'){sp:Nat→Bool}:∀{ts:List TypeId} {vs:List Value} {ds:List (DataW H)} {ps:List MemPlace},(∀t∈ts,P.readableRec t=true∧t<P.types.size)→
  DataW.TrodAll enc P W 0 (fun _=>true) true ts vs ds ps→(∀p∈ps,p.block<W.heap.size)→(∀p∈ps,sp p.block=true)→DataW.TrodAll enc P W' 0 sp true ts vs ds ps
 | [],vs,ds,ps,_,h,_,_=>by
  match vs,ds,h with
  | [],[],h=>exact h
 | t::ts,vs,ds,ps,ht,h,bO,hs=>by
  match vs,ds,h with
  | v::vs,d::ds,h=>
   obtain⟨p,q,h1,h2,rfl⟩:=h;obtain⟨k1,k2⟩:=ht t (az1 ..);exact⟨p,q,WideElems.Trod_stays hl k1 k2 h1 (fun x hx=>hb.same (bO x (aBd _ hx))) (fun x hx=>hs x (aBd _ hx)),
    DL hl hb (fun t ht'=>ht t (az6 _ ht')) h2 (fun x hx=>bO x (aBe _ hx)) (fun x hx=>hs x (aBe _ hx)),rfl⟩
end
def aeS(P:Program)(ts:List TypeId):Bool:=ts.all fun t=>P.readableRec t&&Nat.blt t P.types.size
theorem TG{H:Type}{enc:TypeId×Value→H}{P:Program}{g:FuncId}{fn:Func}{s:ChangeSpec}{apart fresh handsOn again:Bool}{tb:TypeId}{pts:List TypeId}(ad:List AK)(hp:fn.params.toList=pts)(had:ahs P pts=some ad)(hl:laidOutB P=true)(Y2:aeS P pts=true)
  (hr:fn.resultTypes=#[tb]) (htb:P.underlying tb=some .bool) (YY:s.vars=[])
  (F2:∀ds:List (DataW H),ds.length=pts.length→(s.fn H ds).results=[.lit (.bool true)]∧(s.fn H ds).args=ds∧(s.fn H ds).vars=[])
  (atQ:∀a:dA ad,yD ad a→∀cG,bY ad a cG→EW P g cG (cf [.v .bool] (true:Bool))) (W:World) (base:Nat) (args:Array Value) (ds gs:List (DataW H)) (before:List MemPlace)
  (uJ:∀(j:Nat) t v,fn.params[j]? = some t→args[j]? = some v→Value.okWide P W .any base t v) (hW:DataW.Whole enc P fn.params.toList s.vars apart W args.toList ds gs before) :
  Calls P g args W fun e W'=>∃v,e=.returned v∧s.post enc P fn apart fresh handsOn again W args v W':=by
 have hW0:=hW;obtain⟨p,q,hA,hV,hpq,_,_⟩:=hW;rw[YY]at hV
 match gs,hV with
 | [],hV=>
  have hq:q=[]:=hV;subst hq;rw[aAc]at hpq;subst hpq;rw[hp]at hA;have apU:∀j:Nat,fn.params[j]? = pts[j]?:=fun j=>by rw[← hp];simp
  obtain⟨a,cG,h1,h2,h3,h4,h6,h5⟩:=DH had (fun j t v hj hv=>uJ j t v (by grind) (by grind)) hA;have hlen:ds.length=pts.length:=by
   omega
  obtain⟨s1,s2,s3⟩:=F2 ds hlen;obtain⟨_,amd⟩:=atQ a h2 cG h1;refine(amd W noA args (fun b h=>h.elim) (by grind) (fun i x hx=>by simpa using h5 i x hx)).mono ?_;rintro e W' ⟨rds,us,β',A',Ze,rfl,BM⟩;simp only[cf,df]at Ze;obtain⟨rd,rfl,y,rfl,hy⟩:=Ze;have hyb:y=.bool true:=kM.1 hy;subst hyb;obtain⟨u,hu1,hu2⟩:=BM.rel 0 _ rfl;have gV:us=[u]:=by
   have:=BM.len
   match us,this,hu1 with
   | [x],_,hu1=>simp at hu1;rw[hu1]
  have hub:u=.bool true:=by cases hu2;rfl
  subst gV;subst hub;refine⟨_,rfl,?_⟩;have hb:Below W.heap.size W W':=⟨BM.ev.os,BM.ev.tape,BM.ev.output,BM.ev.size,fun k hk=>BM.ev.block k hk (fun h=>h)⟩;have bO:∀x∈before,x.block<W.heap.size:=fun x hx=>hW0.lt x hx
  have TQ:∀t∈pts,P.readableRec t=true∧t<P.types.size:=fun t ht=>by
   have:=azU.1 Y2 t ht;simp only[azF]at this;exact⟨this.1,aBz this.2⟩
  have cZ:∀sp:Nat→Bool,(∀x∈before,sp x.block=true)→DataW.TrodAll enc P W' 0 sp true pts args.toList ds before:=fun sp hs=>DL hl hb TQ hA bO hs
  have apO:∀(b:Nat) (sp:Nat→Bool) (hd:Bool),DataW.TrodAll enc P W' b sp hd fn.resultTypes.toList ((jE [Value.bool true]).resultList fn.resultTypes.size) [.lit (.bool true)] []:=fun b sp hd=>by
   rw[hr];exact ChangeShapes.trodAll_mk1 (RowKit.shut_bool htb true)
  have e0:ds++[]=ds:=aAc ds;refine⟨ds,[],before,[],before,[],hW0,?_,?_,?_,World.keptBut_mono (fun x hx=>⟨hx,.inr (.inl hx)⟩) (hb.frame (·∈before)),fun _=>⟨?_,?_⟩⟩
  ·rw[e0,s1];exact apO _ _ _
  ·rw[e0,s2,hp];exact cZ _ (fun x hx=>by simpa using bO x hx)
  ·rw[e0,s3,YY];rfl
  ·exact RowKit.ok_one hr rfl (RowKit.okWide_bool_mk htb true)
  ·refine⟨[.lit (.bool true)]++ds,[],before,⟨before,[],?_,by rw[YY];rfl,by simp,?_,?_⟩,fun x hx _=>hx⟩
   ·have h7:=trodAll_append (cZ (fun _=>true) (fun _ _=>rfl)) (apO 0 (fun _=>true) true)
    rw[← hp]at h7;exact h7
   ·intro b off hx
    obtain⟨_,_,_,_,_,hz,_⟩:=hW0;rw[hb.frozen (bO _ hx)];exact hz b off hx
   ·intro ha
    obtain⟨_,_,_,_,_,_,hn⟩:=hW0;exact hn ha
end Go.AL
namespace Go.AL
def dE:List (Nat×(List (Nat×List Nat)×List (Nat×Nat)))→PM
 | [],_=>([],[])
 | (i,x)::r,j=>bif Nat.beq j i then x else dE r j
def eO:List (Nat×LD)→Nat→LD
 | [],_=>⟨[],[],0⟩
 | (i,x)::r,j=>bif Nat.beq j i then x else eO r j
def sY(n:Nat):List (Nat×LD)→Nat→LD
 | [],_=>⟨[],[],n⟩
 | (i,x)::r,j=>bif Nat.beq j i then x else sY n r j
theorem fq{n:Nat}:∀{l:List (Nat×LD)},l.all (fun q=>Nat.beq q.2.ln n)=true→∀b,(sY n l b).ln=n
 | [],_,b=>rfl
 | (i,x)::r,h,b=>by
  obtain⟨h1,h2⟩:=aAk.1 (show(Nat.beq x.ln n&&r.all fun q=>Nat.beq q.2.ln n)=true from h);simp only[sY];cases Nat.beq b i
  ·exact fq h2 b
  simp_all
def aB(f:Func):Code:=match f.body with
 | some c=>c
 | none=>.skip
def PL(a b:List XI):List XI:=match a with
 | []=>b
 | _=>a
def fH(id:Nat):Nat→List XI→List XI
 | 0,_=>[]
 | _+1,[]=>[]
 | f+1,.code c::k=>match c with
  | .seq x y=>fH id f (.code x::.code y::k)
  | .cond _ x y=>PL (fH id f (.code x::k)) (fH id f (.code y::k))
  | .block i x=>PL (fH id f (.code x::.inBlock i::k)) (fH id f k)
  | .scope x=>fH id f (.code x::k)
  | .loop body=>bif Nat.beq (xN k) id then .head body::k else fH id f (.code body::.head body::k)
  | .exit _=>[]
  | .ret=>[]
  | _=>fH id f k
 | _+1,.head _::_=>[]
 | _+1,.inBlock _::_=>[]
 | f+1,_::k=>fH id f k
def aV(fn:Func)(id:Nat):List XI:=fH id 10000 [.code (aB fn)]
def jh(P:Program)(es:List dn)(el:List dW:=[])(il:List Vo:=[]):Prop:=(∀e∈es,e.Ok P)∧(∀e∈el,e.Ok P)∧∀d∈il,d.Ok P
theorem aC{P:Program}:jh P []:=⟨fun e h=>(by cases h),fun e h=>(by cases h),fun e h=>(by cases h)⟩
theorem ah{P:Program}{e:dn}{es:List dn}{el:List dW}{il:List Vo}(h:e.Ok P)(hs:jh P es el il):jh P (e::es) el il:=⟨fun x hx=>by
 rcases azW.1 hx with rfl | hx
 ·exact h
 ·exact hs.1 x hx,hs.2⟩
theorem gu{P:Program}{e:dW}{es:List dn}{el:List dW}{il:List Vo}(h:e.Ok P)(hs:jh P es el il):jh P es (e::el) il:=⟨hs.1,fun x hx=>by
 rcases azW.1 hx with rfl | hx
 ·exact h
 ·exact hs.2.1 x hx,hs.2.2⟩
def p2(k:Int):Int:=2 ^ k.toNat
theorem eZ(k:Int):0<p2 k:=Int.pow_pos (by omega)
theorem FL{j k:Int}(h:j≤k):p2 j≤p2 k:=by
 unfold p2;have h1:j.toNat≤k.toNat:=by omega
 have h2:(2:Nat) ^ j.toNat≤2 ^ k.toNat:=Nat.pow_le_pow_right (by omega) h1
 grind
theorem afK{k:Int}(h:0≤k):p2 (k+1)=2*p2 k:=by
 unfold p2;rw[show(k+1).toNat=k.toNat+1 by omega,Int.pow_succ];omega
theorem ao7{k:Int}(h:k≤62):p2 k≤4611686018427387904:=by
 have:=FL h;grind[p2]
theorem mj{k:Int}(h:k≤40):p2 k≤1099511627776:=by
 have:=FL h;grind[p2]
theorem az{n:Int}(h : -9223372036854775808≤n)(h':n≤9223372036854775807):i64.wrap n=n:=IntWalk.i64_in n ⟨h,h'⟩
theorem sD{n:Int}(h:0≤n)(h':n≤18446744073709551615):u64.wrap n=n:=IntWalk.u64_in n ⟨h,h'⟩
theorem aka(n:Int):0≤u64.wrap n:=by
 rw[IntKind.wrap_u64];omega
theorem sh1{k:Int}(h:0≤k)(h':k≤62):i64.wrap (1*2 ^ min k.toNat i64.bits)=p2 k:=by
 have h1:min k.toNat i64.bits=k.toNat:=aBA (by show _≤64;omega);rw[h1,Int.one_mul];have:=eZ k;have:=ao7 h';grind[az,p2]
theorem shp{m k:Int}(h:0≤k)(h':k≤62)(h1 : -9223372036854775808≤m*p2 k)(h2:m*p2 k≤9223372036854775807):i64.wrap (m*2 ^ min k.toNat i64.bits)=m*p2 k:=by
 have h3:min k.toNat i64.bits=k.toNat:=aBA (by show _≤64;omega);rw[h3];exact az h1 h2
theorem eR{α:Type}{p:Prop}[Decidable p]{x y:α}(h:p):(bif decide p then x else y)=x:=by simp[h]
theorem eS{α:Type}{p:Prop}[Decidable p]{x y:α}(h:¬ p):(bif decide p then x else y)=y:=by simp[h]
theorem ZH{α:Type}(l:List α)(x:α)(r:List α)(d:α):(l++x::r).getD (Int.toNat ((l.length:Nat):Int)) d=x:=by
 simp[aAm]
theorem M9{α:Type}(l:List α)(x:α)(r:List α):decide (((l.length:Nat):Int)<(((l++x::r).length:Nat):Int))=true:=by
 simp;omega
theorem fW(n:Nat):decide ((0:Int)≤((n:Nat):Int))=true:=by simp
theorem alp{α:Type}(l:List α):decide (((l.length:Nat):Int)<(((l++[]).length:Nat):Int))=false:=by
 simp
theorem MO{a b:Int}(ha:0≤a)(hb:0≤b):p2 (a+b)=p2 a*p2 b:=by
 unfold p2;rw[Int.toNat_add ha hb,Int.pow_add]
def de{ρ:Type}(T:Nat→Option ρ)(p:Bool)(x:ρ):Prop:=p=true→∃f,T f=some x
def H7{A B:Type}(v:A)(p:A×B):A×B:=(v,p.2)
def bG{A B:Type}(g:B→B)(p:A×B):A×B:=(p.1,g p.2)
def upS{A B:Type}(v:B)(p:A×B):A×B:=(p.1,v)
section
variable {ρ:Type} {A B T L:Nat→Option ρ} {c p q:Bool} {x y:ρ}
theorem ae:de (fun _=>some x) true x:=fun _=>⟨0,rfl⟩
theorem ao(ha:de A p x)(hb:de B q y):de (fun f=>bif c then A f else B f) (bif c then p else q) (bif c then x else y):=by cases c;all_goals grind
theorem aT(ha:de A true x)(hb:de B true y):de (fun f=>bif c then A f else B f) true (bif c then x else y):=by cases c;all_goals grind
theorem aI(ha:de A p x):de (fun f=>bif c then A f else none) (c&&p) x:=by
 cases c
 ·intro h;cases h
 ·exact ha
theorem cS(ha:de A true x):de (fun f=>bif c then A f else none) c x:=by
 cases c
 ·intro h;cases h
 ·exact ha
theorem bL(h:c=true→de A p x):de A (c&&p) x:=fun hp=>h (aAk.1 hp).1 (aAk.1 hp).2
theorem ai(h:∀f,L (f+1)=T f)(e:de T p x):de L p x:=fun hp=>(e hp).elim fun f hf=>⟨f+1,(h f).trans hf⟩
end
section
variable {α:Type} {l r:List α} {u v:α} {k:Nat}
theorem ak(h:l.drop k=u::r):k<l.length:=by
 rcases aAH k l.length with h1 | h1
 ·exact h1
 ·rw[aBK h1]at h;cases h
theorem bT(h:l.drop k=[]):¬ k<l.length:=by
 simp_all
theorem aH(h:l.drop k=u::r):l.drop (k+1)=r:=by
 rw[← aBE,h];rfl
theorem rn(h:l.drop k=u::r):l[k]? = some u:=by
 have:=aAM (xs:=l) (i:=k) (j:=0);grind
theorem bC(h:l.drop k=u::r)(z:α):l.getD (Int.toNat ((k:Nat):Int)) z=u:=by
 rw[aAn,aAm,rn h];rfl
theorem bB(h:l.drop (k+1)=r):(l.set (Int.toNat ((k:Nat):Int)) v).drop (k+1)=r:=by
 rw[aAn,List.drop_set_of_lt (by omega)];exact h
theorem drop_set(h:l.drop k=u::r):(l.set (Int.toNat ((k:Nat):Int)) v).drop (k+1)=r:=bB (aH h)
theorem bH(h:k<l.length)(z:α):(l.set (Int.toNat ((k:Nat):Int)) v).getD (Int.toNat ((k:Nat):Int)) z=v:=by
 grind
theorem cK(h:k<l.length):decide (((k:Nat):Int)<((l.length:Nat):Int))=true:=azC (by omega)
theorem fA(h:¬ k<l.length):decide (((k:Nat):Int)<((l.length:Nat):Int))=false:=azK (by omega)
theorem iW{n:Int}(hn:n=((l.length:Nat):Int))(h:k<l.length):decide (((k:Nat):Int)<n)=true:=azC (by omega)
theorem iZ{n:Int}(hn:n=((l.length:Nat):Int))(h:¬ k<l.length):decide (((k:Nat):Int)<n)=false:=azK (by omega)
theorem bk(h:k<l.length)(hl:l.length≤1099511627776):i64.wrap (((k:Nat):Int)+1)=((k+1:Nat):Int):=by
 grind[az]
theorem aag{n:Int}{m:Nat}(h:(n-((k:Nat):Int)).toNat=m+1):decide (((k:Nat):Int)<n)=true:=azC (by omega)
theorem aah{n:Int}(h:(n-((k:Nat):Int)).toNat=0):decide (((k:Nat):Int)<n)=false:=azK (by omega)
theorem u7{n:Int}{m:Nat}(h:(n-((k:Nat):Int)).toNat=m+1):(n-((k+1:Nat):Int)).toNat=m:=by omega
theorem KQ{n:Int}{m:Nat}(h:(n-((k:Nat):Int)).toNat=m+1)(hb:n≤1099511627776):i64.wrap (((k:Nat):Int)+1)=((k+1:Nat):Int):=by
 grind[az]
end
theorem B3{P:Program}{g:FuncId}{τ:List Ty}{t es:Nat}
  {B:Nat} (dU:∀a:List (aA τ),0<a.length→a.length≤B→∀vs,bY [.rd τ] a vs→EW P g vs (cf [.o t es τ] a))
  (uM:EW P g [V.db (.slice none 0 0)] (cf [.o t es τ] ([]:List (aA τ))))
  (Nr:∀(b:Addr) (c:Nat),EW P g [V.db (.slice (some b) 0 c)] (cf [.o t es τ] ([]:List (aA τ)))) :
  ∀a:List (aA τ),a.length≤B→∀vs,bY [.rd τ] a vs→EW P g vs (cf [.o t es τ] a):=by
 intro a ha vs hv;cases a with
 | cons x a=>grind
 | nil=>
  simp only[bY,ed,lZ]at hv;obtain⟨v,rfl,rows,rfl,hr⟩:=hv;cases rows with
  | cons r rows=>exact hr.elim
  | nil=>
   refine⟨uM.1,fun w A vs hA dO hrel=>?_⟩;obtain⟨u,hu,F5⟩:=hrel 0 (.rd []) rfl;have one:∀v:Value,v.oneCell'=true→u=v→∀(i:Nat) (x:V),[V.db v][i]? = some x→∃u,vs[i]? = some u∧Rel ⟨w,A,fB,iE⟩ x u:=by
    grind[Rel.aN,ic]
   rcases F5 with⟨⟨a,rfl⟩,_⟩ | ⟨b,off,cap,es,f,rfl,_⟩
   ·cases a with
    | none=>exact uM.2 w A vs hA dO (one _ rfl rfl)
    | some b=>exact(Nr b 0).2 w A vs hA dO (one _ rfl rfl)
   ·exact(Nr ⟨b,off,none⟩ cap).2 w A vs hA dO (one _ rfl rfl)
theorem Uk{n b:Nat}(h0:0<n)(h:n≤1099511627776)(hb:b≤128){α:Type}{x y:Option α}:(bif decide (0<n)&&true then bif decide ((([]:List Nat).length+n)*b≤140737488355328)then x else y else y)=x:=by
 rw[aAt,eR h0,eR];simp only[az2,az8];exact az0 (Nat.mul_le_mul h hb) (by decide)
theorem xX{n b:Nat}(h0:0<n)(h:n≤68719476736)(hb:b≤2048){α:Type}{x y:Option α}:(bif decide (0<n)&&true then bif decide ((([]:List Nat).length+n)*b≤140737488355328)then x else y else y)=x:=by
 rw[aAt,eR h0,eR];simp only[az2,az8];exact az0 (Nat.mul_le_mul h hb) (by decide)
def wP{α:Type}(l:List α):Bool:=decide (l.length≤68719476736)
def af{α:Type}(l:List α):Bool:=decide (l.length≤1099511627776)
theorem bp{A R:Type}{M:Nat→A→Option R}{P:A→Bool}{F:A→R}{pre:A→Bool}{spec:A→R}(h:∀a,de (fun f=>M f a) (P a) (F a))(hp:∀a,pre a=true→P a=true)(hf:∀a,pre a=true→F a=spec a)(a:A)(ha:pre a=true):∃f,M f a=some (spec a):=by
 have h1:=h a (hp a ha);grind
theorem fl(C:cX)(Lt:Nat→LD)(rs:List ResultVar){g:FuncId}{fn:Func}{c:Code}{ad:List AK}{rk:List RK}{pre:dA ad→Bool}{sp:dA ad→eC rk}(hm:C.P.follows .mixedOrders=true)(bI:(∀e∈C.es,e.Ok C.P)∧(∀e∈C.el,e.Ok C.P)∧∀d∈C.inl,d.Ok C.P)
  (hf:C.P.funcs[g]? = some fn) (h:∀a,pre a=true→∃f,aG C Lt (zd C.P rs rk) f [.code c] (aQ ad a)=some (sp a)) (hb:fn.body=some c:=by rfl) (hn:fn.ntmps=C.n:=by rfl) (hr:fn.results.toList=rs:=by rfl) (hl:Nat.ble ad.length C.n=true:=by kernel_rfl) (hc:fe C.pm c=true:=by kernel_rfl):dn.Ok C.P ⟨g,ad,rk,pre,sp⟩:=
 fun a hp vs hv=>(h a hp).elim fun f h=>iI ad rk hm bI hf hb hn hr hl hc f h vs hv
end Go.AL
