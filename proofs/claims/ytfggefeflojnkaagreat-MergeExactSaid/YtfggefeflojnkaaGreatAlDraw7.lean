/- AI. -/
import Derived.Test.YtfggefeflojnkaaGreatAlDraw6
namespace Go.AL
def iJ(m:Nat)(ops:Array Oper):Array Oper:=(ops.toList.take m).toArray
def flags(N i:Nat):Array Bool:=(List.replicate i true++List.replicate (N-i) false).toArray
def aas(ops:Array Oper)(m:Nat):Bool:=(List.range ops.size).all fun i=>match ops[i]? with
 | none=>false
 | some o=>(o.after.toList.all fun e=>!Region.binds .any e || Nat.blt e.on i)&&(match o.guard with | none=>true | some (j,_)=>Nat.blt j i)&&
   (Nat.blt i m || ((List.range m).all fun k=>o.after.toList.any fun e=>Region.binds .any e&&Nat.beq e.on k))
def QC(ops:Array Oper)(m:Nat):Bool:=(List.range (ops.size-m)).all fun j=>Region.ready .any ops (flags ops.size (m+j)) == [m+j]
def Ml(ops:Array Oper)(m:Nat):Bool:=Nat.beq m ops.size || (aas ops m&&QC ops m&&Nat.ble m ops.size)
section
variable {P:Program} {n:Nat} {w0:World} {I:rM} {A0:Nat→Prop}
theorem NC{N i j:Nat}(hj:j<N)(d:Bool):(flags N i).getD j d=decide (j<i)∨N<i:=by
 by_cases hN:N<i
 ·grind
 left;unfold flags;simp only[aAw,aBj];grind
theorem T3{N i:Nat}(h:i<N):(flags N i).setIfInBounds i true=flags N (i+1):=by
 apply aB2;intro k;rw[aAj];grind[flags]
theorem EB{ops:Array Oper}{m:Nat}(hc:QC ops m=true){Q:Exit→Act→World→Prop}:∀(t i:Nat) (a:Act) (w:World),m≤i→ops.size=i+t→wpList P ops Q (ops.toList.drop i) a w→wpAny P .any ops Q t (flags ops.size i) a w
 | 0,i,a,w,_,hi,h=>by
  have hi:ops.size=i:=by omega
  rw[aBK (by simp;omega)]at h;have hr:Region.ready .any ops (flags ops.size i)=[]:=by
   unfold Region.ready;rw[aCd];intro j hj;have hj:j<ops.size:=by grind
   rcases NC (i:=i) hj true with h1 | h1
   all_goals grind
  exact⟨hr,h⟩
 | t+1,i,a,w,hm,hi,h=>by
  have nB:i<ops.size:=by omega
  have hr:Region.ready .any ops (flags ops.size i)=[i]:=by
   have:=azU.1 hc (i-m) (by simp;omega);grind
  refine⟨fun h0=>(by grind),fun j hj=>?_⟩;rw[hr]at hj;simp at hj;subst hj;rw[T3 nB];have hd:ops.toList.drop j=ops[j]::ops.toList.drop (j+1):=by
   rw[aA4 (by grind)];simp
  rw[hd]at h;unfold wpOp;rw[aAL nB];unfold wpList at h;have mono:∀a' w',wpList P ops Q (ops.toList.drop (j+1)) a' w'→wpAny P .any ops Q t (flags ops.size (j+1)) a' w':=fun a' w' h'=>EB hc t (j+1) a' w' (by omega) (by omega) h'
  simp only
  split
  ·rename_i hw
   simp only[hw,aAo]at h;exact h.imp (Oper.wp_mono mono) id
  grind
theorem u5{m:Nat}{ops:Array Oper}{i:Nat}(h:i<m):(iJ m ops)[i]? = ops[i]?:=by
 grind[iJ]
theorem ru{m:Nat}{ops:Array Oper}(h:m≤ops.size):(iJ m ops).size=m:=by grind[iJ]
theorem Z3{ops:Array Oper}:iJ ops.size ops=ops:=by
 apply aA3;show List.take ops.size ops.toList=ops.toList;exact aAQ (by simp)
structure ahD (ops:Array Oper) (m:Nat):Prop where
 on:∀(i:Nat) (o:Oper),ops[i]? = some o→∀e∈o.after.toList,Region.binds .any e=true→e.on<i
 guard:∀(i:Nat) (o:Oper),ops[i]? = some o→∀(j:Nat) (want:Bool),o.guard=some (j,want)→j<i
 wait:∀(i:Nat) (o:Oper),ops[i]? = some o→m≤i→∀k,k<m→∃e∈o.after.toList,Region.binds .any e=true∧e.on=k
theorem K3{ops:Array Oper}{m:Nat}(h:aas ops m=true):ahD ops m:=by
 have key:∀(i:Nat) (o:Oper),ops[i]? = some o→(o.after.toList.all fun e=>!Region.binds .any e || Nat.blt e.on i)=true∧(match o.guard with | none=>true | some (j,_)=>Nat.blt j i)=true∧
   (Nat.blt i m || ((List.range m).all fun k=>o.after.toList.any fun e=>Region.binds .any e&&Nat.beq e.on k))=true:=fun i o ho=>by
  have hi:i<ops.size:=(aAP.1 ho).1;have:=azU.1 h i (by grind);rw[ho]at this;simp only[azF]at this;exact⟨this.1.1,this.1.2,this.2⟩
 refine⟨fun i o ho e he hb=>?_,fun i o ho j want hg=>?_,fun i o ho hm k hk=>?_⟩
 ·have:=azU.1 (key i o ho).1 e he
  simp_all
 ·have:=(key i o ho).2.1
  simp_all
 ·have:=(key i o ho).2.2
  have hnb:Nat.blt i m=false:=by
   cases hb:Nat.blt i m with
   | false=>rfl
   | true=>have:i<m:=(by simp_all);omega
  rw[hnb,aBL]at this;obtain⟨e,he,h2⟩:=aBm.1 (azU.1 this k (by grind));obtain⟨h3,h4⟩:=aAk.1 h2;exact⟨e,he,h3,azV h4⟩
def ext(L:Array Bool)(t:Nat):Array Bool:=L++Array.replicate t false
theorem NF{L:Array Bool}{t i:Nat}(h:i<L.size)(d:Bool):(ext L t).getD i d=L.getD i d:=by
 unfold ext;rw[aAw,aAw,aAZ h]
theorem agS{L:Array Bool}{t i:Nat}(h:i<L.size):(ext L t).setIfInBounds i true=ext (L.setIfInBounds i true) t:=by
 apply aB2;intro k;unfold ext;grind
def open_(L:Array Bool):Nat:=L.toList.countP (fun b=>!b)
theorem XU{L:Array Bool}{i:Nat}(h:i<L.size)(hf:L.getD i true=false):open_ (L.setIfInBounds i true)+1=open_ L:=by
 unfold open_;have hl:L.toList[i]? = some false:=by
  simp_all
 grind
theorem Tt{L:Array Bool}(h:open_ L=0)(t:Nat):ext L t=flags (L.size+t) L.size:=by
 unfold open_ at h;rw[List.countP_eq_zero]at h;have e:L.toList=List.replicate L.size true:=by
  rw[List.eq_replicate_iff];grind
 apply aA3;unfold ext flags;simp_all
theorem Tu{L:Array Bool}:0<open_ L→∃i,i<L.size∧L.getD i true=false∧∀k,k<i→L.getD k false=true:=by
 intro h;have hex:∃i,i<L.size∧L.getD i true=false:=by
  unfold open_ at h;obtain⟨b,hb,h2⟩:=List.countP_pos_iff.1 h;obtain⟨i,hi⟩:=aAr hb;have nB:i<L.size:=by grind
  refine⟨i,nB,?_⟩;simp_all
 have:∀n,(∃i,i<n∧i<L.size∧L.getD i true=false)→∃i,i<L.size∧L.getD i true=false∧∀k,k<i→L.getD k false=true:=by
  intro n;induction n with
  | zero=>grind
  | succ n ih=>
   rintro⟨i,hi,h1,h2⟩;by_cases hx:∃i,i<n∧i<L.size∧L.getD i true=false
   all_goals grind
 obtain⟨i,h1,h2⟩:=hex;exact this (i+1) ⟨i,by omega,h1,h2⟩
theorem Tg{ops:Array Oper}{m t:Nat}(B:ahD ops m)(hs:ops.size=m+t){L:Array Bool}(hL:L.size=m)(ho:0<open_ L):
  Region.ready .any ops (ext L t)=Region.ready .any (iJ m ops) L∧Region.ready .any (iJ m ops) L ≠ []:=by
 have same:∀i,i<m→((ops[i]?).map (·.after.all fun e=>!Region.binds .any e || (ext L t).getD e.on false)).getD false=(((iJ m ops)[i]?).map (·.after.all fun e=>!Region.binds .any e || L.getD e.on false)).getD false:=fun i hi=>by
  rw[u5 hi];cases hx:ops[i]? with
  | none=>rfl
  | some o=>
   simp only[az7,aAK];rw[← aCe,← aCe,aBM,azU,azU];have Nk:∀e∈o.after.toList,(!Region.binds .any e || (ext L t).getD e.on false)=(!Region.binds .any e || L.getD e.on false):=fun e he=>by
    cases hb:Region.binds .any e with
    | false=>rfl
    | true=>rw[NF (by have:=B.on i o hx e he hb;omega)]
   grind
 obtain⟨i0,hi0,hf0,atK⟩:=Tu ho;constructor
 ·unfold Region.ready
  rw[hs,ru (by omega),List.range_add,aB3];have h2:((List.range t).map (m + ·)).filter (fun i=>!(ext L t).getD i true&&((ops[i]?).map (·.after.all fun e=>!Region.binds .any e || (ext L t).getD e.on false)).getD false)=[]:=by
   rw[aCd];intro i hi hc;obtain⟨k,hk,rfl⟩:=az4.1 hi;have hk:k<t:=by grind
   have hx:ops[m+k]? = some (ops[m+k]'(by omega)):=aAL _;obtain⟨_,h3⟩:=aAk.1 hc;rw[hx]at h3;simp only[az7,aAK]at h3;obtain⟨e,he,hb,hon⟩:=B.wait _ _ hx (by omega) i0 (by omega);rw[← aCe]at h3;have:=azU.1 h3 e he;rw[hb,hon,NF hi0]at this;grind
  rw[h2,aAc];apply List.filter_congr;intro i hi;have hi:i<m:=by grind
  rw[same i hi,NF (by omega)]
 ·intro h
  unfold Region.ready at h;rw[ru (by omega),aCd]at h;refine h i0 (by grind) ?_;rw[hf0,aBh,azP,u5 (by omega)];have hx:ops[i0]? = some (ops[i0]'(by omega)):=aAL _;rw[hx];simp only[az7,aAK];rw[← aCe,azU];intro e he;cases hb:Region.binds .any e with
  | false=>rfl
  | true=>rw[atK _ (B.on _ _ hx e he hb)];rfl
theorem agK{ops:Array Oper}{m:Nat}(B:ahD ops m){i:Nat}{o:Oper}(ho:ops[i]? = some o)(hi:i<m)(s:St):Ge (iJ m ops) o s=Ge ops o s:=by
 unfold Ge;cases hg:o.guard with
 | none=>rfl
 | some q=>
  obtain⟨j,want⟩:=q;have:=B.guard i o ho j want hg;grind[u5]
theorem qd{ops:Array Oper}{m t:Nat}(B:ahD ops m)(hs:ops.size=m+t){Φ:St→Prop}{Q':Exit→Act→World→Prop}(hQ:∀s a w,Φ s→RR w0 I A0 n s a w→wpAny P .any ops Q' t (flags ops.size m) a w):
  ∀(f:Nat) (L:Array Bool) (s:St) (a:Act) (w:World),L.size=m→open_ L=f→DD P n (iJ m ops) Φ f L s→RR w0 I A0 n s a w→wpAny P .any ops Q' (f+t) (ext L t) a w
 | 0,L,s,a,w,hL,ho,h,hR=>by
  rw[Tt ho,hL,← hs,az8];exact hQ s a w h.2 hR
 | f+1,L,s,a,w,hL,ho,h,hR=>by
  obtain⟨r1,r2⟩:=Tg B hs hL (by omega);rw[show f+1+t=(f+t)+1 by omega];refine⟨fun h0=>absurd (r1▸h0) r2,fun i hi=>?_⟩;rw[r1]at hi;have h2:=h.2 i hi;obtain⟨Ke,_⟩:=mem_ready.1 hi;have him:i<m:=by
   grind
  have axj:=XU (L:=L) (i:=i) (by omega) Ke;unfold wpOp;rw[agS (by omega)];rw[u5 him]at h2
  split
  ·grind
  ·rename_i o hx
   rw[hx]at h2;have h2:ec P n (iJ m ops) o (DD P n (iJ m ops) Φ f (L.setIfInBounds i true)) s:=h2;have h3:ec P n ops o (DD P n (iJ m ops) Φ f (L.setIfInBounds i true)) s:=by
    grind[ec,agK]
   exact qg (fun s' a' w' F3 TZ=>qd B hs hQ f _ s' a' w' (by grind) (by omega) F3 TZ) hR h3
theorem Ds{id:Nat}{ops:Array Oper}{m:Nat}{perm:List (Nat×List Nat)}{ks:List (Nat×Nat)}{Φ:St→Prop}{Q':Exit→Act→World→Prop}(hm:P.follows .mixedOrders=true)(ht:Ml ops m=true)(hr:ox (iJ m ops) perm ks=true)
  (hQ:∀s a w,Φ s→RR w0 I A0 n s a w→wpList P ops Q' (ops.toList.drop m) a w)
  {s:St} {a:Act} {w:World} (hR:RR w0 I A0 n s a w) (h:Jz P n (iJ m ops) Φ perm (s.kill (KI ks))):(Code.region id ops true).wp P Q' a w:=by
 unfold Ml at ht;cases hb:Nat.beq m ops.size with
 | true=>
  have:=azV hb;subst this;rw[Z3]at hr h;refine FJ hm hr (fun s a w hs TZ=>?_) hR h;have h1:=hQ s a w hs TZ;rw[aBK (by simp)]at h1;exact h1
 | false=>
  rw[hb,aBL]at ht;simp only[azF]at ht;have B:=K3 ht.1.1;have hle:m≤ops.size:=by simp_all
  obtain⟨t,ht2⟩:∃t,ops.size=m+t:=⟨ops.size-m,by omega⟩;simp only[ox,azF]at hr;obtain⟨Ki,hks⟩:=hr;simp only[NK,azF,aAO]at Ki;obtain⟨⟨hD,hlen⟩,alZ⟩:=Ki;refine wp_region_any hm ?_;obtain⟨β,A,R⟩:=hR;obtain⟨R2,aO⟩:=(R.drew (w.drawn+1)).P2 (KI ks);have Zi:wo (Kp (iJ m ops) (Array.replicate (iJ m ops).size false)) (s.kill (KI ks)):=aO.mono fun p hp=>by
   obtain⟨i,o,ho,_,hd⟩:=CV.1 hp;rw[Array.all_eq_true]at hks;have bO:i<(iJ m ops).size:=by
    grind
   grind[iJ,KI]
  have dO:=ru hle;have h9:=qd B ht2 (fun s' a' w' F3 TZ=>EB ht.1.2 t m a' w' (azJ _) ht2 (hQ s' a' w' F3 TZ)) m (Array.replicate (iJ m ops).size false) _ _ _ (by simp[dO]) (by simp[open_,dO,List.countP_replicate]) (by
   grind[AW]) ⟨_,_,R2⟩
  have e:ext (Array.replicate (iJ m ops).size false) t=Array.replicate ops.size false:=by
   apply aA3;simp[ext,dO,ht2]
  grind
end
end Go.AL
