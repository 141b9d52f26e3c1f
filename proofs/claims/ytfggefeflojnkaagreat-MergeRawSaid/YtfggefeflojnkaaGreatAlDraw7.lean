/- By an AI agent. -/
import Derived.Test.YtfggefeflojnkaaGreatAlDraw6
namespace Go.AL
def iC(m:Nat)(ops:Array Oper):Array Oper:=(ops.toList.take m).toArray
def flags(N i:Nat):Array Bool:=(List.replicate i true++List.replicate (N-i) false).toArray
def ace(ops:Array Oper)(m:Nat):Bool:=(List.range ops.size).all fun i=>match ops[i]? with
 | none=>false
 | some o=>(o.after.toList.all fun e=>!Region.binds .any e || Nat.blt e.on i)&&(match o.guard with | none=>true | some (j,_)=>Nat.blt j i)&&
   (Nat.blt i m || ((List.range m).all fun k=>o.after.toList.any fun e=>Region.binds .any e&&Nat.beq e.on k))
def RF(ops:Array Oper)(m:Nat):Bool:=(List.range (ops.size-m)).all fun j=>Region.ready .any ops (flags ops.size (m+j)) == [m+j]
def MM(ops:Array Oper)(m:Nat):Bool:=Nat.beq m ops.size || (ace ops m&&RF ops m&&Nat.ble m ops.size)
section
variable {P:Program} {n:Nat} {w0:World} {I:sy} {A0:Nat→Prop}
theorem NT{N i j:Nat}(hj:j<N)(d:Bool):(flags N i).getD j d=decide (j<i)∨N<i:=by
 by_cases hN:N<i
 ·exact .inr hN
 left;unfold flags;simp only[aDr,aD9];by_cases h:j<i
 ·rw[aC6 (by simpa using h)];simp[h]
 ·rw[aCY (by simp;omega)]
  have:j-i<N-i:=by omega
  simp[h,this]
theorem US{N i:Nat}(h:i<N):(flags N i).setIfInBounds i true=flags N (i+1):=by
 apply aEP;intro k;rw[aDc];unfold flags;simp only[aD9,aDY,aCp,aEY];by_cases hk:i=k
 ·subst hk
  rw[aCr rfl,aCr (by omega),aC6 (by simp)];simp
 ·rw[aCo hk]
  by_cases h1:k<i
  ·rw[aC6 (by simpa using h1),aC6 (by simp;omega)]
   simp[h1,show k<i+1 by omega]
  ·rw[aCY (by simp;omega),aCY (by simp;omega)]
   by_cases h2:k<N
   ·simp[show k-i<N-i by omega,show k-(i+1)<N-(i+1)by omega]
   ·simp[show ¬ k-i<N-i by omega,show ¬ k-(i+1)<N-(i+1)by omega]
theorem D1{ops:Array Oper}{m:Nat}(hc:RF ops m=true){Q:Exit→Act→World→Prop}:∀(t i:Nat) (a:Act) (w:World),m≤i→ops.size=i+t→wpList P ops Q (ops.toList.drop i) a w→wpAny P .any ops Q t (flags ops.size i) a w
 | 0,i,a,w,_,hi,h=>by
  have hi:ops.size=i:=by omega
  rw[aEQ (by simp;omega)]at h;have hr:Region.ready .any ops (flags ops.size i)=[]:=by
   unfold Region.ready;rw[aE2];intro j hj;have hj:j<ops.size:=by simpa using hj
   rcases NT (i:=i) hj true with h1 | h1
   ·rw[h1,aCm (by omega)];simp
   ·omega
  exact⟨hr,h⟩
 | t+1,i,a,w,hm,hi,h=>by
  have oh:i<ops.size:=by omega
  have hr:Region.ready .any ops (flags ops.size i)=[i]:=by
   have:=aCG.1 hc (i-m) (by simp;omega);rw[show m+(i-m)=i by omega]at this;simpa using this
  refine⟨fun h0=>(by rw[hr]at h0;cases h0),fun j hj=>?_⟩;rw[hr]at hj;simp at hj;subst hj;rw[US oh];have hd:ops.toList.drop j=ops[j]::ops.toList.drop (j+1):=by
   rw[aDW (by simpa using oh)];simp
  rw[hd]at h;unfold wpOp;rw[aDL oh];unfold wpList at h;have mono:∀a' w',wpList P ops Q (ops.toList.drop (j+1)) a' w'→wpAny P .any ops Q t (flags ops.size (j+1)) a' w':=fun a' w' h'=>D1 hc t (j+1) a' w' (by omega) (by omega) h'
  simp only
  split
  ·rename_i hw
   simp only[hw,aC5]at h;exact h.imp (Oper.wp_mono mono) id
  ·rename_i hw
   simp only[hw]at h;exact mono _ _ h
theorem vk{m:Nat}{ops:Array Oper}{i:Nat}(h:i<m):(iC m ops)[i]? = ops[i]?:=by
 unfold iC;rw[aD9,aDs,aCr h,aDy]
theorem rW{m:Nat}{ops:Array Oper}(h:m≤ops.size):(iC m ops).size=m:=by simp[iC];omega
theorem abM{ops:Array Oper}:iC ops.size ops=ops:=by
 apply aDV;show List.take ops.size ops.toList=ops.toList;exact aDz (by simp)
structure akh (ops:Array Oper) (m:Nat):Prop where
 on:∀(i:Nat) (o:Oper),ops[i]? = some o→∀e∈o.after.toList,Region.binds .any e=true→e.on<i
 guard:∀(i:Nat) (o:Oper),ops[i]? = some o→∀(j:Nat) (want:Bool),o.guard=some (j,want)→j<i
 wait:∀(i:Nat) (o:Oper),ops[i]? = some o→m≤i→∀k,k<m→∃e∈o.after.toList,Region.binds .any e=true∧e.on=k
theorem Li{ops:Array Oper}{m:Nat}(h:ace ops m=true):akh ops m:=by
 have key:∀(i:Nat) (o:Oper),ops[i]? = some o→(o.after.toList.all fun e=>!Region.binds .any e || Nat.blt e.on i)=true∧(match o.guard with | none=>true | some (j,_)=>Nat.blt j i)=true∧
   (Nat.blt i m || ((List.range m).all fun k=>o.after.toList.any fun e=>Region.binds .any e&&Nat.beq e.on k))=true:=fun i o ho=>by
  have hi:i<ops.size:=(aDJ.1 ho).1;have:=aCG.1 h i (by simpa using hi);rw[ho]at this;simp only[aCs]at this;exact⟨this.1.1,this.1.2,this.2⟩
 refine⟨fun i o ho e he hb=>?_,fun i o ho j want hg=>?_,fun i o ho hm k hk=>?_⟩
 ·have:=aCG.1 (key i o ho).1 e he
  rw[hb]at this;simpa [Nat.blt_eq]using this
 ·have:=(key i o ho).2.1
  rw[hg]at this;simpa [Nat.blt_eq]using this
 ·have:=(key i o ho).2.2
  have hnb:Nat.blt i m=false:=by
   cases hb:Nat.blt i m with
   | false=>rfl
   | true=>have:i<m:=(by simpa [Nat.blt_eq]using hb);omega
  rw[hnb,Bool.false_or]at this;obtain⟨e,he,h2⟩:=aEf.1 (aCG.1 this k (by simpa using hk));obtain⟨h3,h4⟩:=aC7.1 h2;exact⟨e,he,h3,aCI h4⟩
def ext(L:Array Bool)(t:Nat):Array Bool:=L++Array.replicate t false
theorem NV{L:Array Bool}{t i:Nat}(h:i<L.size)(d:Bool):(ext L t).getD i d=L.getD i d:=by
 unfold ext;rw[aDr,aDr,aDX h]
theorem aiI{L:Array Bool}{t i:Nat}(h:i<L.size):(ext L t).setIfInBounds i true=ext (L.setIfInBounds i true) t:=by
 apply aEP;intro k;unfold ext;rw[aDc];by_cases hk:i=k
 ·subst hk
  rw[aCr rfl,aCr (by simp;omega),aDX (by simpa using h),aDc,aCr rfl,aCr h]
 ·rw[aCo hk]
  by_cases h1:k<L.size
  ·rw[aDX h1,aDX (by simpa using h1),aDc,aCo hk]
  ·rw[aEt (by omega),aEt (by simp;omega)]
   simp
def open_(L:Array Bool):Nat:=L.toList.countP (fun b=>!b)
theorem ZS{L:Array Bool}{i:Nat}(h:i<L.size)(hf:L.getD i true=false):open_ (L.setIfInBounds i true)+1=open_ L:=by
 unfold open_;have hl:L.toList[i]? = some false:=by
  rw[aDy,aDL h];rw[aDr,aDL h]at hf;simpa using hf
 rw[aE7];generalize L.toList=l at hl;clear h hf;induction l generalizing i with
 | nil=>simp at hl
 | cons b l ih=>
  cases i with
  | zero=>simp at hl;subst hl;simp
  | succ i=>
   simp only[aCS,List.countP_cons];have:=ih (i:=i) (by simpa using hl);omega
theorem Uj{L:Array Bool}(h:open_ L=0)(t:Nat):ext L t=flags (L.size+t) L.size:=by
 unfold open_ at h;rw[List.countP_eq_zero]at h;have e:L.toList=List.replicate L.size true:=by
  rw[List.eq_replicate_iff];exact⟨by simp,fun b hb=>by have:=h b hb;simpa using this⟩
 apply aDV;unfold ext flags;rw[Array.toList_append,e];simp
theorem Uk{L:Array Bool}:0<open_ L→∃i,i<L.size∧L.getD i true=false∧∀k,k<i→L.getD k false=true:=by
 intro h;have hex:∃i,i<L.size∧L.getD i true=false:=by
  unfold open_ at h;obtain⟨b,hb,h2⟩:=List.countP_pos_iff.1 h;obtain⟨i,hi⟩:=aDf hb;have oh:i<L.size:=by have:=(aCD.1 hi).1;simpa using this
  refine⟨i,oh,?_⟩;rw[aDr];rw[aDy]at hi;rw[hi];simpa using h2
 have:∀n,(∃i,i<n∧i<L.size∧L.getD i true=false)→∃i,i<L.size∧L.getD i true=false∧∀k,k<i→L.getD k false=true:=by
  intro n;induction n with
  | zero=>rintro⟨i,h,_⟩;omega
  | succ n ih=>
   rintro⟨i,hi,h1,h2⟩;by_cases hx:∃i,i<n∧i<L.size∧L.getD i true=false
   ·exact ih hx
   ·refine⟨i,h1,h2,fun k hk=>?_⟩
    have wK:k<L.size:=by omega
    cases hb:L.getD k false with
    | true=>rfl
    | false=>
     refine absurd ⟨k,by omega,wK,?_⟩ hx;rw[aDr,aDL wK]at hb ⊢;exact hb
 obtain⟨i,h1,h2⟩:=hex;exact this (i+1) ⟨i,by omega,h1,h2⟩
theorem Ub{ops:Array Oper}{m t:Nat}(B:akh ops m)(hs:ops.size=m+t){L:Array Bool}(hL:L.size=m)(ho:0<open_ L):
  Region.ready .any ops (ext L t)=Region.ready .any (iC m ops) L∧Region.ready .any (iC m ops) L ≠ []:=by
 have same:∀i,i<m→((ops[i]?).map (·.after.all fun e=>!Region.binds .any e || (ext L t).getD e.on false)).getD false=(((iC m ops)[i]?).map (·.after.all fun e=>!Region.binds .any e || L.getD e.on false)).getD false:=fun i hi=>by
  rw[vk hi];cases hx:ops[i]? with
  | none=>rfl
  | some o=>
   simp only[aCU,aDK];rw[← aE3,← aE3,aDN,aCG,aCG];have aaQ:∀e∈o.after.toList,(!Region.binds .any e || (ext L t).getD e.on false)=(!Region.binds .any e || L.getD e.on false):=fun e he=>by
    cases hb:Region.binds .any e with
    | false=>rfl
    | true=>rw[NV (by have:=B.on i o hx e he hb;omega)]
   constructor
   ·intro h e he;rw[← aaQ e he];exact h e he
   ·intro h e he;rw[aaQ e he];exact h e he
 obtain⟨i0,hi0,hf0,awo⟩:=Uk ho;constructor
 ·unfold Region.ready
  rw[hs,rW (by omega),List.range_add,aER];have h2:((List.range t).map (m + ·)).filter (fun i=>!(ext L t).getD i true&&((ops[i]?).map (·.after.all fun e=>!Region.binds .any e || (ext L t).getD e.on false)).getD false)=[]:=by
   rw[aE2];intro i hi hc;obtain⟨k,hk,rfl⟩:=aCN.1 hi;have hk:k<t:=by simpa using hk
   have hx:ops[m+k]? = some (ops[m+k]'(by omega)):=aDL _;obtain⟨_,h3⟩:=aC7.1 hc;rw[hx]at h3;simp only[aCU,aDK]at h3;obtain⟨e,he,hb,hon⟩:=B.wait _ _ hx (by omega) i0 (by omega);rw[← aE3]at h3;have:=aCG.1 h3 e he;rw[hb,hon,NV hi0]at this;simp only[aEm,Bool.false_or]at this;rw[aDr,aDL hi0]at this hf0;simp at this hf0;rw[this]at hf0;cases hf0
  rw[h2,aCM];apply List.filter_congr;intro i hi;have hi:i<m:=by simpa using hi
  rw[same i hi,NV (by omega)]
 ·intro h
  unfold Region.ready at h;rw[rW (by omega),aE2]at h;refine h i0 (by simpa [hL]using hi0) ?_;rw[hf0,aEi,aCu,vk (by omega)];have hx:ops[i0]? = some (ops[i0]'(by omega)):=aDL _;rw[hx];simp only[aCU,aDK];rw[← aE3,aCG];intro e he;cases hb:Region.binds .any e with
  | false=>rfl
  | true=>rw[awo _ (B.on _ _ hx e he hb)];rfl
theorem aiA{ops:Array Oper}{m:Nat}(B:akh ops m){i:Nat}{o:Oper}(ho:ops[i]? = some o)(hi:i<m)(s:St):FM (iC m ops) o s=FM ops o s:=by
 unfold FM;cases hg:o.guard with
 | none=>rfl
 | some q=>
  obtain⟨j,want⟩:=q;have:=B.guard i o ho j want hg;simp only;rw[vk (by omega)]
theorem qt{ops:Array Oper}{m t:Nat}(B:akh ops m)(hs:ops.size=m+t){Φ:St→Prop}{Q':Exit→Act→World→Prop}(hQ:∀s a w,Φ s→RR w0 I A0 n s a w→wpAny P .any ops Q' t (flags ops.size m) a w):
  ∀(f:Nat) (L:Array Bool) (s:St) (a:Act) (w:World),L.size=m→open_ L=f→C8 P n (iC m ops) Φ f L s→RR w0 I A0 n s a w→wpAny P .any ops Q' (f+t) (ext L t) a w
 | 0,L,s,a,w,hL,ho,h,hR=>by
  rw[Uj ho,hL,← hs,aC0];exact hQ s a w h.2 hR
 | f+1,L,s,a,w,hL,ho,h,hR=>by
  obtain⟨r1,r2⟩:=Ub B hs hL (by omega);rw[show f+1+t=(f+t)+1 by omega];refine⟨fun h0=>absurd (r1▸h0) r2,fun i hi=>?_⟩;rw[r1]at hi;have h2:=h.2 i hi;obtain⟨Ku,_⟩:=mem_ready.1 hi;have him:i<m:=by
   unfold Region.ready at hi;have:=(aEz.1 hi).1;rw[rW (by omega)]at this;simpa using this
  have aib:=ZS (L:=L) (i:=i) (by omega) Ku;unfold wpOp;rw[aiI (by omega)];rw[vk him]at h2
  split
  ·rename_i hn
   rw[hn]at h2;exact qt B hs hQ f _ s a w (by simpa using hL) (by omega) h2 hR
  ·rename_i o hx
   rw[hx]at h2;have h2:ep P n (iC m ops) o (C8 P n (iC m ops) Φ f (L.setIfInBounds i true)) s:=h2;have h3:ep P n ops o (C8 P n (iC m ops) Φ f (L.setIfInBounds i true)) s:=by
    unfold ep at h2 ⊢;rw[aiA B hx him]at h2;exact h2
   exact qu (fun s' a' w' FD UP=>qt B hs hQ f _ s' a' w' (by simpa using hL) (by omega) FD UP) hR h3
theorem CV{id:Nat}{ops:Array Oper}{m:Nat}{perm:List (Nat×List Nat)}{ks:List (Nat×Nat)}{Φ:St→Prop}{Q':Exit→Act→World→Prop}(hm:P.follows .mixedOrders=true)(ht:MM ops m=true)(hr:oO (iC m ops) perm ks=true)
  (hQ:∀s a w,Φ s→RR w0 I A0 n s a w→wpList P ops Q' (ops.toList.drop m) a w)
  {s:St} {a:Act} {w:World} (hR:RR w0 I A0 n s a w) (h:JT P n (iC m ops) Φ perm (s.kill (KI ks))):(Code.region id ops true).wp P Q' a w:=by
 unfold MM at ht;cases hb:Nat.beq m ops.size with
 | true=>
  have:=aCI hb;subst this;rw[abM]at hr h;refine Fi hm hr (fun s a w hs UP=>?_) hR h;have h1:=hQ s a w hs UP;rw[aEQ (by simp)]at h1;exact h1
 | false=>
  rw[hb,Bool.false_or]at ht;simp only[aCs]at ht;have B:=Li ht.1.1;have hle:m≤ops.size:=by have:=ht.2;simpa using this
  obtain⟨t,ht2⟩:∃t,ops.size=m+t:=⟨ops.size-m,by omega⟩;simp only[oO,aCs]at hr;obtain⟨Kw,hks⟩:=hr;simp only[N0,aCs,aDI]at Kw;obtain⟨⟨hD,hlen⟩,aoG⟩:=Kw;refine wp_region_any hm ?_;obtain⟨β,A,R⟩:=hR;obtain⟨R2,aX⟩:=(R.drew (w.drawn+1)).Q2 (KI ks);have aaR:wI (Kp (iC m ops) (Array.replicate (iC m ops).size false)) (s.kill (KI ks)):=aX.mono fun p hp=>by
   obtain⟨i,o,ho,_,hd⟩:=Cc.1 hp;rw[Array.all_eq_true]at hks;have cg:i<(iC m ops).size:=by
    rcases aDA i (iC m ops).size with h | h
    ·exact h
    ·rw[aD1 h]at ho;cases ho
   have h1:=hks i cg;have h2:(iC m ops)[i]=o:=by simpa [cg]using ho
   rw[h2,hd]at h1;simpa [KI]using h1
  have dC:=rW hle;have h9:=qt B ht2 (fun s' a' w' FD UP=>D1 ht.1.2 t m a' w' (aCt _) ht2 (hQ s' a' w' FD UP)) m (Array.replicate (iC m ops).size false) _ _ _ (by simp[dC]) (by simp[open_,dC,List.countP_replicate]) (by
   have:=Au hD perm _ _ aoG aaR h;rw[hlen,dC]at this;rw[dC];exact this) ⟨_,_,R2⟩
  have e:ext (Array.replicate (iC m ops).size false) t=Array.replicate ops.size false:=by
   apply aDV;simp[ext,dC,ht2]
  rw[e,← ht2]at h9;exact h9
end
end Go.AL
