/- By an AI agent. -/
import Derived.Test.YtfggefeflojnkaaGreatA0
set_option linter.unusedSimpArgs false
set_option linter.unusedVariables false
namespace Go.AL
section
variable {α:Type} {lt:α→α→Bool}
structure qE (lt:α→α→Bool):Prop where
 asymm:∀a b,lt a b=true→lt b a=false
 ntrans:∀a b c,lt b a=false→lt c b=false→lt c a=false
theorem qE.irrefl(O:qE lt)(a:α):lt a a=false:=by
 cases h:lt a a
 ·rfl
 ·have:=O.asymm a a h;rw[h]at this;cases this
theorem qE.akH(O:qE lt){a b c:α}(h1:lt a b=true)(h2:lt c b=false):lt a c=true:=by
 cases h:lt a c
 ·have:=O.ntrans b c a h2 h;rw[h1]at this;cases this
 ·rfl
theorem qE.akJ(O:qE lt){a b c:α}(h1:lt b a=false)(h2:lt b c=true):lt a c=true:=by
 cases h:lt a c
 ·have:=O.ntrans c a b h h1;rw[h2]at this;cases this
 ·rfl
def cO(lt:α→α→Bool)(s:List α):Prop:=s.Pairwise (fun a b=>lt b a=false)
def bH(lt:α→α→Bool)(x:α):List α→List α
 | []=>[x]
 | y::r=>bif lt x y then x::y::r else y::bH lt x r
def cb(lt:α→α→Bool)(l:List α):List α:=l.foldl (fun s x=>bH lt x s) []
def fO(lt:α→α→Bool):List α→List α→List α
 | [],v=>v
 | u,[]=>u
 | a::u,b::v=>bif lt b a then b::fO lt (a::u) v else a::fO lt u (b::v)
termination_by u v=>u.length+v.length
theorem fe(u:List α):fO lt u []=u:=by cases u<;>simp[fO]
theorem fm(v:List α):fO lt [] v=v:=by simp[fO]
theorem dK(a b:α)(u v:List α):fO lt (a::u) (b::v)=bif lt b a then b::fO lt (a::u) v else a::fO lt u (b::v):=by rw[fO]
theorem uJ{x z:α}:∀{s:List α},z∈bH lt x s↔z=x∨z∈s
 | []=>by simp[bH]
 | y::r=>by
  simp only[bH];cases lt x y
  ·simp only[aCq,aCJ,uJ (s:=r)]
   constructor
   ·rintro(h | h | h)
    ·exact .inr (.inl h)
    ·exact .inl h
    ·exact .inr (.inr h)
   ·rintro(h | h | h)
    ·exact .inr (.inl h)
    ·exact .inl h
    ·exact .inr (.inr h)
  ·simp
theorem gY(x:α):∀s:List α,(bH lt x s).length=s.length+1
 | []=>rfl
 | y::r=>by simp only[bH];cases lt x y<;>simp[gY x r]
theorem DC(x:α):∀s:List α,(bH lt x s).Perm (x::s)
 | []=>.refl _
 | y::r=>by
  simp only[bH];cases lt x y
  ·exact((DC x r).cons y).trans (.swap x y r)
  ·exact .refl _
theorem gh(O:qE lt){x:α}:∀{s:List α},cO lt s→cO lt (bH lt x s)
 | [],_=>by simp[bH,cO]
 | y::r,h=>by
  have h':=aDk.1 h;simp only[bH];cases hx:lt x y
  ·refine aDk.2 ⟨fun z hz=>?_,gh O h'.2⟩
   rcases uJ.1 hz with rfl | hz
   ·exact hx
   ·exact h'.1 z hz
  ·refine aDk.2 ⟨fun z hz=>?_,h⟩
   rcases aCJ.1 hz with rfl | hz
   ·exact O.asymm _ _ hx
   ·exact O.ntrans x y z (O.asymm _ _ hx) (h'.1 z hz)
theorem tw(O:qE lt):∀(l s:List α),cO lt s→cO lt (l.foldl (fun s x=>bH lt x s) s)
 | [],s,h=>h
 | x::l,s,h=>tw O l _ (gh O h)
theorem jk(O:qE lt)(l:List α):cO lt (cb lt l):=tw O l [] .nil
theorem Bn:∀(l s:List α),(l.foldl (fun s x=>bH lt x s) s).Perm (s++l)
 | [],s=>by simp
 | x::l,s=>(Bn l _).trans (((DC x s).append_right l).trans (by
   show(x::(s++l)).Perm (s++x::l);exact List.perm_middle.symm))
theorem lz(l:List α):(cb lt l).Perm l:=Bn (lt:=lt) l []
theorem bt(l:List α):(cb lt l).length=l.length:=(lz l).length_eq
theorem uK:∀(u v:List α),(fO lt u v).length=u.length+v.length
 | [],v=>by simp[fm]
 | a::u,[]=>by simp[fe]
 | a::u,b::v=>by
  rw[dK];cases lt b a
  ·simp only[aCq,aCv,uK u (b::v)];omega
  ·simp only[aCn,aCv,uK (a::u) v];omega
termination_by u v=>u.length+v.length
theorem uI(O:qE lt)(x:α):∀(s t:List α),cO lt s→cO lt t→fO lt s (bH lt x t)=bH lt x (fO lt s t)
 | [],t,_,_=>by simp[fm]
 | a::s,[],hs,_=>by
  rw[fe];simp only[bH,dK,fe];cases hx:lt x a
  ·have:=uI O x s [] (aDk.1 hs).2 .nil
   simp only[bH,fe]at this;simp only[aCq,this]
  ·rfl
 | a::s,b::t,hs,ht=>by
  have FD:=aDk.1 hs;have ht':=aDk.1 ht;have i1:=uI O x s (b::t) FD.2 ht;have i2:=uI O x (a::s) t hs ht'.2;cases hxb:lt x b
  ·have e:bH lt x (b::t)=b::bH lt x t:=by simp[bH,hxb]
   rw[e]at i1 ⊢;rw[dK,dK];cases hba:lt b a
   ·have Ra:lt x a=false:=O.ntrans a b x hba hxb
    simp only[aCq,bH,Ra,i1]
   ·simp only[aCn,bH,hxb,aCq,i2]
  ·have e:bH lt x (b::t)=x::b::t:=by simp[bH,hxb]
   rw[e]at i1 ⊢;rw[dK (lt:=lt) a x s (b::t),dK a b s t];cases hba:lt b a
   ·cases Ra:lt x a
    ·simp only[aCq,bH,Ra,i1]
    ·simp only[aCq,aCn,bH,Ra,dK,hba]
   ·have Ra:lt x a=true:=by
     cases h:lt x a
     ·have:=O.ntrans b a x (O.asymm _ _ hba) h;rw[hxb]at this;cases this
     ·rfl
    simp only[Ra,aCn,bH,hxb,dK,hba]
termination_by s t=>s.length+t.length
theorem AU(O:qE lt){s:List α}(hs:cO lt s):∀(v t:List α),cO lt t→fO lt s (v.foldl (fun s x=>bH lt x s) t)=v.foldl (fun s x=>bH lt x s) (fO lt s t)
 | [],t,ht=>rfl
 | x::v,t,ht=>by
  simp only[aDH];rw[AU O hs v _ (gh O ht),uI O x s t hs ht]
theorem Kb(O:qE lt)(u v:List α):fO lt (cb lt u) (cb lt v)=cb lt (u++v):=by
 have:=AU O (jk O u) v [] .nil;rw[fe]at this;unfold cb at *;rw[aEG];exact this
theorem eF:∀(u1 v1 u2 v2:List α),(∀p∈u2,∀q∈v1,lt q p=true)→(∀p∈u1,∀q∈v2,lt q p=false)→fO lt (u1++u2) (v1++v2)=fO lt u1 v1++fO lt u2 v2
 | [],[],u2,v2,_,_=>by simp[fm]
 | [],q::v1,[],v2,h1,h2=>by simp[fm]
 | [],q::v1,p::u2,v2,h1,h2=>by
  have i:=eF [] v1 (p::u2) v2 (fun a ha b hb=>h1 a ha b (aCQ _ hb)) h2;simp only[aC1,aDC,fm]at i ⊢;rw[dK,h1 p (aCK ..) q (aCK ..),aCn,i]
 | p::u1,[],u2,[],h1,h2=>by simp[fe]
 | p::u1,[],u2,q::v2,h1,h2=>by
  have i:=eF u1 [] u2 (q::v2) h1 (fun a ha b hb=>h2 a (aCQ _ ha) b hb);simp only[aC1,aDC,fe]at i ⊢;rw[dK,h2 p (aCK ..) q (aCK ..),aCq,i]
 | p::u1,q::v1,u2,v2,h1,h2=>by
  have i1:=eF (p::u1) v1 u2 v2 (fun a ha b hb=>h1 a ha b (aCQ _ hb)) h2;have i2:=eF u1 (q::v1) u2 v2 h1 (fun a ha b hb=>h2 a (aCQ _ ha) b hb);simp only[aDC]at i1 i2 ⊢;rw[dK,dK,i1,i2];cases lt q p<;>rfl
termination_by u1 v1=>u1.length+v1.length
theorem E1{x q y:List α}{p r:α}{i j:Nat}(hi:i=x.length)(hj:j=x.length+1+q.length):((x++p::(q++r::y)).set i r).set j p=x++r::(q++p::y):=by
 subst hi hj;rw[List.set_append_right _ _ (aCt _),aD2,aCR];rw[List.set_append_right _ _ (by omega)]
 congr 1
 rw[show x.length+1+q.length-x.length=q.length+1 by omega,aCS]
 congr 1
 rw[List.set_append_right _ _ (aCt _),aD2,aCR]
theorem uo{x q y:List α}{p r:α}{i j:Nat}(hi:i=x.length)(hj:j=x.length+1+q.length):((x++p::(q++r::y)).set j p).set i r=x++r::(q++p::y):=by
 rw[List.set_comm _ _ (by omega)];exact E1 hi hj
theorem ia{x q y:List α}{p r z:α}{i:Nat}(hi:i=x.length):(x++p::y).getD i z=p:=by
 subst hi;simp
theorem lI{x q y:List α}{p r z:α}{j:Nat}(hj:j=x.length+1+q.length):(x++p::(q++r::y)).getD j z=r:=by
 subst hj;rw[aDB,aCY (by omega),show x.length+1+q.length-x.length=q.length+1 by omega,aDZ,aCY (aCt _),aD2];rfl
end
end Go.AL
