/- AI. -/
import Derived.Test.YtfggefeflojnkaaGreatEg2
namespace Go.AL
theorem Tr(u r:Rg):overlaps (u,r)=overlaps (r,u):=by
 grind[overlaps,valid]
theorem EA{a b:Rg}(h:contains (a,b)=true):valid a=true∧valid b=true∧a.1≤b.1∧b.1+p2 b.2≤a.1+p2 a.2:=by
 simp only[contains,azF,azM]at h;obtain⟨h1,h2,h3,h4⟩:=h;simp only[kd,h1,h2,azH]at h4;grind
theorem ta{a b:Rg}(h1:valid a=true)(h2:valid b=true)(h3:a.1≤b.1)(h4:b.1+p2 b.2≤a.1+p2 a.2):contains (a,b)=true:=by
 grind[contains,kd]
theorem ao6{j k:Int}(hj:0≤j)(h:j<k):p2 j<p2 k:=by
 have h1:=afK hj;have h2:=FL (show j+1≤k by omega);have h3:=eZ j;omega
theorem Tq{j k:Int}(hk:0≤k)(h:p2 j≤p2 k):j≤k:=by
 by_cases h':j≤k
 ·exact h'
 ·have:=ao6 hk (by omega:k<j);omega
theorem Ug{a:Rg}(h:valid a=true):contains (a,a)=true:=ta h h (aBl _) (aBl _)
theorem B2{a b c:Rg}(h:contains (a,b)=true)(h':contains (b,c)=true):contains (a,c)=true:=by
 grind[EA,ta]
theorem Ts{a b:Rg}(h:overlaps (a,b)=true):valid a=true∧valid b=true∧a.1<b.1+p2 b.2∧b.1<a.1+p2 a.2:=by
 simp only[overlaps,azF,azM]at h;obtain⟨h1,h2,h3,h4⟩:=h;simp only[kd,h1,h2,azH]at h3 h4;grind
theorem xE{r:Rg}(h1:6≤r.2)(h2:r.2≤40)(h3:0≤r.1)(h4:Int.tmod r.1 (p2 r.2)=0)(h5:r.1+p2 r.2≤1099511627776):valid r=true:=by
 grind[valid]
theorem tmod_zero{a s:Int}(h:∃m,a=m*s):Int.tmod a s=0:=by
 obtain⟨m,rfl⟩:=h;simp_all
theorem cT(n:Int){s:Int}(h:0<s):0≤place (n,s)∧place (n,s)<s:=⟨kY n s,oz n h⟩
theorem Yr{m k t:Int}(hk:6≤k)(hkt:k≤t)(ht:t≤40)(hm:0≤m)(hm':m<p2 (t-k)):valid (m*p2 k,k)=true∧m*p2 k+p2 k≤p2 t:=by
 have h1:(m+1)*p2 k≤p2 (t-k)*p2 k:=aB5 (by omega) (aAV (eZ k));have h2:p2 (t-k)*p2 k=p2 t:=by rw[← MO (by omega) (by omega)];grind
 have h3:=mj ht;rw[aBQ,Int.one_mul,h2]at h1;have h4:0≤m*p2 k:=aBR hm (aAV (eZ k));exact⟨xE hk (by grind) h4 (tmod_zero ⟨m,rfl⟩) (by grind),h1⟩
theorem Jv(a:Int×Int):valid (small a)=true:=by
 have h:=cT a.2 (s:=11) (by omega);exact(Yr (t:=16) (by omega) (by omega) (by omega) (kY _ _) (oz _ (eZ _))).1
theorem wO(a b:aj):cw (a,b)=true↔a.1<b.1∨(a.1=b.1∧(a.2.1<b.2.1∨(a.2.1=b.2.1∧a.2.2<b.2.2))):=by
 grind[cw]
theorem im(a:aj):cw (a,a)=false:=by
 grind[cw,wO]
theorem jG{a b c:aj}(h1:cw (a,b)=true)(h2:cw (b,c)=true):cw (a,c)=true:=by
 grind[wO]
theorem mn{a b:aj}(h:cw (a,b)=false)(dU:a ≠ b):cw (b,a)=true:=by
 grind[cw,wO]
theorem BA{a b:aj}(h1:cw (a,b)=true):cw (b,a)=false:=by
 grind[cw,jG,im]
theorem fR{α:Type}{p:α→Bool}:∀{l:List α} {k:Int},0≤k→((∀x∈l,p x=false)↔bu p l k = -1)
 | [],k,h=>by simp[bu]
 | u::r,k,h=>by
  have ih:=fR (p:=p) (l:=r) (k:=k+1) (by omega);simp only[bu,azW,forall_eq_or_imp];grind
theorem s8{α:Type}{p:α→Bool}:∀{l:List α} {k:Int},0≤k→0≤bu p l k→∃j x,bu p l k=k+(j:Nat)∧l[j]? = some x∧p x=true∧∀i,i<j→∀y,l[i]? = some y→p y=false
 | [],k,h,h2=>by grind[bu]
 | u::r,k,h,h2=>by
  simp only[bu]at h2 ⊢;cases hp:p u
  ·rw[hp]at h2
   simp only[azI]at h2 ⊢;obtain⟨j,x,e1,e2,e3,e4⟩:=s8 (p:=p) (l:=r) (k:=k+1) (by omega) h2;refine⟨j+1,x,by rw[e1];omega,by simpa using e2,e3,fun i hi y hy=>?_⟩;grind
  ·exact⟨0,u,by simp,rfl,hp,fun i hi=>by omega⟩
theorem uT{α:Type}{p:α→Bool}{l:List α}{k:Int}(hk:0≤k):0≤bu p l k∨bu p l k = -1:=by
 by_cases h:∀x∈l,p x=false
 ·grind[fR]
 ·have:¬ bu p l k = -1:=fun e=>h ((fR hk).2 e)
  left;induction l generalizing k with
  | nil=>simp at h
  | cons u r ih=>
   simp only[bu]at this ⊢;grind
theorem Eu{α:Type}{p:α→Bool}{l:List α}(h:decide (bu p l 0≥0)=false):∀x∈l,p x=false:=by
 grind[fR,uT]
theorem T6{l:List ag}{id:aj}(h:decide (dV l id≥0)=false):∀e∈l,fv e ≠ id:=fun e he=>by
 have:=Eu h e he;grind
theorem ahi{l:List ag}{c s:Int}(h:decide (atE l c s≥0)=false):∀e∈l,¬ (e.1=c∧e.2.1=s):=fun e he=>by
 have:=Eu h e he;grind
def anc(p e:ag):Prop:=∀k,(lF e)[k]? = some (fv p)→lF p=(lF e).take k∧contains (JF p,JF e)=true∧((gb p).1=1∨rQ (gb p,gb e)=true)
structure Vf (m:Int) (l:List ag):Prop where
 node:∀e∈l,gG e.2.2=true
 cs:∀e∈l,(0≤e.1∧e.1<4)∧(0≤e.2.1∧e.2.1<64)
 sorted:l.Pairwise (fun a b=>cw (fv a,fv b)=true)
 au:∀a∈l,∀b∈l,a.1=b.1→a.2.1=b.2.1→a=b
 amS:∀a∈l,∀b∈l,sw (gb a,gb b)=true
 anc:∀p∈l,∀e∈l,anc p e
 ops:∀e∈l,(fv e).2.1≤m∧∀q∈lF e,q.2.1≤m
 idc:∀e∈l,(fv e).1=e.1
theorem Vf.mono{m n:Int}{l:List ag}(h:Vf m l)(Qh:m≤n):Vf n l:=
 ⟨h.node,h.cs,h.sorted,h.au,h.amS,h.anc,fun e he=>⟨Int.le_trans (h.ops e he).1 Qh,fun q hq=>Int.le_trans ((h.ops e he).2 q hq) Qh⟩,h.idc⟩
theorem Vf.nil(m:Int):Vf m []:=⟨by simp,by simp,.nil,by simp,by simp,by simp,by simp,by simp⟩
theorem Vf.path{m:Int}{l:List ag}(h:Vf m l){e:ag}(he:e∈l):(lF e).length≤8:=wB (h.node e he)
theorem cU{e x:ag}:∀{l:List ag},x∈oK e l↔x=e∨x∈l
 | []=>by simp[oK]
 | u::r=>by
  simp only[oK];cases cw (fv e,fv u)
  ·simp only[azI,azW,cU (l:=r)]
   grind
  ·simp
theorem BD(e:ag):∀l:List ag,(oK e l).length=l.length+1
 | []=>rfl
 | u::r=>by simp only[oK];cases cw (fv e,fv u)<;>simp[BD e r]
theorem xG{e:ag}:∀{l:List ag},l.Pairwise (fun a b=>cw (fv a,fv b)=true)→(∀x∈l,fv x ≠ fv e)→(oK e l).Pairwise (fun a b=>cw (fv a,fv b)=true)
 | [],_,_=>by simp[oK]
 | u::r,h,hn=>by
  rw[aAq]at h;simp only[oK];cases hl:cw (fv e,fv u)
  ·simp only[azI,aAq]
   refine⟨fun x hx=>?_,xG h.2 (fun x hx=>hn x (az6 _ hx))⟩;rcases cU.1 hx with rfl | hx
   ·exact mn hl (fun e=>hn u (az1 ..) e.symm)
   grind
  ·simp only[azH,aAq]
   grind[jG]
theorem oh(a b:bP):rQ (a,b)=true↔a.1=b.1∧a.2.1=b.2.1∧a.2.2.1=b.2.2.1∧a.2.2.2.2.1=b.2.2.2.2.1∧a.2.2.2.2.2.1=b.2.2.2.2.2.1∧a.2.2.2.2.2.2=b.2.2.2.2.2.2:=by
 simp[rQ]
theorem W7(a:bP):rQ (a,a)=true:=(oh a a).2 ⟨rfl,rfl,rfl,rfl,rfl,rfl⟩
theorem W6{a b:bP}(h:rQ (a,b)=true):rQ (b,a)=true:=by
 grind[oh]
theorem DN{a b c:bP}(h:rQ (a,b)=true)(h':rQ (b,c)=true):rQ (a,c)=true:=by
 grind[oh]
theorem Mp{a b:bP}(h:rQ (a,b)=true):nV a=nV b∧a.1=b.1:=by
 rw[oh]at h;exact⟨Prod.ext h.2.1 h.2.2.1,h.1⟩
theorem gO(a b:bP):sw (a,b)=true↔overlaps (nV a,nV b)=false∨rQ (a,b)=true∨(a.1=1∧contains (nV a,nV b)=true)∨(b.1=1∧contains (nV b,nV a)=true):=by
 show(!overlaps (nV a,nV b) || (rQ (a,b) || ((decide (a.1=1)&&contains (nV a,nV b)) || (decide (b.1=1)&&contains (nV b,nV a)))))=true↔_;simp
theorem Uh{a b:bP}(h:sw (a,b)=true):sw (b,a)=true:=by
 grind[gO,Tr,W6]
theorem aaf{a b c:bP}(h:sw (a,b)=true)(hs:rQ (b,c)=true):sw (a,c)=true:=by
 grind[Mp,gO,DN]
theorem Ui(a:bP):sw (a,a)=true:=(gO a a).2 (.inr (.inl (W7 a)))
theorem IA{c:bP}(h:cQ c=true):valid (nV c)=true:=(sC h).2.2
theorem ji(n:cu):gG n=true↔fX (jm n)=true∧cQ (MZ n)=true∧(aZ n).length≤8∧(∀q∈aZ n,fX q=true)∧(aZ n).Nodup∧jm n∉aZ n:=by
 simp only[gG,azF,azM,azU,aAi,Br];rw[wC _ _ List.nodup_nil,aAs]
theorem Vf.ins{m m':Int}{l:List ag}(h:Vf m l){e:ag}(hm:m≤m')(hn:gG e.2.2=true)(hc:(0≤e.1∧e.1<4)∧(0≤e.2.1∧e.2.1<64))(bf:∀x∈l,fv x ≠ fv e)(Nh:∀x∈l,¬ (x.1=e.1∧x.2.1=e.2.1))
  (hco:∀x∈l,sw (gb x,gb e)=true) (ha:∀p∈l,Go.AL.anc p e) (hnp:∀x∈l,fv e∉lF x) (ho:(fv e).2.1≤m'∧∀q∈lF e,q.2.1≤m') (hic:(fv e).1=e.1):Vf m' (oK e l):=by
 have h0:=h.mono hm;refine⟨fun x hx=>?_,fun x hx=>?_,xG h.sorted bf,fun a ha b hb h1 h2=>?_,fun a ha b hb=>?_,fun p hp x hx=>?_,fun x hx=>?_,fun x hx=>?_⟩
 ·rcases cU.1 hx with rfl | hx
  ·exact hn
  ·exact h.node x hx
 ·rcases cU.1 hx with rfl | hx
  ·exact hc
  ·exact h.cs x hx
 ·rcases cU.1 ha with ea | ha2
  ·rcases cU.1 hb with eb | nC
   all_goals grind
  ·rcases cU.1 hb with eb | nC
   ·grind
   ·exact h.au a ha2 b nC h1 h2
 ·rcases cU.1 ha with ea | ha2
  ·rcases cU.1 hb with eb | nC
   all_goals grind[Ui,Uh]
  ·rcases cU.1 hb with eb | nC
   ·grind
   ·exact h.amS a ha2 b nC
 ·rcases cU.1 hx with ex | zu
  ·rcases cU.1 hp with ep | Kj
   ·intro k hk
    rw[ex,ep]at hk;exact absurd (azO hk) ((ji e.2.2).1 hn).2.2.2.2.2
   grind
  ·rcases cU.1 hp with ep | Kj
   ·intro k hk
    grind
   ·exact h.anc p Kj x zu
 ·rcases cU.1 hx with rfl | hx
  ·exact ho
  ·exact h0.ops x hx
 ·rcases cU.1 hx with rfl | hx
  ·exact hic
  ·exact h.idc x hx
theorem ov(src:bP)(ob bits wid kE off:Int):∀(n k:Nat) (c:bP),c∈eN src ob bits wid kE off n k→∃j:Nat,k≤j∧j<k+n∧c=(ob,src.2.1+off+(j:Int)*p2 bits,bits,src.2.2.2.1,wid,kE,src.2.2.2.2.2.2)
 | 0,k,c,h=>by grind[eN]
 | n+1,k,c,h=>by
  simp only[eN,azW]at h;rcases h with rfl | h
  ·grind
  ·obtain⟨j,h1,h2,h3⟩:=ov src ob bits wid kE off n (k+1) c h
   grind
theorem xK(src:bP)(ob bits wid kE off:Int):∀(n k:Nat),(eN src ob bits wid kE off n k).length=n
 | 0,k=>rfl
 | n+1,k=>by simp[eN,xK src ob bits wid kE off n]
theorem sj(src:bP)(ob bits wid kE off:Int):∀(n k:Nat),(eN src ob bits wid kE off n k).Pairwise (fun a b=>overlaps (nV a,nV b)=false)
 | 0,k=>.nil
 | n+1,k=>by
  simp only[eN,aAq];refine⟨fun c hc=>?_,sj src ob bits wid kE off n (k+1)⟩;obtain⟨j,h1,h2,rfl⟩:=ov src ob bits wid kE off n (k+1) c hc;cases ho:overlaps (nV (ob,src.2.1+off+(k:Int)*p2 bits,bits,src.2.2.2.1,wid,kE,src.2.2.2.2.2.2),nV (ob,src.2.1+off+(j:Int)*p2 bits,bits,src.2.2.2.1,wid,kE,src.2.2.2.2.2.2))with
  | false=>rfl
  | true=>
   have h:=(Ts ho).2.2.2;simp only[nV]at h;have h3:((k:Int)+1)*p2 bits≤(j:Int)*p2 bits:=aB5 (by omega) (aAV (eZ _));grind
structure aiR (src:bP) (l:List bP):Prop where
 asz:src.1=1
 len:l.length≤8
 aw:∀c∈l,cQ c=true∧contains (nV src,nV c)=true
 apart:l.Pairwise (fun a b=>overlaps (nV a,nV b)=false)
theorem Fp{a s m j:Int}(h:a=m*s):Int.tmod (a+j*s) s=0:=by
 rw[h,← aBQ];simp_all
theorem Jo{a s:Int}(h:Int.tmod a s=0):∃m,a=m*s:=⟨Int.tdiv a s,by have:=Int.mul_tdiv_add_tmod a s;rw[h,Int.add_zero,Int.mul_comm]at this;exact this.symm⟩
theorem afz{src:bP}{ob bits kE wid off jc:Int}(h:(j9 (src,ob,bits,kE,wid,off,jc)).2=0):aiR src (j9 (src,ob,bits,kE,wid,off,jc)).1:=by
 simp only[j9]at h ⊢;cases h1:(!cQ src || !decide (src.1=1))
 case true=>grind
 cases h2:anf src.2.2.2.1
 case true=>grind
 cases h3:(!sK (ob,bits) || (decide (ob=3)&&!sW (wid,kE) || (decide (jc<1) || (decide (jc>8) || decide (off<0)))))
 case true=>grind
 cases h4:(src.2.2.2.2.2.2&&(!decide (ob=1)&&!decide (ob=2)))
 case true=>grind
 cases h5:(!decide (Int.tmod off (p2 bits)=0) || (decide (off>p2 src.2.2.1) || (decide (jc*p2 bits>p2 src.2.2.1-off) || decide (ob=1)&&decide (bits≥src.2.2.1))))
 case true=>grind
 simp only[azI];simp only[aCb,aBG,azM,aB6,Bool.and_eq_false_imp]at h1 h3 h4 h5;obtain⟨hv,hk⟩:=h1;obtain⟨hs,atO,hc1,hc8,ho⟩:=h3;obtain⟨hm,ho2,dO,_⟩:=h5;obtain⟨b1,b2⟩:=DO hs;obtain⟨c1,c2,c3⟩:=sC hv;obtain⟨_,_,d1,dm,d2⟩:=gI c3
 dsimp only at d1 dm d2
 have q1:=eZ bits;have hvc:=hv;simp only[cQ,azF,azM]at hvc;refine⟨hk,by rw[xK];omega,fun c hc=>?_,sj ..⟩;obtain⟨j,h1,h2,rfl⟩:=ov _ _ _ _ _ _ _ _ c hc;have e1:((j:Int)+1)*p2 bits≤jc*p2 bits:=aB5 (by omega) (by omega);have e2:0≤(j:Int)*p2 bits:=aBR (by omega) (by omega);rw[aBQ]at e1;have hle:p2 bits≤p2 src.2.2.1:=by omega
 have hb:bits≤src.2.2.1:=Tq (by omega) hle;have hva:valid (src.2.1+off+(j:Int)*p2 bits,bits)=true:=by
  refine xE b1 b2 (show 0≤src.2.1+off+(j:Int)*p2 bits by omega) ?_ (show src.2.1+off+(j:Int)*p2 bits+p2 bits≤1099511627776 by omega);obtain⟨m1,TS⟩:=Jo dm;obtain⟨m2,hm2⟩:=Jo hm;show Int.tmod (src.2.1+off+(j:Int)*p2 bits) (p2 bits)=0;have e3:p2 src.2.2.1=p2 (src.2.2.1-bits)*p2 bits:=by rw[← MO (by omega) (by omega)];grind
  refine Fp (m:=m1*p2 (src.2.2.1-bits)+m2) ?_;grind
 refine⟨?_,ta c3 hva (show src.2.1≤src.2.1+off+(j:Int)*p2 bits by omega) (show src.2.1+off+(j:Int)*p2 bits+p2 bits≤src.2.1+p2 src.2.2.1 by omega)⟩;simp only[cQ,azF,azM];grind
