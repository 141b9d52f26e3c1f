/- AI. -/
import Derived.Test.YtfggefeflojnkaaGreatYyb
import Derived.Test.YtfggefeflojnkaaGreatZr
set_option linter.unusedSimpArgs false
set_option linter.unusedVariables false
set_option linter.unusedSectionVars false
namespace Go.AL
open Go.Proofs Go.RowKit
theorem ZI{w':World}{A':Nat→Prop}{h:Nat→Option Ob}{β':Nat→Option Nat}{js:List (Nat×Nat×Nat)}{qR bS:List V}{us:Array Value}{n0:Nat}(k4:∀(i:Nat) (v:V),bS[i]? = some v→OwC h js qR[i]? i v)
  (k5:∀(i:Nat) (x:V),qR[i]? = some x→∃u,us[i]? = some u∧u.oneCell'=true∧bw ⟨w',A',h,β'⟩ x u) (k6:bU ⟨w',A',h,β'⟩) (k9:∀o ob b,h o=some ob→β' o=some b→n0≤b)
  {i ty es:Nat} (iH:i∈js.map (·.1)) (hjs:∀t e,(i,t,e)∈js→t=ty∧e=es) {σ:List Ty} {xs:List (aA σ)} {v:V} (hv:bS[i]? = some v) (ht:eM (.sl σ) xs v) :
  ∃u,us[i]? = some u∧u.oneCell'=true∧(∀g,u.ownBlock=some g→A' g)∧aR w' A' n0 ty es σ xs u:=by
 rcases k4 i v hv with⟨h1,_⟩ | ⟨t,e,rows,h1,rfl,h2⟩
 ·exact absurd iH h1
 obtain⟨rfl,rfl⟩:=hjs t e h1;have hr:bD σ xs rows:=by
  rcases jv.1 ht with⟨_,h3⟩ | ⟨bq,h3,h4⟩
  ·cases h3
  ·cases h3;exact h4
 rcases h2 with⟨h3,rfl⟩ | ⟨p,h3,h4⟩
 ·obtain⟨u,u1,u2,u3⟩:=k5 i _ h3
  have hu:u=.slice none 0 0:=by
   have u3:aY w' A' .nil u:=u3;cases u3;rfl
  subst hu;exact⟨_,u1,u2,(fun g hg=>by cases hg),.inl ⟨rfl,aBs.1 (aJ.len hr)⟩⟩
 ·obtain⟨u,u1,u2,u3⟩:=k5 i _ h3
  obtain⟨g1,g2⟩:=MQ (n0:=n0) h4 k6 (fun b hb=>k9 p _ b h4 hb) (q:=u) (u3 _ h4);exact⟨u,u1,u2,g1,g2 σ xs hr⟩
theorem aqJ{w':World}{A':Nat→Prop}{h:Nat→Option Ob}{β':Nat→Option Nat}{js:List (Nat×Nat×Nat)}{qR bS:List V}{us:Array Value}(k4:∀(i:Nat) (v:V),bS[i]? = some v→OwC h js qR[i]? i v)
  (k5:∀(i:Nat) (x:V),qR[i]? = some x→∃u,us[i]? = some u∧u.oneCell'=true∧bw ⟨w',A',h,β'⟩ x u) {i:Nat} (hjs:∀t e,(i,t,e)∉js) {σ:List Ty} {xs:List (aA σ)} {v:V} (hv:bS[i]? = some v) (ht:eM (.sl σ) xs v):∃u,us[i]? = some u∧Cl w' A' (.sl σ) xs u:=by
 rcases k4 i v hv with⟨_,h1⟩ | ⟨t,e,rows,h1,_⟩
 ·obtain⟨u,u1,_,u3⟩:=k5 i v h1
  refine⟨u,u1,v,ht,?_⟩;rcases jv.1 ht with⟨_,rfl⟩ | ⟨rows,rfl,_⟩<;>exact u3
 ·exact absurd h1 (hjs t e)
theorem aoO(x:ay)(row:List V):bW bl x row=∃v r,row=v::r∧eM (.sl bg) x.1 v∧∃v1 r1,r=v1::r1∧eM (.sl bV) x.2.1 v1∧∃v2 r2,r1=v2::r2∧eM (.sl gJ) x.2.2.1 v2∧bW bl.tail.tail.tail x.2.2.2 r2:=by kernel_rfl
def Mk.Ap(A:Nat→Prop)(p m:Value)(b:Nat):Prop:=A b∨p.ownBlock=some b∨m.ownBlock=some b
theorem Mk.sta{w:World}{A:Nat→Prop}(hA:∀b,A b→b<w.heap.size){l:List Int}{fo:List ag}{c:Int}{ul uf:Value}(hl:Cl w A (.sl [zI]) l ul)(hf:Cl w A (.sl aF) fo uf)(hp:M1 (l,fo,c)=true):
  Calls Tryz.prog 32 #[ul,uf,.int .i64 c] w fun en w'=>∃q p m a5 a6 a7,en=.returned (.agg #[q,p,m,a5,a6,a7])∧Cl w' (Mk.Ap A p m) (.sl bg) (mm (l,fo,c)).1 q∧aR w' (Mk.Ap A p m) w.heap.size 56 28 bV (mm (l,fo,c)).2.1 p∧
   aR w' (Mk.Ap A p m) w.heap.size 82 4 gJ (mm (l,fo,c)).2.2.1 m∧Below w.heap.size w w'∧∀x∈[q,p,m,a5,a6,a7],x.oneCell'=true:=by
 obtain⟨vs,h1,h2⟩:=aaF (w:=w) (A:=A) (ks:=[.c (.sl [zI]),.c (.sl aF),.c zI]) (x:=(l,fo,c)) (us:=[ul,uf,.int .i64 c]) (yE.three (Ag.c hl) (Ag.c hf) Ag.int);refine(afT (l,fo,c) hp vs h1 w A #[ul,uf,.int .i64 c] hA (by have:=h2.len;simpa using this.symm) (fun i x hx=>by
  obtain⟨u,e1,e2⟩:=h2.get i x hx;exact⟨u,by simpa using e1,e2⟩)).mono fun en w' hh=>?_
 obtain⟨us,qR,bS,h,β',A',rfl,k1,k2,k3,k4,k5,k6,k7,k8,k9⟩:=hh;have hx:=k3;rw[aoO]at hx;obtain⟨v0,r0,rfl,t0,v1,r1,rfl,t1,v2,r2,rfl,t2,t3⟩:=hx;obtain⟨q,q1,q2⟩:=aqJ k4 k5 (i:=0) (by simp) rfl t0;obtain⟨p,p1,p2,p3,p4⟩:=ZI (n0:=w.heap.size) k4 k5 k6 k9 (i:=1) (ty:=56) (es:=28) (by simp) (by simp) rfl t1;obtain⟨m,m1,m2,m3,m4⟩:=ZI (n0:=w.heap.size) k4 k5 k6 k9 (i:=2) (ty:=82) (es:=4) (by simp) (by simp) rfl t2;have hlen:us.size=6:=by
  rw[k1,← k2,ib k3];rfl
 have Nk:∀x∈us.toList,x.oneCell'=true:=fun x hx=>by
  obtain⟨i,hi,rfl⟩:=List.getElem_of_mem hx;have j5:i<us.size:=by simpa using hi
  obtain⟨u,e1,e2,_⟩:=k5 i _ (azS (show i<qR.length by omega));rw[aAL j5]at e1;have:=az9 e1;simp only[Array.getElem_toList];rw[this];exact e2
 obtain⟨l0,l1,l2,l3,l4,l5,hl6⟩:∃l0 l1 l2 l3 l4 l5,us=#[l0,l1,l2,l3,l4,l5]:=by
  obtain⟨ul⟩:=us
  match ul,hlen with
  | [l0,l1,l2,l3,l4,l5],_=>exact⟨l0,l1,l2,l3,l4,l5,rfl⟩
 subst hl6;simp at q1 p1 m1;subst q1;subst p1;subst m1;have oL:∀b,b<w'.heap.size→Mk.Ap A l1 l2 b→A' b:=fun b _ hb=>by
  rcases hb with hb | hb | hb
  ·exact k7 b (hA b hb) hb
  ·exact p3 b hb
  ·exact m3 b hb
 exact⟨l0,l1,l2,l3,l4,l5,rfl,q2.fr (cz.refl _ _) (azJ _) oL,p4.ev (Ev.rf w' (fun _=>False)) (fun _ _ h=>h.elim) oL (fun _ _ h=>h),m4.ev (Ev.rf w' (fun _=>False)) (fun _ _ h=>h.elim) oL (fun _ _ h=>h),Ev.low k8 (fun _ h=>h),Nk⟩
structure Mk.I (n0:Nat) (w1 wr:World) (A:Nat→Prop) (S:Nat) (ls:List aL) (lp:List bR) (lm:List tm) (q p m:Value):Prop where
 box:HB wr S 38 #[q,p,m,.slice none 0 0,.slice none 0 0,.slice none 0 0]
 sl:Cl wr (Mk.Ap A p m) (.sl bg) ls q
 op:aR wr (Mk.Ap A p m) n0 56 28 bV lp p
 om:aR wr (Mk.Ap A p m) n0 82 4 gJ lm m
 ev:Below n0 w1 wr
 nA:∀b,A b→b<n0
 nS:n0≤S
theorem HB.ne{W:World}{B B':Nat}{t t':TypeId}{cs eL:Array Value}(h:HB W B t cs)(h':HB W B' t' eL)(ht:t ≠ t'):B ≠ B':=fun e=>by
 subst e;have:=h.symm.trans h';simp at this;exact ht this.2
theorem aR.hb{w:World}{A:Nat→Prop}{n0 es:Nat}{ty:TypeId}{τ:List Ty}{xs:List (aA τ)}{u:Value}(h:aR w A n0 ty es τ xs u){g:Nat}(hg:u.ownBlock=some g):∃cur,HB w g ty cur:=by
 rcases h with⟨rfl,_⟩ | ⟨g',cap,cur,rfl,_,h2,_⟩
 ·cases hg
 ·cases hg;exact⟨cur,h2⟩
section
variable {n0:Nat} {w1 wr:World} {A:Nat→Prop} {S:Nat} {ls:List aL} {lp:List bR} {lm:List tm} {q p m:Value}
theorem Mk.I.low{W:World}(h:Mk.I n0 w1 wr A S ls lp lm q p m)(hb:Below wr.heap.size wr W):Mk.I n0 w1 W A S ls lp lm q p m:=
 ⟨h.box.below hb h.box.lt,h.sl.fr (fun b gW _=>hb.block b gW) hb.size (fun _ _ h=>h),h.op.ev (et hb (fun _=>False)) (fun _ _ h=>h.elim) (fun _ _ h=>h) (fun _ _ h=>h),h.om.ev (et hb (fun _=>False)) (fun _ _ h=>h.elim) (fun _ _ h=>h) (fun _ _ h=>h),h.ev.trans (hb.mono (az0 h.nS (aAR h.box.lt))),h.nA,h.nS⟩
theorem afp{us:List Value}{w:World}{A:Nat→Prop}{s:bR}(h:Rw w A bV s us)(a b d:Int):Rw w A bV (a,b,d,s.2.2.2) ([.int .i64 a,.int .i64 b,.int .i64 d]++us.drop 3)∧us.length=28:=by
 obtain⟨p,rfl,hp⟩:=O7 h;exact⟨Fg (x:=(a,b,d,s.2.2.2)) hp,rfl⟩
theorem afX{us:List Value}{w:World}{A:Nat→Prop}{s:tm}(h:Rw w A gJ s us)(v:aj):Rw w A gJ (s.1,v) (us.take 1++kz v)∧us.length=4:=by
 have:=Fh h;subst this;exact⟨aeK (x:=(s.1,v)),rfl⟩
theorem Mk.I.put{SE:World}(h:Mk.I n0 w1 wr A S ls lp lm q p m){g:Nat}(bm:Ev wr SE (fun b=>b=g))(hg:Mk.Ap A p m g)(hS:S ≠ g)(hn:n0≤g):HB SE S 38 #[q,p,m,.slice none 0 0,.slice none 0 0,.slice none 0 0]∧Cl SE (Mk.Ap A p m) (.sl bg) ls q∧Below n0 w1 SE:=
 ⟨h.box.ev bm hS,h.sl.ev bm (fun b _ e=>by rw[e];exact hg) (fun _ _ h=>h),⟨bm.os.trans h.ev.os,bm.tape.trans h.ev.tape,bm.output.trans h.ev.output,az0 h.ev.size bm.size,fun b hb=>(bm.block b (by have:=h.box.lt;have:=h.nS;omega) (fun e=>by omega)).trans (h.ev.block b hb)⟩⟩
theorem Mk.I.asQ{g n c:Nat}(h:Mk.I n0 w1 wr A S ls lp lm q (.slice (some ⟨g,0,none⟩) n c) m){j:Nat}{r:bR}(hr:lp[j]? = some r)(a b d:Int):Mk.I n0 w1 (wr.setCells g (j*28) [.int .i64 a,.int .i64 b,.int .i64 d]) A S ls (lp.set j (a,b,d,r.2.2.2)) lm q (.slice (some ⟨g,0,none⟩) n c) m:=by
 haveI:ZA:=⟨A⟩
 have bm:Ev wr (wr.setCells g (j*28) [.int .i64 a,.int .i64 b,.int .i64 d]) (fun b=>b=g):=Ev.bM (X:=fun b=>b=g) (.inl rfl) _ _ (Ev.rf _ _);obtain⟨cur,hb⟩:=h.op.hb (g:=g) rfl;have hg:Mk.Ap A (.slice (some ⟨g,0,none⟩) n c) m g:=.inr (.inl rfl);obtain⟨h1,h2,h3⟩:=h.put bm hg (h.box.ne hb (by decide)) (h.op.lt (g:=g) rfl).1;refine⟨h1,h2,?_,h.om.ev bm (fun b _ e=>by rw[e];exact hg) (fun _ _ h=>h) (fun g' hg' e=>?_),h3,h.nA,h.nS⟩
 ·refine h.op.put (τ:=bV) (off:=0) (x':=(a,b,d,r.2.2.2)) hg hr (by simp) fun us hu hl=>⟨_,(afp hu a b d).1,?_,fun k v hv=>?_,fun k hk=>?_⟩
  ·simp[hl]
  ·rw[az8,aAg (azR.1 hv).1];exact hv
  ·simp only[azL,az2]at hk
   rw[aAa (by simp;omega),aAM]
   congr 1
   simp;omega
 ·obtain⟨cur',gW⟩:=h.om.hb hg'
  exact gW.ne hb (by decide) e
theorem Mk.I.asR{g n c:Nat}(h:Mk.I n0 w1 wr A S ls lp lm q p (.slice (some ⟨g,0,none⟩) n c)){j:Nat}{r:tm}(hr:lm[j]? = some r)(v:aj):Mk.I n0 w1 (wr.setCells g (j*4+1) (kz v)) A S ls lp (lm.set j (r.1,v)) q p (.slice (some ⟨g,0,none⟩) n c):=by
 haveI:ZA:=⟨A⟩
 have bm:Ev wr (wr.setCells g (j*4+1) (kz v)) (fun b=>b=g):=Ev.bM (X:=fun b=>b=g) (.inl rfl) _ _ (Ev.rf _ _);obtain⟨cur,hb⟩:=h.om.hb (g:=g) rfl;have hg:Mk.Ap A p (.slice (some ⟨g,0,none⟩) n c) g:=.inr (.inr rfl);obtain⟨h1,h2,h3⟩:=h.put bm hg (h.box.ne hb (by decide)) (h.om.lt (g:=g) rfl).1;refine⟨h1,h2,h.op.ev bm (fun b _ e=>by rw[e];exact hg) (fun _ _ h=>h) (fun g' hg' e=>?_),?_,h3,h.nA,h.nS⟩
 ·obtain⟨cur',gW⟩:=h.op.hb hg'
  exact gW.ne hb (by decide) e
 ·refine h.om.put (τ:=gJ) (off:=1) (x':=(r.1,v)) hg hr (by simp[kz]) fun us hu hl=>⟨_,(afX hu v).1,?_,fun k v' hv=>?_,fun k hk=>?_⟩
  ·simp[hl,kz]
  ·rw[aAa (by simp;omega),az5,hl]
   simpa using hv
  ·simp only[kz,azL,az2]at hk ⊢
   rcases hk with hk | hk
   ·rw[aAg (by simp;omega),aAx,azE hk]
   ·rw[aBy (by simp;omega),aBy (by omega)]
theorem Mk.I.fin(h:Mk.I n0 w1 wr A S ls lp lm q p m)(c:Int):Rw wr A eG ((c,1,[],[],ls,lp,lm,[],[],[],false,0,[],[],[],[],[],[],[],[]):cC) (aeJ (c,1,[],[],ls,lp,lm,[],[],[],false,0,[],[],[],[],[],[],[],[]) (.slice none 0 0) (.slice none 0 0) q p m (.slice none 0 0) (.slice none 0 0) (.slice none 0 0) (.slice none 0 0) (.slice none 0 0) (.slice none 0 0) (.slice none 0 0) (.slice none 0 0) (.slice none 0 0) (.slice none 0 0) (.slice none 0 0)):=by
 have hs:∀b,b<wr.heap.size→A b→Mk.Ap A p m b:=fun _ _ h=>.inl h
 have hz:∀{τ:List Ty},Cl wr A (.sl τ) ([]:List (aA τ)) (.slice none 0 0):=fun {τ}=>cH.2 (Sl.nil none)
 exact aeI (x:=(c,1,[],[],ls,lp,lm,[],[],[],false,0,[],[],[],[],[],[],[],[])) hz hz (h.sl.fr (cz.refl _ _) (azJ _) hs) ((h.op.ev (Ev.rf wr (fun _=>False)) (fun _ _ h=>h.elim) hs (fun _ _ h=>h)).cl rfl (fun g hg hA=>by have:=(h.op.lt hg).1;have:=h.nA g hA;omega)) ((h.om.ev (Ev.rf wr (fun _=>False)) (fun _ _ h=>h.elim) hs (fun _ _ h=>h)).cl rfl (fun g hg hA=>by have:=(h.om.lt hg).1;have:=h.nA g hA;omega)) hz hz hz hz hz hz hz hz hz hz hz
end
theorem YV:(Tryz.prog.info? 40).map (fun i=>(i.zero.map (·.cells.size),i.size,i.bytes))=some (some 20,20,416):=by kernel_rfl
def Mk.Ao(A:Nat→Prop)(u:Value)(b:Nat):Prop:=A b∨u.ownBlock=some b
theorem Mk.push{W:World}{A:Nat→Prop}{n0:Nat}{xs:List cC}{u:Value}(h:aR W (Mk.Ao A u) n0 40 20 eG xs u)(hn:n0≤W.heap.size){x:cC}{us:List Value}(hx:Rw W (Mk.Ao A u) eG x us)(hul:us.length=20){bx:Nat}(nr:HB W bx 40 us.toArray)(hl:xs.length≤1000):
  ∃v' w',(Builtin.append_ #[25,25] 25 #[u,.slice (some ⟨bx,0,none⟩) 1 1]).run Tryz.prog W=.ok v' w'∧aR w' (Mk.Ao A v') n0 40 20 eG (xs++[x]) v'∧Below n0 W w':=by
 obtain⟨i0,z,h1,h2,h3,h4,h5⟩:=BJ YV;have Du:List.length (α:=aA eG) xs≤1000:=hl;obtain⟨g,cap,w',hr,eU,bm,fP⟩:=h.app (t:=25) Tryz.underlying25 h1 h2 h3 h4 h5 (by omega) (x:=x) (us:=us) hx hul (bx:=bx) (off:=0) (c:=1) (fun j v hv=>by rw[nr.cell,az8];simpa using hv) (by unfold maxLen;omega) (by omega) hn (fun g hg=>.inr hg);refine⟨_,w',hr,eU _ (fun b hb hx=>?_),bm.os,bm.tape,bm.output,bm.size,fun b hb=>bm.block b (by omega) (fun hh=>by have:=(h.lt hh).1;omega)⟩;rcases hx with hx | hx
 ·exact .inl hx
 ·have hx:g=b:=by simpa [Value.ownBlock]using hx
  subst hx;rcases fP with fP | fP
  ·exact .inr fP
  ·omega
def oF{α:Type}(F l:List α)(j:Nat):List α:=F.take j++l.drop j
theorem FW{α:Type}{F l:List α}(hF:F.length=l.length){j:Nat}{x:α}(h:l[j]? = some x):(oF F l j)[j]? = some x:=by
 have:=(azR.1 h).1;unfold oF;rw[aAa (by simp;omega),az5,aBA (by omega),aAX,aAM];exact h
theorem PU{α:Type}{F l:List α}(hF:F.length=l.length){j:Nat}:(oF F l j).length=l.length:=by unfold oF;simp;omega
theorem PT{α:Type}{F l:List α}(hF:F.length=l.length){j:Nat}{y:α}(hj:j<l.length)(h:F[j]? = some y):(oF F l j).set j y=oF F l (j+1):=by
 unfold oF;rw[List.set_append,azD (by simp;omega),az5,aBA (by omega),aAX,aA4 hj,List.set_cons_zero,aAz,h];simp
theorem PV{α:Type}{F l:List α}(hF:F.length=l.length):oF F l l.length=F:=by
 unfold oF;rw[List.drop_length,← hF,aBi,aAc]
theorem lz(i:Nat):∀(l:List bR) (k:Nat),(oH i k l).length=l.length
 | [],_=>rfl
 | _::l,k=>azT (· + 1) (lz i l (k+1))
theorem Bu(i:Nat):∀(l:List bR) (k j:Nat) (r:bR),l[j]? = some r→(oH i k l)[j]? = some (((i:Nat):Int),((30+(k+j):Nat):Int),0,r.2.2.2)
 | u::l,k,0,r,h=>by simp at h;subst h;rfl
 | u::l,k,j+1,r,h=>by
  have:=Bu i l (k+1) j r (by simpa using h);rw[show k+(j+1)=k+1+j by omega];simpa [oH]using this
 | [],_,j,r,h=>by simp at h
theorem Bv(l:List Int)(s:ay)(i:Nat):∀(q:List tm) (k:Nat),(uA l s i k q).length=q.length
 | [],_=>rfl
 | _::q,k=>azT (· + 1) (Bv l s i q (k+1))
theorem J5(l:List Int)(s:ay)(i:Nat):∀(q:List tm) (k j:Nat) (r:tm),q[j]? = some r→(uA l s i k q)[j]? = some (r.1,sU (s,r.2,ba (l,((20+i+(k+j):Nat):Int))))
 | u::q,k,0,r,h=>by simp at h;subst h;rfl
 | u::q,k,j+1,r,h=>by
  have:=J5 l s i q (k+1) j r (by simpa using h);rw[show k+(j+1)=k+1+j by omega];simpa [uA]using this
 | [],_,j,r,h=>by simp at h
end Go.AL
namespace Go.AL
open Go.Proofs Go.RowKit
attribute [local go_sem] Oper.semAt_some
noncomputable def Mk.blk(id:Nat):Code:=(vk id (aB Tryz.f10)).getD .skip
set_option maxRecDepth 100000 in
set_option maxHeartbeats 4000000 in
theorem Mk.lp2{ee:Act→World→Prop}(n0:Nat)(w1 w5:World)(A:Nat→Prop)(S:Nat)(ls:List aL)(lp:List bR)(lm:List tm)(q:Value)(pa:Option Addr)(pc:Nat)(m:Value)(i:Nat){c0 c1 c2 c3 c4 c5 c6 c10 Gz zb yb zY zX Cx za Gy Gx zW zV ya Cw Cv Cu xZ yZ yY yX yW yV yU Dg Df De zU zT zS zR zQ zP zN zM zL zJ zH DC DB DA Ct Cs Cr Cq Cp Co Cn Cm Ck Cj Ci Ch Cg Cf Ce Cd Cc Cb zG yT yS yR yQ Dd Dc zF zD:Value}(hi:i<4)(hlp:lp.length≤1000)
  (hZ:Mk.I n0 w1 w5 A S ls lp lm q (.slice pa (lp.length:Nat) pc) m)
  (ej:∀(u9 u27 u28 u29 u30 u31 u32 u33 u34 u35 u36 u37 u38 u39 u40 u41 u42:Value) (w':World),Mk.I n0 w1 w' A S ls (oH i 0 lp) lm q (.slice pa (lp.length:Nat) pc) m→ee ⟨List.toArray (c0::c1::c2::c3::c4::c5::c6::.int .i64 (i:Int)::.pointer (some ⟨S,0,none⟩)::u9::c10::Gz::zb::yb::zY::zX::Cx::za::Gy::Gx::zW::zV::ya::Cw::Cv::Cu::xZ::u27::u28::u29::u30::u31::u32::u33::u34::u35::u36::u37::u38::u39::u40::u41::u42::zM::zL::zJ::zH::DC::DB::DA::Ct::Cs::Cr::Cq::Cp::Co::Cn::Cm::Ck::Cj::Ci::Ch::Cg::Cf::Ce::Cd::Cc::Cb::zG::yT::yS::yR::yQ::Dd::Dc::zF::zD::[]),[]⟩ w') :
  Code.wp Tryz.prog (Mk.blk 2) (Zm.Qx 2 ee) ⟨List.toArray (c0::c1::c2::c3::c4::c5::c6::.int .i64 (i:Int)::.pointer (some ⟨S,0,none⟩)::.int .i64 0::c10::Gz::zb::yb::zY::zX::Cx::za::Gy::Gx::zW::zV::ya::Cw::Cv::Cu::xZ::yZ::yY::yX::yW::yV::yU::Dg::Df::De::zU::zT::zS::zR::zQ::zP::zN::zM::zL::zJ::zH::DC::DB::DA::Ct::Cs::Cr::Cq::Cp::Co::Cn::Cm::Ck::Cj::Ci::Ch::Cg::Cf::Ce::Cd::Cc::Cb::zG::yT::yS::yR::yQ::Dd::Dc::zF::zD::[]),[]⟩ w5:=by
 haveI:ZA:=⟨A⟩
 conv=>arg 2;whnf
 have yL:=Tryz.underlying32;have uK:=Tryz.underlying38;have Nf:=Tryz.underlying56;have TP:=Tryz.underlying48;have hF:=lz i lp 0;have HZ:=Hw.bf (show Mk.I n0 w1 w5 A S ls (oF (oH i 0 lp) lp 0) lm q (.slice pa (lp.length:Nat) pc) m from hZ);clear hZ
 go_loopw [9] (fun v wq=>∃j:Nat,j≤lp.length∧v=.int .i64 (j:Int)∧Mk.I n0 w1 wq A S ls (oF (oH i 0 lp) lp j) lm q (.slice pa (lp.length:Nat) pc) m) (fun v _=>lp.length-(RowKit.intOf v).toNat)
 case atStart=>exact⟨0,aAu _,rfl,HZ.out⟩
 case round=>
  obtain⟨j,hj,rfl,hZ⟩:=hrel;clear HZ;have g1:wr.cell? ⟨S,1,none⟩=some (.slice pa (lp.length:Nat) pc):=hZ.box.cell 1;by_cases TW:j<lp.length
  ·have TX:(j:Int)<(lp.length:Int):=by omega
   have hj0:(0:Int)≤(j:Int):=by omega
   clear ej;obtain⟨r,hr⟩:∃r,lp[j]? = some r:=⟨_,azS TW⟩;have Qi:=PU hF (j:=j);obtain⟨g,rfl⟩:=hZ.op.qT (show 0<(oF (oH i 0 lp) lp j).length by omega);have Y4:wr.there g (j*28) 3:=hZ.op.there (i:=j) (off:=0) (show j<(oF (oH i 0 lp) lp j).length by omega) (by omega);have hZ2:=hZ.asQ (j:=j) (FW hF hr) (i:Int) (30+(j:Int)) 0;have Dw:=Bu i lp 0 j r hr;rw[az8,show((30+j:Nat):Int)=30+(j:Int)by omega]at Dw;rw[PT hF TW (y:=((i:Int),30+(j:Int),0,r.2.2.2)) Dw]at hZ2;have HZ2:=Hw.bf hZ2;have agx:(Tryz.prog.info? 48).map (·.size)=some 3:=by kernel_rfl
   clear hZ hZ2 hr Qi Dw hF
   go_wp2_with (refine Zm.aj6 rfl 48 (.tmp 42) (.tmp 40) rfl rfl (us:=[.int .i64 (i:Int),.int .i64 (30+(j:Int)),.int .i64 0]) rfl (n:=3) rfl agx Y4 (by simp[Value.oneCell']) rfl ?_)
   exact⟨⟨j+1,by omega,by congr 1,HZ2.out⟩,by simp[RowKit.intOf];omega⟩
  ·obtain rfl:j=lp.length:=by omega
   have TX:¬ (lp.length:Int)<(lp.length:Int):=by omega
   rw[PV hF]at hZ;have HF:=Hw.bf hZ;clear hZ hF;go_wp2;exact⟨rfl,ej _ _ _ _ _ _ _ _ _ _ _ _ _ _ _ _ _ _ HF.out⟩
end Go.AL
namespace Go.AL
open Go.Proofs Go.RowKit
attribute [local go_sem] Oper.semAt_some
theorem Mk.atC{w wr W:World}{A:Nat→Prop}(hA:∀b,A b→b<w.heap.size)(hw:Below w.heap.size w wr)(hW:Below wr.heap.size wr W){l:List Int}{ul:Value}(hl:Cl w A (.sl [zI]) l ul)(k:Int):
  Calls Tryz.prog 35 #[ul,.int .i64 k] W fun en w'=>en=.returned (.int .i64 (ba (l,k)))∧Below wr.heap.size wr w':=by
 have hwW:Below w.heap.size w W:=hw.trans (hW.mono hw.size);refine(Hw.call Hs ((l,k):List Int×Int) rfl (w:=W) (A:=A) (fun b hb=>az3 (hA b hb) hwW.size) (us:=#[ul,.int .i64 k]) (yE.two (Ag.rdc (hl.low hwW)) Ag.int)).mono fun en w' hh=>?_
 obtain⟨us,A',rfl,hr,_,_,hB⟩:=hh;obtain⟨u,rfl,hu⟩:=(show ∃u,us=[u]∧Cl w' A' (zI) (ba (l,k)) u from hr);rw[xh hu];exact⟨rfl,hW.trans (hB.mono hW.size)⟩
theorem Mk.asU{n0:Nat}{w1 wr W:World}{A:Nat→Prop}{S:Nat}{ls:List aL}{lp:List bR}{lm lm0:List tm}{q p m:Value}(h:Mk.I n0 w1 wr A S ls lp lm q p m)(hW:Below wr.heap.size wr W)(h1:af ls=true)(h2:af lp=true)(op:aj)(n:Int):
  Calls Tryz.prog 34 #[.agg #[q,p,m,.slice none 0 0,.slice none 0 0,.slice none 0 0],.agg #[.int .i64 op.1,.int .i64 op.2.1,.int .i64 op.2.2],.int .i64 n] W fun en w'=>en=.returned (.agg (kz (sU ((ls,lp,lm0,[],[],[]),op,n))).toArray)∧Below wr.heap.size wr w':=by
 have hI:=h.low hW;have hs:∀b,b<W.heap.size→A b→Mk.Ap A p m b:=fun _ _ h=>.inl h
 have hz:∀{τ:List Ty},Cl W A (.sl τ) ([]:List (aA τ)) (.slice none 0 0):=fun {τ}=>cH.2 (Sl.nil none)
 have aK:Rw W A bl ((ls,lp,lm,[],[],[]):ay) [q,p,m,.slice none 0 0,.slice none 0 0,.slice none 0 0]:=kJ (x:=(ls,lp,lm,[],[],[])) (hI.sl.fr (cz.refl _ _) (azJ _) hs) ((hI.op.ev (Ev.rf W (fun _=>False)) (fun _ _ h=>h.elim) hs (fun _ _ h=>h)).cl rfl (fun g hg hA=>by have:=(h.op.lt hg).1;have:=h.nA g hA;omega)) ((hI.om.ev (Ev.rf W (fun _=>False)) (fun _ _ h=>h.elim) hs (fun _ _ h=>h)).cl rfl (fun g hg hA=>by have:=(h.om.lt hg).1;have:=h.nA g hA;omega)) hz hz hz;refine(Hw.call adv (((ls,lp,lm,[],[],[]),op,n):ay×aj×Int) (show(af ls&&af lp)=true by rw[h1,h2];rfl) (w:=W) (A:=A) (fun b hb=>by have:=h.nA b hb;have:=h.nS;have:=h.box.lt;have:=hW.size;omega) (us:=#[.agg #[q,p,m,.slice none 0 0,.slice none 0 0,.slice none 0 0],.agg (kz op).toArray,.int .i64 n]) (yE.three (Ag.g aK) (Ag.g iQ) Ag.int)).mono fun en w' hh=>?_
 obtain⟨us,A',rfl,hr,_,_,hB⟩:=hh;obtain⟨u,rfl,ua,rfl,hu⟩:=(show ∃u,us=[u]∧∃ua:Array Value,u=.agg ua∧Rw w' A' aE (sU ((ls,lp,lm,[],[],[]),op,n)) ua.toList from hr);have:=l6 hu;refine⟨?_,hW.trans (hB.mono hW.size)⟩;refine azT (fun v=>Ending.returned (.agg v)) ?_;show ua=(kz (sU ((ls,lp,lm,[],[],[]),op,n))).toArray;rw[← this]
set_option maxRecDepth 100000 in
set_option maxHeartbeats 4000000 in
theorem Mk.lp4{ee:Act→World→Prop}(n0:Nat)(w1 w5:World)(A:Nat→Prop)(S:Nat)(l:List Int)(ls:List aL)(lp:List bR)(lm:List tm)(ul q p:Value)(ma:Option Addr)(mc:Nat)(i:Nat){c1 c2 c3 c4 c5 c6 c9 Gz zb yb zY zX Cx za Gy Gx zW zV ya Cw Cv Cu xZ yZ yY yX yW yV yU Dg Df De zU zT zS zR zQ zP zN zM zL zJ zH DC DB DA Ct Cs Cr Cq Cp Co Cn Cm Ck Cj Ci Ch Cg Cf Ce Cd Cc Cb zG yT yS yR yQ Dd Dc zF zD:Value}(hi:i<4)(hlm:lm.length≤1000)(h1:af ls=true)(h2:af lp=true)
  (w0:World) (A0:Nat→Prop) (hA0:∀b,A0 b→b<w0.heap.size) (hw0:w0.heap.size≤n0) (hB0:Below w0.heap.size w0 w1) (hl:Cl w0 A0 (.sl [zI]) l ul)
  (hZ:Mk.I n0 w1 w5 A S ls lp lm q p (.slice ma (lm.length:Nat) mc))
  (ej:∀(u10 u43 u44 u45 u46 u47 u48 u49 u50 u51 u52 u53 u54 u55 u56 u57 u58 u59 u60 u61 u62 u63 u64 u65 u66 u67 u68:Value) (w':World),Mk.I n0 w1 w' A S ls lp (uA l (ls,lp,lm,[],[],[]) i 0 lm) q p (.slice ma (lm.length:Nat) mc)→ee ⟨List.toArray (ul::c1::c2::c3::c4::c5::c6::.int .i64 (i:Int)::.pointer (some ⟨S,0,none⟩)::c9::u10::Gz::zb::yb::zY::zX::Cx::za::Gy::Gx::zW::zV::ya::Cw::Cv::Cu::xZ::yZ::yY::yX::yW::yV::yU::Dg::Df::De::zU::zT::zS::zR::zQ::zP::zN::u43::u44::u45::u46::u47::u48::u49::u50::u51::u52::u53::u54::u55::u56::u57::u58::u59::u60::u61::u62::u63::u64::u65::u66::u67::u68::yT::yS::yR::yQ::Dd::Dc::zF::zD::[]),[]⟩ w') :
  Code.wp Tryz.prog (Mk.blk 4) (Zm.Qx 4 ee) ⟨List.toArray (ul::c1::c2::c3::c4::c5::c6::.int .i64 (i:Int)::.pointer (some ⟨S,0,none⟩)::c9::.int .i64 0::Gz::zb::yb::zY::zX::Cx::za::Gy::Gx::zW::zV::ya::Cw::Cv::Cu::xZ::yZ::yY::yX::yW::yV::yU::Dg::Df::De::zU::zT::zS::zR::zQ::zP::zN::zM::zL::zJ::zH::DC::DB::DA::Ct::Cs::Cr::Cq::Cp::Co::Cn::Cm::Ck::Cj::Ci::Ch::Cg::Cf::Ce::Cd::Cc::Cb::zG::yT::yS::yR::yQ::Dd::Dc::zF::zD::[]),[]⟩ w5:=by
 haveI:ZA:=⟨A⟩
 conv=>arg 2;whnf
 have yL:=Tryz.underlying33;have uK:=Tryz.underlying38;have Nf:=Tryz.underlying82;have TP:=Tryz.underlying48;have hF:=Bv l (ls,lp,lm,[],[],[]) i lm 0;have HZ:=Hw.bf (show Mk.I n0 w1 w5 A S ls lp (oF (uA l (ls,lp,lm,[],[],[]) i 0 lm) lm 0) q p (.slice ma (lm.length:Nat) mc)from hZ);have H0:=Hw.bf (And.intro hA0 (And.intro hB0 hl));have HN:=Hw.bf (And.intro h1 h2);clear hZ hA0 hB0 hl h1 h2
 go_loopw [10] (fun v wq=>∃j:Nat,j≤lm.length∧v=.int .i64 (j:Int)∧Mk.I n0 w1 wq A S ls lp (oF (uA l (ls,lp,lm,[],[],[]) i 0 lm) lm j) q p (.slice ma (lm.length:Nat) mc)) (fun v _=>lm.length-(RowKit.intOf v).toNat)
 case atStart=>exact⟨0,aAu _,rfl,HZ.out⟩
 case round=>
  obtain⟨j,hj,rfl,hZ⟩:=hrel;clear HZ;have g0:wr.cell? ⟨S,0,none⟩=some q:=hZ.box.cell 0;have g1:wr.cell? ⟨S,1,none⟩=some p:=hZ.box.cell 1;have g2:wr.cell? ⟨S,2,none⟩=some (.slice ma (lm.length:Nat) mc):=hZ.box.cell 2;have g3:wr.cell? ⟨S,3,none⟩=some (.slice none 0 0):=hZ.box.cell 3;have g4:wr.cell? ⟨S,4,none⟩=some (.slice none 0 0):=hZ.box.cell 4;have g5:wr.cell? ⟨S,5,none⟩=some (.slice none 0 0):=hZ.box.cell 5;by_cases TW:j<lm.length
  ·have TX:(j:Int)<(lm.length:Int):=by omega
   have hj0:(0:Int)≤(j:Int):=by omega
   clear ej;obtain⟨r,hr⟩:∃r,lm[j]? = some r:=⟨_,azS TW⟩;have Qi:=PU hF (j:=j);obtain⟨g,rfl⟩:=hZ.om.qT (show 0<(oF (uA l (ls,lp,lm,[],[],[]) i 0 lm) lm j).length by omega);have Y4:∀W,Below wr.heap.size wr W→W.there g (j*4+1) 3:=fun W hW=>(hZ.low hW).om.there (i:=j) (off:=1) (show j<(oF (uA l (ls,lp,lm,[],[],[]) i 0 lm) lm j).length by omega) (by omega)
   obtain⟨us,u1,u2,u3,u4⟩:=hZ.om.aau (FW hF hr);have HZ4:=Hw.bf (fun(W:World) (hW:Below wr.heap.size wr W) (x:Nat)=>(hZ.low hW).om.aau (FW hF hr) |>.elim fun _ h=>h.2.2.2 x);have gV:=Fh u1;subst gV;have gg:g<wr.heap.size:=(hZ.om.lt (g:=g) rfl).2;have gS:S<wr.heap.size:=hZ.box.lt;have y1:wr.cell? ⟨g,j*4+1,none⟩=some (.int .i64 r.2.1):=u3 1 _ rfl;have y2:wr.cell? ⟨g,j*4+2,none⟩=some (.int .i64 r.2.2.1):=u3 2 _ rfl;have y3:wr.cell? ⟨g,j*4+3,none⟩=some (.int .i64 r.2.2.2):=u3 3 _ rfl;have Dw:=J5 l (ls,lp,lm,[],[],[]) i lm 0 j r hr;rw[az8,show((20+i+j:Nat):Int)=20+(i:Int)+(j:Int)by omega]at Dw;have HX:=fun(W:World) (hW:Below wr.heap.size wr W)=>PT hF TW (y:=(r.1,sU ((ls,lp,lm,[],[],[]),r.2,ba (l,20+(i:Int)+(j:Int))))) Dw▸(hZ.low hW).asR (j:=j) (FW hF hr) (sU ((ls,lp,lm,[],[],[]),r.2,ba (l,20+(i:Int)+(j:Int))))
   have HA:=fun(W:World) (hW:Below wr.heap.size wr W)=>Mk.atC H0.out.1 (H0.out.2.1.trans (hZ.ev.mono hw0)) hW H0.out.2.2 (20+(i:Int)+(j:Int))
   have HM:=fun(W:World) (hW:Below wr.heap.size wr W)=>Mk.asU (lm0:=lm) hZ hW HN.out.1 HN.out.2 r.2 (ba (l,20+(i:Int)+(j:Int)))
   generalize ba (l,20+(i:Int)+(j:Int))=av at HX HA HM;generalize sU ((ls,lp,lm,[],[],[]),r.2,av)=nv at HX HM;have HX:=Hw.bf HX;have HA:=Hw.bf HA;have HM:=Hw.bf HM;have HW0:=Hw.bf ((Below.refl wr.heap.size wr).drew);have agx:(Tryz.prog.info? 48).map (·.size)=some 3:=by kernel_rfl
   have HT:=Hw.bf Y4;have HK:=Hw.bf (show ∀w',Below wr.heap.size wr w'→(w'.cell? ⟨S,0,none⟩=some q∧w'.cell? ⟨S,1,none⟩=some p∧w'.cell? ⟨S,2,none⟩=some (.slice (some ⟨g,0,none⟩) (lm.length:Nat) mc)∧w'.cell? ⟨S,3,none⟩=some (.slice none 0 0)∧w'.cell? ⟨S,4,none⟩=some (.slice none 0 0)∧w'.cell? ⟨S,5,none⟩=some (.slice none 0 0))from fun W hW=>⟨(hW.cell (p:=⟨S,0,none⟩) gS).trans g0,(hW.cell (p:=⟨S,1,none⟩) gS).trans g1,(hW.cell (p:=⟨S,2,none⟩) gS).trans g2,(hW.cell (p:=⟨S,3,none⟩) gS).trans g3,(hW.cell (p:=⟨S,4,none⟩) gS).trans g4,(hW.cell (p:=⟨S,5,none⟩) gS).trans g5⟩)
   have HK3:=Hw.bf (show ∀w',Below wr.heap.size wr w'→((((w'.setCell ⟨g,j*4+1,none⟩ (.int .i64 nv.1)).setCell ⟨g,j*4+1+1,none⟩ (.int .i64 nv.2.1)).setCell ⟨g,j*4+1+2,none⟩ (.int .i64 nv.2.2)).cell? ⟨S,0,none⟩=some q∧(((w'.setCell ⟨g,j*4+1,none⟩ (.int .i64 nv.1)).setCell ⟨g,j*4+1+1,none⟩ (.int .i64 nv.2.1)).setCell ⟨g,j*4+1+2,none⟩ (.int .i64 nv.2.2)).cell? ⟨S,1,none⟩=some p∧(((w'.setCell ⟨g,j*4+1,none⟩ (.int .i64 nv.1)).setCell ⟨g,j*4+1+1,none⟩ (.int .i64 nv.2.1)).setCell ⟨g,j*4+1+2,none⟩ (.int .i64 nv.2.2)).cell? ⟨S,2,none⟩=some (.slice (some ⟨g,0,none⟩) (lm.length:Nat) mc)∧(((w'.setCell ⟨g,j*4+1,none⟩ (.int .i64 nv.1)).setCell ⟨g,j*4+1+1,none⟩ (.int .i64 nv.2.1)).setCell ⟨g,j*4+1+2,none⟩ (.int .i64 nv.2.2)).cell? ⟨S,3,none⟩=some (.slice none 0 0)∧(((w'.setCell ⟨g,j*4+1,none⟩ (.int .i64 nv.1)).setCell ⟨g,j*4+1+1,none⟩ (.int .i64 nv.2.1)).setCell ⟨g,j*4+1+2,none⟩ (.int .i64 nv.2.2)).cell? ⟨S,4,none⟩=some (.slice none 0 0)∧(((w'.setCell ⟨g,j*4+1,none⟩ (.int .i64 nv.1)).setCell ⟨g,j*4+1+1,none⟩ (.int .i64 nv.2.1)).setCell ⟨g,j*4+1+2,none⟩ (.int .i64 nv.2.2)).cell? ⟨S,5,none⟩=some (.slice none 0 0))from fun W hW=>have hb:=(HX.out W hW).box;⟨hb.cell 0,hb.cell 1,hb.cell 2,hb.cell 3,hb.cell 4,hb.cell 5⟩)
   have HK4:=Hw.bf (show ∀w',Below wr.heap.size wr w'→w'.cell? ⟨g,j*4+1,none⟩=some (.int .i64 r.2.1)∧w'.cell? ⟨g,j*4+2,none⟩=some (.int .i64 r.2.2.1)∧w'.cell? ⟨g,j*4+3,none⟩=some (.int .i64 r.2.2.2)from fun W hW=>⟨(hW.cell (p:=⟨g,j*4+1,none⟩) gg).trans y1,(hW.cell (p:=⟨g,j*4+2,none⟩) gg).trans y2,(hW.cell (p:=⟨g,j*4+3,none⟩) gg).trans y3⟩);have HK2:=Hw.bf (show ∀w',Below wr.heap.size wr w'→w'.cell? ⟨g,j*4+1,none⟩=some (.int .i64 r.2.1)∧w'.cell? ⟨g,j*4+1+1,none⟩=some (.int .i64 r.2.2.1)∧w'.cell? ⟨g,j*4+1+2,none⟩=some (.int .i64 r.2.2.2)∧w'.frozen? ⟨g,j*4+1,none⟩=false∧w'.frozen? ⟨g,j*4+1+1,none⟩=false∧w'.frozen? ⟨g,j*4+1+2,none⟩=false from fun W hW=>⟨(hW.cell (p:=⟨g,j*4+1,none⟩) gg).trans y1,(hW.cell (p:=⟨g,j*4+2,none⟩) gg).trans y2,(hW.cell (p:=⟨g,j*4+3,none⟩) gg).trans y3,HZ4.out W hW _,HZ4.out W hW _,HZ4.out W hW _⟩);clear hZ hr Qi Dw hF u1 u2 u3 u4 Y4;have s1:IntKind.i64.wrap (20+(i:Int))=20+(i:Int):=az (by omega) (by omega);have s2:IntKind.i64.wrap (20+(i:Int)+(j:Int))=20+(i:Int)+(j:Int):=az (by omega) (by omega);go_wp2
   go_region_law (first
    | (go_simp;go_at_call 35;refine(HA.out _ HW0.out).mono ?_;rintro en w5 ⟨rfl,jn⟩;obtain⟨z1,z2,z3⟩:=HK4.out _ jn;obtain⟨e0,e1,e2,e3,e4,e5⟩:=HK.out _ jn;clear g0 g1 g2 g3 g4 g5 y1 y2 y3 s1 s2 HA)
    | (go_simp;go_at_call 34;refine(HM.out _ jn).mono ?_;rintro en w6 ⟨rfl,hB6⟩;obtain⟨k1,k2,k3,k4,k5,k6⟩:=HK2.out _ hB6;obtain⟨-,-,d2,-⟩:=HK.out _ hB6;clear e0 e1 e2 e3 e4 e5 z1 z2 z3 HM uK Nf TP HK HK2 HK3 HK4))
   all_goals go_wp2
   all_goals exact⟨⟨j+1,by omega,by congr 1,HX.out _ hB6⟩,by simp[RowKit.intOf];omega⟩
  ·obtain rfl:j=lm.length:=by omega
   have TX:¬ (lm.length:Int)<(lm.length:Int):=by omega
   rw[PV hF]at hZ;have HF:=Hw.bf hZ;clear hZ hF;go_wp2;exact⟨rfl,ej _ _ _ _ _ _ _ _ _ _ _ _ _ _ _ _ _ _ _ _ _ _ _ _ _ _ _ _ HF.out⟩
end Go.AL
namespace Go.AL
open Go.Proofs Go.RowKit
variable [ZA]
attribute [local go_sem] Oper.semAt_some
set_option maxRecDepth 100000 in
set_option maxHeartbeats 4000000 in
theorem Zm.lp2{ee:Act→World→Prop}(w3 wi w5:World)(G n k:Nat)(ab:List cC)(da qa0:Option Addr)(dc qn0 qc0:Nat)(sr:ay)(ps:List Value){c0 c1 c2 c3 c4 c5 c6 c7 c8 zb yb zY zX Cx za Gy Gx zW zV ya Cw Cv Cu xZ yZ yY yX yW yV yU Dg Df De zU zT zS zR zQ zP zN zM zL zJ zH Ct Cs Cr Cq Cp Co Cn Cm Ck Cj Ci Ch Cg Cf Ce Cd Cc Cb zG yT yS yR yQ Dd Dc zF zD Io Im Il Ik Ij Ii Ih Ig Ie Ic Gw Gv Gu Gt Gs Gr Gq EM EL EK K0 KZ Gp mX mW mV mU mT mS mR mQ mP mO lJ pZ pY pX mN mM mL mK mJ se sd rZ nR nQ nP nO nN nL nJ nH nG nF tf te td pW pV pU pT pS pR pQ pP pO pM pL pJ pI pH pG pF pE pD pC pB pA pz pw pv pk pj ph pg pf pe pd pb o9 o8 o7 o6 o5 oZ oY oX oW oV nE mI mH mG mF mE mD mC lI:Value}(hkn:k<n)(gq:n≤1000)(hdl:(aX ab).length≤100000)
  (bm:Ev w3 wi (fun b=>b=G)) (hd:Cl w3 (ef G) (.sl aE) (aX ab) (.slice da ((aX ab).length:Nat) dc)) (Y7:ct sr.1=true) (hZ:Zq wi w5 G k sr.1 sr (.slice qa0 qn0 qc0) ps)
  (ej:∀(u14 u49 u50 u51 u52 u53 u54 u55 u56 u57 u58 u59 u60 u61 u62 u63 u64 u65 u66 u67:Value) (w':World) (qa:Option Addr) (qn qc:Nat),ct (oe sr.1 (aX ab))=true→Zq wi w' G k (oe sr.1 (aX ab)) sr (.slice qa qn qc) ps→ee ⟨List.toArray (c0::c1::c2::c3::c4::c5::c6::c7::c8::.slice da ((aX ab).length:Nat) dc::.slice (some ⟨G,0,none⟩) n n::.int .i64 (k:Int)::zb::yb::u14::zX::Cx::za::Gy::Gx::zW::zV::ya::Cw::Cv::Cu::xZ::yZ::yY::yX::yW::yV::yU::Dg::Df::De::zU::zT::zS::zR::zQ::zP::zN::zM::zL::zJ::zH::.slice da ((aX ab).length:Nat) dc::.int .i64 ((aX ab).length:Int)::u49::u50::u51::u52::u53::u54::u55::u56::u57::u58::u59::u60::u61::u62::u63::u64::u65::u66::u67::zG::yT::yS::yR::yQ::Dd::Dc::zF::zD::Io::Im::Il::Ik::Ij::Ii::Ih::Ig::Ie::Ic::Gw::Gv::Gu::Gt::Gs::Gr::Gq::EM::EL::EK::K0::KZ::Gp::mX::mW::mV::mU::mT::mS::mR::mQ::mP::mO::lJ::pZ::pY::pX::mN::mM::mL::mK::mJ::se::sd::rZ::nR::nQ::nP::nO::nN::nL::nJ::nH::nG::nF::tf::te::td::pW::pV::pU::pT::pS::pR::pQ::pP::pO::pM::pL::pJ::pI::pH::pG::pF::pE::pD::pC::pB::pA::pz::pw::pv::pk::pj::ph::pg::pf::pe::pd::pb::o9::o8::o7::o6::o5::oZ::oY::oX::oW::oV::nE::mI::mH::mG::mF::mE::mD::mC::lI::[]),[]⟩ w') :
  Code.wp Tryz.prog (Zm.blk 2) (Zm.Qx 2 ee) ⟨List.toArray (c0::c1::c2::c3::c4::c5::c6::c7::c8::.slice da ((aX ab).length:Nat) dc::.slice (some ⟨G,0,none⟩) n n::.int .i64 (k:Int)::zb::yb::zY::zX::Cx::za::Gy::Gx::zW::zV::ya::Cw::Cv::Cu::xZ::yZ::yY::yX::yW::yV::yU::Dg::Df::De::zU::zT::zS::zR::zQ::zP::zN::zM::zL::zJ::zH::.slice da ((aX ab).length:Nat) dc::.int .i64 ((aX ab).length:Int)::.int .i64 0::Ct::Cs::Cr::Cq::Cp::Co::Cn::Cm::Ck::Cj::Ci::Ch::Cg::Cf::Ce::Cd::Cc::Cb::zG::yT::yS::yR::yQ::Dd::Dc::zF::zD::Io::Im::Il::Ik::Ij::Ii::Ih::Ig::Ie::Ic::Gw::Gv::Gu::Gt::Gs::Gr::Gq::EM::EL::EK::K0::KZ::Gp::mX::mW::mV::mU::mT::mS::mR::mQ::mP::mO::lJ::pZ::pY::pX::mN::mM::mL::mK::mJ::se::sd::rZ::nR::nQ::nP::nO::nN::nL::nJ::nH::nG::nF::tf::te::td::pW::pV::pU::pT::pS::pR::pQ::pP::pO::pM::pL::pJ::pI::pH::pG::pF::pE::pD::pC::pB::pA::pz::pw::pv::pk::pj::ph::pg::pf::pe::pd::pb::o9::o8::o7::o6::o5::oZ::oY::oX::oW::oV::nE::mI::mH::mG::mF::mE::mD::mC::lI::[]),[]⟩ w5:=by
 conv=>arg 2;whnf
 have yL:=Tryz.underlying61;have uK:=Tryz.underlying38;have Nf:=Tryz.underlying36;have TP:=Tryz.underlying48;have Kl:(0:Int)≤(k:Int):=by omega
 have wV:(k:Int)<(n:Int):=by omega
 have HW:=Hw.bf hd;have HE:=Hw.bf bm;have HZ:=Hw.bf hZ;clear hd bm hZ
 go_loopw [49] (fun i wq=>∃(j:Nat) (q:Value),j≤(aX ab).length∧i=.int .i64 (j:Int)∧(∃a n c,q=.slice a n c)∧ct (oe sr.1 ((aX ab).take j))=true∧Zq wi wq G k (oe sr.1 ((aX ab).take j)) sr q ps) (fun i _=>(aX ab).length-(RowKit.intOf i).toNat)
 case atStart=>
  exact⟨0,_,aAu _,rfl,⟨_,_,_,rfl⟩,Y7,HZ.out⟩
 case round=>
  obtain⟨j,q,hj,rfl,⟨qa,qn,qc,rfl⟩,aO,hZ⟩:=hrel;clear HZ;by_cases TW:j<(aX ab).length
  ·have TX:(j:Int)<((aX ab).length:Int):=by omega
   have hj0:(0:Int)≤(j:Int):=by omega
   clear ej;obtain⟨op,s6⟩:∃r,(aX ab)[j]? = some r:=⟨_,azS TW⟩;obtain⟨bd,od,cd,hvd,hbd,hbG,d0,d1,d2⟩:=apw (cH.1 HW.out) s6;obtain⟨rfl,-,rfl⟩:=Value.slice.inj hvd;have agA:Ev w3 wr (fun b=>b=G):=HE.out.tr hZ.rc.1;have y0:=(agA.cell (o:=od+j*3) hbd (fun e=>hbG (.inr e))).trans d0;have y1:=(agA.cell (o:=od+j*3+1) hbd (fun e=>hbG (.inr e))).trans d1;have y2:=(agA.cell (o:=od+j*3+2) hbd (fun e=>hbG (.inr e))).trans d2;have Ql:Below wr.heap.size wr (wr.alloc (.cells (kz op).toArray 48)):=(Below.refl _ _).alloc (azJ _) _;have nr:=HB.new wr 48 (kz op).toArray;have x0:(wr.alloc (.cells #[.int .i64 op.1,.int .i64 op.2.1,.int .i64 op.2.2] 48)).cell? ⟨wr.heap.size,0,none⟩=some (.int .i64 op.1):=nr.cell 0;have x1:(wr.alloc (.cells #[.int .i64 op.1,.int .i64 op.2.1,.int .i64 op.2.2] 48)).cell? ⟨wr.heap.size,1,none⟩=some (.int .i64 op.2.1):=nr.cell 1;have x2:(wr.alloc (.cells #[.int .i64 op.1,.int .i64 op.2.1,.int .i64 op.2.2] 48)).cell? ⟨wr.heap.size,2,none⟩=some (.int .i64 op.2.2):=nr.cell 2;have g0:(wr.alloc (.cells #[.int .i64 op.1,.int .i64 op.2.1,.int .i64 op.2.2] 48)).cell? ⟨G,k*6,none⟩=some (.slice qa qn qc):=(Ql.cell (p:=⟨G,k*6,none⟩) hZ.gr).trans (hZ.rc.cell (j:=0) rfl).1;have HS:=Hw.bf (fun(W:World) (hW:Below wr.heap.size wr W)=>hZ.swe aO op hW);have Vp:=Hw.bf Ql;have HSN:=Hw.bf (And.intro (SH sr.1 s6) (Pm op aO));clear hvd agA d0 d1 d2 nr aO s6 Ql hZ;go_wp2
   go_region_with ((go_at_call 54;refine(HS.out _ Vp.out.drew).mono ?_;rintro en w5 ⟨q5,r5,rfl,hZ5,jn,⟨a5,n5,c5,rfl⟩,e5,f5⟩))
   all_goals go_wp2
   all_goals exact⟨⟨j+1,_,by omega,by congr 1,⟨_,_,_,rfl⟩,by rw[HSN.out.1];exact HSN.out.2,by rw[HSN.out.1];exact hZ5⟩,by simp[RowKit.intOf];omega⟩
  ·obtain rfl:j=(aX ab).length:=by omega
   have TX:¬ ((aX ab).length:Int)<((aX ab).length:Int):=by omega
   rw[aBi]at hZ aO;have HF:=Hw.bf (And.intro aO hZ);clear hZ aO;go_wp2;exact⟨rfl,ej _ _ _ _ _ _ _ _ _ _ _ _ _ _ _ _ _ _ _ _ _ _ _ _ HF.out.1 HF.out.2⟩
end Go.AL
namespace Go.AL
open Go.Proofs Go.RowKit
variable [ZA]
attribute [local go_sem] Oper.semAt_some
set_option maxRecDepth 100000 in
set_option maxHeartbeats 4000000 in
theorem Zm.lp4{ee:Act→World→Prop}(wi w5:World)(G n k:Nat)(l1:List aL)(qa:Option Addr)(qc:Nat)(sr:ay)(ps:List Value){c0 c1 c2 c3 c4 c5 c6 c7 c8 c9 zb yb zY zX Cx za Gy Gx zW zV ya Cw Cv Cu xZ yZ yY yX yW yV yU Dg Df De zU zT zS zR zQ zP zN zM zL zJ zH DC DB DA Ct Cs Cr Cq Cp Co Cn Cm Ck Cj Ci Ch Cg Cf Ce Cd Cc Cb zG yT yS yR yQ zF zD Io Im Il Ik Ij Ii Ih Ig Ie Ic Gw Gv Gu Gt Gs Gr Gq EM EL EK K0 KZ Gp mX mW mV mU mT mS mR mQ mP mO lJ pZ pY pX mN mM mL mK mJ se sd rZ nR nQ nP nO nN nL nJ nH nG nF tf te td pW pV pU pT pS pR pQ pP pO pM pL pJ pI pH pG pF pE pD pC pB pA pz pw pv pk pj ph pg pf pe pd pb o9 o8 o7 o6 o5 oZ oY oX oW oV nE mI mH mG mF mE mD mC lI:Value}(hkn:k<n)(gq:n≤1000)(ap7:l1.length≤68719476736)
  (hZ:Zq wi w5 G k l1 sr (.slice qa (l1.length:Nat) qc) ps)
  (ej:∀(u15 u74 u75 u76 u77 u78 u79 u80 u81 u82 u83 u84 u85 u86:Value) (w':World),Zq wi w' G k (l1.map nY) sr (.slice qa (l1.length:Nat) qc) ps→ee ⟨List.toArray (c0::c1::c2::c3::c4::c5::c6::c7::c8::c9::.slice (some ⟨G,0,none⟩) n n::.int .i64 (k:Int)::zb::yb::zY::u15::Cx::za::Gy::Gx::zW::zV::ya::Cw::Cv::Cu::xZ::yZ::yY::yX::yW::yV::yU::Dg::Df::De::zU::zT::zS::zR::zQ::zP::zN::zM::zL::zJ::zH::DC::DB::DA::Ct::Cs::Cr::Cq::Cp::Co::Cn::Cm::Ck::Cj::Ci::Ch::Cg::Cf::Ce::Cd::Cc::Cb::zG::yT::yS::yR::yQ::.int .i64 (l1.length:Int)::u74::u75::u76::u77::u78::u79::u80::u81::u82::u83::u84::u85::u86::Gw::Gv::Gu::Gt::Gs::Gr::Gq::EM::EL::EK::K0::KZ::Gp::mX::mW::mV::mU::mT::mS::mR::mQ::mP::mO::lJ::pZ::pY::pX::mN::mM::mL::mK::mJ::se::sd::rZ::nR::nQ::nP::nO::nN::nL::nJ::nH::nG::nF::tf::te::td::pW::pV::pU::pT::pS::pR::pQ::pP::pO::pM::pL::pJ::pI::pH::pG::pF::pE::pD::pC::pB::pA::pz::pw::pv::pk::pj::ph::pg::pf::pe::pd::pb::o9::o8::o7::o6::o5::oZ::oY::oX::oW::oV::nE::mI::mH::mG::mF::mE::mD::mC::lI::[]),[]⟩ w') :
  Code.wp Tryz.prog (Zm.blk 4) (Zm.Qx 4 ee) ⟨List.toArray (c0::c1::c2::c3::c4::c5::c6::c7::c8::c9::.slice (some ⟨G,0,none⟩) n n::.int .i64 (k:Int)::zb::yb::zY::zX::Cx::za::Gy::Gx::zW::zV::ya::Cw::Cv::Cu::xZ::yZ::yY::yX::yW::yV::yU::Dg::Df::De::zU::zT::zS::zR::zQ::zP::zN::zM::zL::zJ::zH::DC::DB::DA::Ct::Cs::Cr::Cq::Cp::Co::Cn::Cm::Ck::Cj::Ci::Ch::Cg::Cf::Ce::Cd::Cc::Cb::zG::yT::yS::yR::yQ::.int .i64 (l1.length:Int)::.int .i64 0::zF::zD::Io::Im::Il::Ik::Ij::Ii::Ih::Ig::Ie::Ic::Gw::Gv::Gu::Gt::Gs::Gr::Gq::EM::EL::EK::K0::KZ::Gp::mX::mW::mV::mU::mT::mS::mR::mQ::mP::mO::lJ::pZ::pY::pX::mN::mM::mL::mK::mJ::se::sd::rZ::nR::nQ::nP::nO::nN::nL::nJ::nH::nG::nF::tf::te::td::pW::pV::pU::pT::pS::pR::pQ::pP::pO::pM::pL::pJ::pI::pH::pG::pF::pE::pD::pC::pB::pA::pz::pw::pv::pk::pj::ph::pg::pf::pe::pd::pb::o9::o8::o7::o6::o5::oZ::oY::oX::oW::oV::nE::mI::mH::mG::mF::mE::mD::mC::lI::[]),[]⟩ w5:=by
 conv=>arg 2;whnf
 have yL:=Tryz.underlying61;have uK:=Tryz.underlying38;have TP:=Tryz.underlying48;have Kl:(0:Int)≤(k:Int):=by omega
 have wV:(k:Int)<(n:Int):=by omega
 have HZ:=Hw.bf (show Zq wi w5 G k (Kz nY l1 0) sr (.slice qa (l1.length:Nat) qc) ps from hZ);clear hZ
 go_loopw [74] (fun i wq=>∃j:Nat,j≤l1.length∧i=.int .i64 (j:Int)∧Zq wi wq G k (Kz nY l1 j) sr (.slice qa (l1.length:Nat) qc) ps) (fun i _=>l1.length-(RowKit.intOf i).toNat)
 case atStart=>exact⟨0,aAu _,rfl,HZ.out⟩
 case round=>
  obtain⟨j,hj,rfl,hZ⟩:=hrel;clear HZ;by_cases TW:j<l1.length
  ·have g0:wr.cell? ⟨G,k*6,none⟩=some (.slice qa (l1.length:Nat) qc):=(hZ.rc.cell (j:=0) rfl).1
   have TX:(j:Int)<(l1.length:Int):=by omega
   have hj0:(0:Int)≤(j:Int):=by omega
   clear ej;obtain⟨s,hs⟩:∃s,l1[j]? = some s:=⟨_,azS TW⟩;have hfl:=Qs nY l1 j;obtain⟨g,rfl⟩:=hZ.own.qT (show 0<(Kz nY l1 j).length by omega);have Y4:wr.there g (j*15+12) 3:=hZ.own.there (show j<(Kz nY l1 j).length by omega) (by omega);have hZ2:=hZ.ulk (j:=j) (ZJ nY hs);rw[Qr nY hs]at hZ2;have HZ2:=Hw.bf hZ2;have agx:(Tryz.prog.info? 48).map (·.size)=some 3:=by kernel_rfl
   clear hZ hZ2 hs hfl
   go_wp2_with (refine Zm.aj6 rfl 48 (.tmp 85) (.tmp 83) rfl rfl (us:=[.int .i64 0,.int .i64 0,.int .i64 0]) rfl (n:=3) rfl agx Y4 (by simp[Value.oneCell']) rfl ?_)
   exact⟨⟨j+1,by omega,by congr 1,HZ2.out⟩,by simp[RowKit.intOf];omega⟩
  ·obtain rfl:j=l1.length:=by omega
   have TX:¬ (l1.length:Int)<(l1.length:Int):=by omega
   rw[Qt]at hZ;have HF:=Hw.bf hZ;clear hZ;go_wp2;exact⟨rfl,ej _ _ _ _ _ _ _ _ _ _ _ _ _ _ _ HF.out⟩
end Go.AL
