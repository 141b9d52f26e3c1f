/- AI. -/
import Derived.Test.YtfggefeflojnkaaGreatZ6
import Derived.Shelf.SlLaysF0
import Derived.Shelf.SlGeneric
import Derived.Ground.SlsfProg
set_option linter.unusedSimpArgs false
set_option linter.unusedVariables false
namespace Go.AL
open Go.Proofs Go.RowKit
attribute [local go_sem] Oper.semAt_some
theorem Zc.aoc{P:Program}{w:World}{ops:Array Oper}{rest:List Oper}{o:Oper}{a:Act}{Q:Exit→Act→World→Prop}(Km:o.guard=none)(s:Operand)(t:TypeId)
  (ho:o.op=.call {callee:=.builtin .clear,args:=#[s],argTypes:=#[t] }) {v:Value} (hs:a.eval s=v) {R:World→Prop}
  (hr:∃w',(Builtin.clear_ #[t] o.type #[v]).run P w=.ok (.tuple #[]) w'∧R w') (hd:o.dst=none) (h:∀w',R w'→wpList P ops Q rest a w'):wpList P ops Q (o::rest) a w:=by
 refine wpList_plain Km fun _ hK=>?_
 obtain⟨w',h1,h2⟩:=hr;unfold Oper.wp execOp;simp only[ho,resolve,invoke,builtin,Sem.run_bind,Sem.run_pure,Result.andThen_ok,List.map_toArray,aAy,aBq,hs,h1];have:=h w' h2;rw[show a=a.put o.dst (.tuple #[])by rw[hd];rfl]at this;exact hK _ _ this
def Zc.ee(w:World)(n0:Nat)(l:List aj)(u:Value)(en:Ending)(w':World):Prop:=∃u',en=.returned u'∧aR w' gl n0 48 3 aE (nD l) u'∧Ev w w' (fun q=>u.ownBlock=some q)∧(∀g,u'.ownBlock=some g→u.ownBlock=some g)
structure Zc.In (w wr:World) (n0 b cap N:Nat) (l R:List aj) (K k p:Nat):Prop where
 ev:Ev w wr (fun q=>q=b)
 own:aR wr gl n0 48 3 aE R (.slice (some ⟨b,0,none⟩) (N:Nat) cap)
 len:R.length=N
 k0:1≤k
 kp:k≤p-1
 pN:p≤N
 pK:K<p
 front:R.take k=nD (l.take p)
 back:∀i,k≤i→R[i]? = l[i]?
theorem Zc.In.low{w wr w':World}{n0 b cap N K k p:Nat}{l R:List aj}(H:Zc.In w wr n0 b cap N l R K k p)(hb:Ev wr w' (fun _=>False)):Zc.In w w' n0 b cap N l R K k p:=
 ⟨H.ev.tr ⟨hb.os,hb.tape,hb.output,hb.size,fun q hq _=>hb.block q (by grind) (fun h=>h)⟩,H.own.ev hb (fun _ _ h=>h.elim) (fun _ _ h=>h) (fun _ _ h=>h),H.len,H.k0,H.kp,H.pN,H.pK,H.front,H.back⟩
theorem Zc.In.TH{w wr:World}{n0 b cap N K k p:Nat}{l R:List aj}(H:Zc.In w wr n0 b cap N l R K k p){x y:aj}(hx:l[p-1]? = some x)(hy:l[p]? = some y)(h:y=x)(hp:p<N):Zc.In w wr n0 b cap N l R K k (p+1):=
 ⟨H.ev,H.own,H.len,H.k0,by have:=H.kp;omega,hp,by have:=H.pK;omega,by rw[rv (by have:=H.pK;omega) hx hy,azC h,azH];exact H.front,H.back⟩
theorem Zc.In.put{w wr:World}{n0 b cap N K k p:Nat}{l R:List aj}(hb:b<w.heap.size)(H:Zc.In w wr n0 b cap N l R K k p){x y:aj}(hx:l[p-1]? = some x)(hy:l[p]? = some y)(h:¬ y=x)(hp:p<N):
  Zc.In w (((wr.setCell ⟨b,k*3,none⟩ (.int .i64 y.1)).setCell ⟨b,k*3+1,none⟩ (.int .i64 y.2.1)).setCell ⟨b,k*3+2,none⟩ (.int .i64 y.2.2)) n0 b cap N l (R.set k y) K (k+1) (p+1):=by
 have hkN:k<N:=by have:=H.kp;omega
 have hkR:k<R.length:=by rw[H.len];exact hkN
 refine⟨H.ev.tr (Ev.st (X:=fun q=>q=b) (Ev.st (X:=fun q=>q=b) (Ev.st (X:=fun q=>q=b) (Ev.rf wr _) b _ _ (.inl rfl)) b _ _ (.inl rfl)) b _ _ (.inl rfl)),aR.aoS H.len.symm H.own hkN y,by rw[azX];exact H.len,by omega,by have:=H.kp;have:=H.pK;omega,hp,by have:=H.pK;omega,?_,fun i hi=>?_⟩
 ·rw[rv (by have:=H.pK;omega) hx hy,azK h,azI,← H.front,aAz,aA6 hkR,aCi (azJ _)]
  rfl
 ·rw[aBc (by omega)]
  exact H.back i (by omega)
set_option maxRecDepth 100000 in
set_option maxHeartbeats 4000000 in
theorem Zc.calls(w:World)(n0:Nat)(l:List aj)(u:Value)(h:aR w gl n0 48 3 aE l u)(hl:l.length≤1000000):Calls Tryz.prog 50 #[u] w (Zc.ee w n0 l u):=by
 have Y1:=Tryz.underlying36;have agk:=Tryz.underlying48;obtain⟨ua,uc,rfl⟩:=(show ∃a c,u=.slice a (l.length:Nat) c from h.form);by_cases h2:l.length<2
 ·have h2i:(l.length:Int)<2:=by omega
  have hc:nD l=l:=by
   match l,h2 with
   | [],_=>rfl
   | [x],_=>rfl
   | _::_::_,h2=>simp at h2;omega
  have HP:=Hw.bf (show Zc.ee w n0 l (.slice ua (l.length:Nat) uc) (.returned (.slice ua (l.length:Nat) uc)) w from⟨_,rfl,by rw[hc];exact h,Ev.rf _ _,fun _ h=>h⟩);clear hc h;go_enter Tryz.func50,Tryz.ntmps50;go_wp2;go_ret;exact HP.out
 ·have h2i:¬ (l.length:Int)<2:=by omega
  obtain⟨b,rfl⟩:∃b,ua=some ⟨b,0,none⟩:=by
   rcases h with⟨e,e2⟩ | ⟨g,cap,cur,e,_⟩
   ·have e2:l=[]:=e2
    rw[e2]at h2;exact absurd (by decide) h2
   ·obtain⟨rfl,_,_⟩:=Value.slice.inj e;exact⟨g,rfl⟩
  have jM:l.length≤uc:=by
   rcases h with⟨e,e2⟩ | ⟨g,cap,cur,e,_,_,_,h4,_⟩
   ·cases e
   ·obtain⟨_,_,rfl⟩:=Value.slice.inj e;exact h4
  have hb0:b<w.heap.size:=(h.lt rfl).2;have hw0:Ev w w (fun _=>False)∧aR w gl n0 48 3 aE l (.slice (some ⟨b,0,none⟩) (l.length:Nat) uc):=⟨Ev.rf _ _,h⟩;have Hh:=Hw.bf h;clear h;go_enter Tryz.func50,Tryz.ntmps50;go_wp2
  go_loopw [3] (fun i wr=>∃k:Nat,1≤k∧k≤l.length∧i=.int .i64 (k:Int)∧nD (l.take k)=l.take k∧(Ev w wr (fun _=>False)∧aR wr gl n0 48 3 aE l (.slice (some ⟨b,0,none⟩) (l.length:Nat) uc))) (fun i _=>l.length-(intOf i).toNat)
  case atStart=>exact⟨1,azJ _,by omega,rfl,by
   match l,h2 with
   | [],h2=>simp at h2
   | x::r,_=>rfl,hw0⟩
  case round=>
   obtain⟨k,wV,Dv,rfl,V3,bm,eU⟩:=hrel;clear hw0;have HC:=Hw.bf (And.intro V3 (And.intro bm eU));by_cases bO:k<l.length
   ·have hki:(k:Int)<(l.length:Int):=by omega
    have Kl:(0:Int)≤(k:Int):=by omega
    obtain⟨j,rfl⟩:∃j,k=j+1:=⟨k-1,by omega⟩;obtain⟨y,hy⟩:∃y,l[j+1]? = some y:=⟨_,azS bO⟩;obtain⟨x,hx⟩:∃x,l[j]? = some x:=⟨_,azS (by omega)⟩;have HX:=Hw.bf (And.intro hx hy);obtain⟨y0,y1,y2,_⟩:=eU.YW hy;obtain⟨x0,x1,x2,_⟩:=eU.YW hx;clear hx hy V3 bm eU;have TX:(0:Int)≤(j:Int):=by omega
    have hj2:(j:Int)+1<(l.length:Int):=by omega
    have hj3:(0:Int)≤(j:Int)+1:=by omega
    have hj4:((j:Int)+1).toNat=j+1:=by omega
    have hj5:(j:Int)<(l.length:Int):=by omega
    have hj6:IntKind.i64.wrap ((j:Int)+1-1)=(j:Int):=az (by omega) (by omega) |>.trans (by omega)
    have hj7:IntKind.i64.wrap (j:Int)=(j:Int):=az (by omega) (by omega);obtain⟨r,hr⟩:∃r,decide (y=x)=r:=⟨_,rfl⟩;have HN:=Hw.bf hr;clear hr;go_wp2;refine wp_region_held (S:=(fun w':World=>w'.cell? ⟨b,(j+1)*3,none⟩=some (.int .i64 y.1)∧w'.cell? ⟨b,(j+1)*3+1,none⟩=some (.int .i64 y.2.1)∧w'.cell? ⟨b,(j+1)*3+2,none⟩=some (.int .i64 y.2.2)∧w'.cell? ⟨b,j*3,none⟩=some (.int .i64 x.1)∧w'.cell? ⟨b,j*3+1,none⟩=some (.int .i64 x.2.1)∧w'.cell? ⟨b,j*3+2,none⟩=some (.int .i64 x.2.2))) mixed ?_;have bX:(fun w':World=>w'.cell? ⟨b,(j+1)*3,none⟩=some (.int .i64 y.1)∧w'.cell? ⟨b,(j+1)*3+1,none⟩=some (.int .i64 y.2.1)∧w'.cell? ⟨b,(j+1)*3+2,none⟩=some (.int .i64 y.2.2)∧w'.cell? ⟨b,j*3,none⟩=some (.int .i64 x.1)∧w'.cell? ⟨b,j*3+1,none⟩=some (.int .i64 x.2.1)∧w'.cell? ⟨b,j*3+2,none⟩=some (.int .i64 x.2.2)) {wr with drawn:=wr.drawn+1 }:=⟨y0,y1,y2,x0,x1,x2⟩
    iterate 9 ((first | refine Hw.tk 0 (v:=?_) rfl (fun _ _ _ h=>h) (Or.inl ⟨by rfl,?_⟩) bX ?_ | refine Hw.tk 1 (v:=?_) rfl (fun _ _ _ h=>h) (Or.inl ⟨by rfl,?_⟩) bX ?_ | refine Hw.tk 2 (v:=?_) rfl (fun _ _ _ h=>h) (Or.inl ⟨by rfl,?_⟩) bX ?_ | refine Hw.tk 3 (v:=?_) rfl (fun _ _ _ h=>h) (Or.inl ⟨by rfl,?_⟩) bX ?_ | refine Hw.tk 4 (v:=?_) rfl (fun _ _ _ h=>h) (Or.inl ⟨by rfl,?_⟩) bX ?_ | refine Hw.tk 5 (v:=?_) rfl (fun _ _ _ h=>h) (Or.inl ⟨by rfl,?_⟩) bX ?_ | refine Hw.tk 6 (v:=?_) rfl (fun _ _ _ h=>h) (Or.inl ⟨by rfl,?_⟩) bX ?_ | refine Hw.tk 7 (v:=?_) rfl (fun _ _ _ h=>h) (Or.inl ⟨by rfl,?_⟩) bX ?_ | refine Hw.tk 8 (v:=?_) rfl (fun _ _ _ h=>h) (Or.inl ⟨by rfl,?_⟩) bX ?_);rotate_left;(intro w yN;(try dsimp only at yN);go_simp;try with_reducible rfl);try simp only[Act.put,List.getElem_toArray,List.getElem_cons_succ,List.getElem_cons_zero,List.setIfInBounds_toArray,List.set_cons_zero,List.set_cons_succ])
    refine wpAnyH_take (i:=9) (oi:=_) (v:=.bool r) rfl (by kernel_rfl) (by kernel_rfl) (by kernel_rfl) (fun _ _ _ h=>h) (Or.inl ⟨by rfl,?y9⟩) bX ?r9
    case y9=>
     intro w yN;refine Zc.exe (X:=.tmp 19) (Y:=.tmp 24) (x:=y) (y:=x) (op:=.eql) (t:=48) ?_ ?_ ?_ (.inl ⟨rfl,HN.out.symm⟩) w
     ·exact rfl
     ·simp[Act.eval,Yh.v]
     ·simp[Act.eval,Yh.v]
    try simp only[Act.put,List.getElem_toArray,List.getElem_cons_succ,List.getElem_cons_zero,List.setIfInBounds_toArray,List.set_cons_zero,List.set_cons_succ]
    refine wpAnyH_done (by kernel_rfl) ?_ _;have HW:=Hw.bf (show Ev w {wr with drawn:=wr.drawn+1 } (fun _=>False)∧aR {wr with drawn:=wr.drawn+1 } gl n0 48 3 aE l (.slice (some ⟨b,0,none⟩) (l.length:Nat) uc)from by
     have e:Ev wr {wr with drawn:=wr.drawn+1 } (fun _=>False):=⟨rfl,rfl,rfl,azJ _,fun _ _ _=>rfl⟩;exact⟨HC.out.2.1.tr ⟨rfl,rfl,rfl,azJ _,fun _ _ _=>rfl⟩,HC.out.2.2.ev e (fun _ _ h=>h) (fun _ _ h=>h) (fun _ _ h=>h)⟩)
    clear bX y0 y1 y2 x0 x1 x2;generalize ({wr with drawn:=wr.drawn+1 }:World)=W1 at *;clear hj4 hj6 hj7;cases r with
    | false=>
     have HE:=Hw.bf (show nD (l.take (j+2))=l.take (j+2)from by
      rw[rv (by omega:0<j+1) HX.out.1 HX.out.2,HN.out,azI,HC.out.1,aAz (i:=j+1),HX.out.2];rfl)
     go_wp2;exact⟨⟨j+2,by omega,by omega,by congr 1,HE.out,HW.out⟩,by simp[intOf];omega⟩
    | true=>
     have ax6:¬ uc=j+1:=by omega
     have rX:j+1≤uc:=by omega
     have hIn:Zc.In w W1 n0 b uc l.length l l (j+1) (j+1) (j+2):=by
      have hyx:y=x:=azZ HN.out;refine⟨HW.out.1.mono (fun _ _ h=>h.elim),HW.out.2,rfl,by omega,by omega,by omega,by omega,?_,fun _ _=>rfl⟩;rw[rv (by omega:0<j+1) HX.out.1 HX.out.2,HN.out,azH,HC.out.1]
     have HK:=Hw.bf (And.intro bO hki);clear HC HW HN HX;go_wp2
     go_loopw [3,5] (fun x3 x5 wr=>∃(k q:Nat) (R:List aj),1≤q∧x3=.int .i64 (k:Int)∧x5=.int .i64 (q:Int)∧Zc.In w wr n0 b uc l.length l R (j+1) k (j+1+q)) (fun _ x5 _=>l.length-(intOf x5).toNat)
     case atStart=>exact⟨j+1,1,l,azJ _,by congr 1,rfl,hIn⟩
     case round=>
      obtain⟨k,q,R,hq1,rfl,rfl,hI⟩:=hrel;clear hIn TX hj2 hj3 hj5 Kl wV Dv;by_cases hql:j+1+q<l.length
      ·obtain⟨t,rfl⟩:∃t,q=t+1:=⟨q-1,by omega⟩
       obtain⟨y,hy⟩:∃y,l[j+1+(t+1)]? = some y:=⟨_,azS hql⟩;obtain⟨x,hx⟩:∃x,l[j+1+(t+1)-1]? = some x:=⟨_,azS (by omega)⟩;have hky:k≤j+1+t:=by have:=hI.kp;omega
       have hyR:R[j+1+(t+1)]? = some y:=(hI.back _ (by omega)).trans hy;have hxR:R[j+1+t]? = some x:=(hI.back _ hky).trans (by rw[← hx];congr 1);obtain⟨y0,y1,y2,_⟩:=hI.own.YW hyR;obtain⟨x0,x1,x2,_⟩:=hI.own.YW hxR;rw[show(j+1+(t+1))*3=(j+1)*3+(t+1)*3 by omega]at y0 y1 y2;rw[show(j+1+t)*3=(j+1)*3+t*3 by omega]at x0 x1 x2;obtain⟨z,hz⟩:∃z,R[k]? = some z:=⟨_,azS (by rw[hI.len];omega)⟩;have HI:=Hw.bf (And.intro hI (And.intro hx (And.intro hy (And.intro hz hky))));have g1:(t:Int)+1<((l.length-(j+1):Nat):Int):=by omega
       have g2:(0:Int)≤(t:Int)+1:=by omega
       have g3:((t:Int)+1).toNat=t+1:=by omega
       have g4:(t:Int)<((l.length-(j+1):Nat):Int):=by omega
       have g5:(0:Int)≤(t:Int):=by omega
       have g6:IntKind.i64.wrap ((t:Int)+1-1)=(t:Int):=(az (by omega) (by omega)).trans (by omega);have g7:IntKind.i64.wrap (t:Int)=(t:Int):=az (by omega) (by omega);obtain⟨r,hr⟩:∃r,(!decide (y=x))=r:=⟨_,rfl⟩;have HN:=Hw.bf hr;clear hI hy hx hyR hxR hz hky hr;go_wp2;refine wp_region_held (S:=(fun w':World=>w'.cell? ⟨b,(j+1)*3+(t+1)*3,none⟩=some (.int .i64 y.1)∧w'.cell? ⟨b,(j+1)*3+(t+1)*3+1,none⟩=some (.int .i64 y.2.1)∧w'.cell? ⟨b,(j+1)*3+(t+1)*3+2,none⟩=some (.int .i64 y.2.2)∧w'.cell? ⟨b,(j+1)*3+t*3,none⟩=some (.int .i64 x.1)∧w'.cell? ⟨b,(j+1)*3+t*3+1,none⟩=some (.int .i64 x.2.1)∧w'.cell? ⟨b,(j+1)*3+t*3+2,none⟩=some (.int .i64 x.2.2))) mixed ?_;have bX:(fun w':World=>w'.cell? ⟨b,(j+1)*3+(t+1)*3,none⟩=some (.int .i64 y.1)∧w'.cell? ⟨b,(j+1)*3+(t+1)*3+1,none⟩=some (.int .i64 y.2.1)∧w'.cell? ⟨b,(j+1)*3+(t+1)*3+2,none⟩=some (.int .i64 y.2.2)∧w'.cell? ⟨b,(j+1)*3+t*3,none⟩=some (.int .i64 x.1)∧w'.cell? ⟨b,(j+1)*3+t*3+1,none⟩=some (.int .i64 x.2.1)∧w'.cell? ⟨b,(j+1)*3+t*3+2,none⟩=some (.int .i64 x.2.2)) {wr with drawn:=wr.drawn+1 }:=⟨y0,y1,y2,x0,x1,x2⟩;refine wpAnyH_take (i:=0) (oi:=_) (v:=?vb0) rfl (by kernel_rfl) (by kernel_rfl) (by kernel_rfl) (fun _ _ _ h=>h) (Or.inl ⟨by rfl,?yb0⟩) bX ?rb0
       case yb0=>(intro w yN;(try dsimp only at yN);go_simp;try with_reducible rfl)
       try simp only[Act.put,List.getElem_toArray,List.getElem_cons_succ,List.getElem_cons_zero,List.setIfInBounds_toArray,List.set_cons_zero,List.set_cons_succ]
       refine wpAnyH_take (i:=1) (oi:=_) (v:=?vb1) rfl (by kernel_rfl) (by kernel_rfl) (by kernel_rfl) (fun _ _ _ h=>h) (Or.inl ⟨by rfl,?yb1⟩) bX ?rb1
       case yb1=>(intro w yN;(try dsimp only at yN);go_simp;try with_reducible rfl)
       try simp only[Act.put,List.getElem_toArray,List.getElem_cons_succ,List.getElem_cons_zero,List.setIfInBounds_toArray,List.set_cons_zero,List.set_cons_succ]
       refine wpAnyH_take (i:=2) (oi:=_) (v:=?vb2) rfl (by kernel_rfl) (by kernel_rfl) (by kernel_rfl) (fun _ _ _ h=>h) (Or.inl ⟨by rfl,?yb2⟩) bX ?rb2
       case yb2=>(intro w yN;(try dsimp only at yN);go_simp;try with_reducible rfl)
       try simp only[Act.put,List.getElem_toArray,List.getElem_cons_succ,List.getElem_cons_zero,List.setIfInBounds_toArray,List.set_cons_zero,List.set_cons_succ]
       refine wpAnyH_take (i:=3) (oi:=_) (v:=?vb3) rfl (by kernel_rfl) (by kernel_rfl) (by kernel_rfl) (fun _ _ _ h=>h) (Or.inl ⟨by rfl,?yb3⟩) bX ?rb3
       case yb3=>(intro w yN;(try dsimp only at yN);go_simp;try with_reducible rfl)
       try simp only[Act.put,List.getElem_toArray,List.getElem_cons_succ,List.getElem_cons_zero,List.setIfInBounds_toArray,List.set_cons_zero,List.set_cons_succ]
       refine wpAnyH_take (i:=4) (oi:=_) (v:=?vb4) rfl (by kernel_rfl) (by kernel_rfl) (by kernel_rfl) (fun _ _ _ h=>h) (Or.inl ⟨by rfl,?yb4⟩) bX ?rb4
       case yb4=>(intro w yN;(try dsimp only at yN);go_simp;try with_reducible rfl)
       try simp only[Act.put,List.getElem_toArray,List.getElem_cons_succ,List.getElem_cons_zero,List.setIfInBounds_toArray,List.set_cons_zero,List.set_cons_succ]
       refine wpAnyH_take (i:=5) (oi:=_) (v:=?vb5) rfl (by kernel_rfl) (by kernel_rfl) (by kernel_rfl) (fun _ _ _ h=>h) (Or.inl ⟨by rfl,?yb5⟩) bX ?rb5
       case yb5=>(intro w yN;(try dsimp only at yN);go_simp;try with_reducible rfl)
       try simp only[Act.put,List.getElem_toArray,List.getElem_cons_succ,List.getElem_cons_zero,List.setIfInBounds_toArray,List.set_cons_zero,List.set_cons_succ]
       refine wpAnyH_take (i:=6) (oi:=_) (v:=?vb6) rfl (by kernel_rfl) (by kernel_rfl) (by kernel_rfl) (fun _ _ _ h=>h) (Or.inl ⟨by rfl,?yb6⟩) bX ?rb6
       case yb6=>(intro w yN;(try dsimp only at yN);go_simp;try with_reducible rfl)
       try simp only[Act.put,List.getElem_toArray,List.getElem_cons_succ,List.getElem_cons_zero,List.setIfInBounds_toArray,List.set_cons_zero,List.set_cons_succ]
       refine wpAnyH_take (i:=7) (oi:=_) (v:=?vb7) rfl (by kernel_rfl) (by kernel_rfl) (by kernel_rfl) (fun _ _ _ h=>h) (Or.inl ⟨by rfl,?yb7⟩) bX ?rb7
       case yb7=>(intro w yN;(try dsimp only at yN);go_simp;try with_reducible rfl)
       try simp only[Act.put,List.getElem_toArray,List.getElem_cons_succ,List.getElem_cons_zero,List.setIfInBounds_toArray,List.set_cons_zero,List.set_cons_succ]
       refine wpAnyH_take (i:=8) (oi:=_) (v:=?vb8) rfl (by kernel_rfl) (by kernel_rfl) (by kernel_rfl) (fun _ _ _ h=>h) (Or.inl ⟨by rfl,?yb8⟩) bX ?rb8
       case yb8=>(intro w yN;(try dsimp only at yN);go_simp;try with_reducible rfl)
       try simp only[Act.put,List.getElem_toArray,List.getElem_cons_succ,List.getElem_cons_zero,List.setIfInBounds_toArray,List.set_cons_zero,List.set_cons_succ]
       refine wpAnyH_take (i:=9) (oi:=_) (v:=.bool r) rfl (by kernel_rfl) (by kernel_rfl) (by kernel_rfl) (fun _ _ _ h=>h) (Or.inl ⟨by rfl,?yb9⟩) bX ?rb9
       case yb9=>
        intro w yN;refine Zc.exe (X:=.tmp 38) (Y:=.tmp 43) (x:=y) (y:=x) (op:=.neq) (t:=48) ?_ ?_ ?_ (.inr ⟨rfl,HN.out.symm⟩) w
        ·exact rfl
        ·simp[Act.eval,Yh.v]
        ·simp[Act.eval,Yh.v]
       try simp only[Act.put,List.getElem_toArray,List.getElem_cons_succ,List.getElem_cons_zero,List.setIfInBounds_toArray,List.set_cons_zero,List.set_cons_succ]
       refine wpAnyH_done (by kernel_rfl) ?_ _;have hI1:Zc.In w {wr with drawn:=wr.drawn+1 } n0 b uc l.length l R (j+1) k (j+1+(t+1)):=HI.out.1.low ⟨rfl,rfl,rfl,azJ _,fun _ _ _=>rfl⟩;obtain⟨y0,y1,y2,-,-,-⟩:=bX;obtain⟨z0,z1,z2,z3,z4,z5⟩:=hI1.own.YW HI.out.2.2.2.1;have HJ:=Hw.bf hI1;clear hI1 x0 x1 x2 g6 g7 g3;generalize ({wr with drawn:=wr.drawn+1 }:World)=W2 at *;have hkN:(k:Int)<(l.length:Int):=by have:=HI.out.2.2.2.2;omega
       have Kl:(0:Int)≤(k:Int):=by omega
       have g3:((t:Int)+1).toNat=t+1:=by omega
       cases r with
       | false=>
        have HP:=Hw.bf (HJ.out.TH HI.out.2.1 HI.out.2.2.1 (by have:=HN.out;simpa using this) hql);go_wp2;exact⟨⟨k,t+2,R,by omega,rfl,by congr 1,HP.out⟩,by simp[intOf];omega⟩
       | true=>
        have HP:=Hw.bf (HJ.out.put hb0 HI.out.2.1 HI.out.2.2.1 (by have:=HN.out;simpa using this) hql);go_wp2;exact⟨⟨k+1,t+2,R.set k y,by omega,by congr 1,by congr 1,HP.out⟩,by simp[intOf];omega⟩
      ·have hqe:j+1+q=l.length:=by have:=hI.pN;omega
       have hnq:¬ (q:Int)<((l.length-(j+1):Nat):Int):=by omega
       have hkN:k≤l.length-1:=by have:=hI.kp;omega
       have k1:1≤k:=hI.k0;have Kl:(0:Int)≤(k:Int):=by omega
       have Dv:(k:Int)≤(l.length:Int):=by omega
       have hku:(k:Int)≤(uc:Int):=by omega
       have hkn:k≤l.length:=by omega
       have hkc:k≤uc:=by omega
       have dU:¬ uc=k:=by omega
       rw[hqe]at hI;have HC:=Hw.bf (fun ty=>aR.clr hI.len.symm hI.own (k:=k) (m:=l.length-k) (c:=uc-k) (by omega) (by omega) ty);have HF:=Hw.bf (And.intro hI.front hI.ev);clear hI hqe
       go_wp2_with (refine Zc.aoc rfl (.tmp 56) 36 rfl rfl (HC.out _) rfl ?_;rintro w5 ⟨VZ,he5⟩)
       go_ret;refine⟨_,rfl,?_,(HF.out.2.mono fun _ _ h=>by rw[h];rfl).tr (he5.mono fun _ _ h=>by rw[h];rfl),fun g hg=>hg⟩;have h1:=HF.out.1;rw[aBi]at h1;rw[← h1];exact VZ
   ·obtain rfl:k=l.length:=by omega
    have hki:¬ (l.length:Int)<(l.length:Int):=by omega
    rw[aBi]at V3;have HP:=Hw.bf (show Zc.ee w n0 l (.slice (some ⟨b,0,none⟩) (l.length:Nat) uc) (.returned (.slice (some ⟨b,0,none⟩) (l.length:Nat) uc)) wr from⟨_,rfl,by rw[V3];exact eU,bm.mono (fun _ _ h=>h.elim),fun _ h=>h⟩);clear V3 bm eU HC;go_wp2;go_ret;exact HP.out
end Go.AL
namespace Go.Proofs
open Go.Shelf
def Tryz.Mo:Go.Shelf.Ren:=⟨fun | 6=>48 | 15=>82 | 14=>81 | 28=>121 | 29=>122 | 20=>113 | 21=>114 | 22=>115 | 23=>116 | 24=>117 | 25=>118 | 26=>119 | 27=>120 | 46=>139 | 47=>140 | 48=>141 | 49=>142 | 50=>143 | 57=>150 | n=>n,fun | 22=>36 | 24=>48 | 25=>104 | 3=>3 | 39=>28 | 0=>0 | 53=>171 | 55=>173 | 4=>4 | 46=>165 | 45=>164 | 50=>116 | 5=>5 | 9=>9 | 66=>183 | 70=>187 | 76=>193 | 77=>194 | n=>n,fun | n=>n⟩
theorem Tryz.W4:Go.Proofs.SlLaysF0.n6 Tryz.prog Tryz.Mo:={
 mixed:=by kernel_rfl
 f6:=⟨Tryz.f48.name,by decide,Tryz.func48.trans (azT some (by kernel_rfl))⟩
 f14:=⟨Tryz.f81.name,by decide,Tryz.func81.trans (azT some (by kernel_rfl))⟩
 f15:=Tryz.func82.trans (azT some (by kernel_rfl))
 f20:=⟨Tryz.f113.name,by decide,Tryz.func113.trans (azT some (by kernel_rfl))⟩
 f21:=⟨Tryz.f114.name,by decide,Tryz.func114.trans (azT some (by kernel_rfl))⟩
 f22:=⟨Tryz.f115.name,by decide,Tryz.func115.trans (azT some (by kernel_rfl))⟩
 f23:=⟨Tryz.f116.name,by decide,Tryz.func116.trans (azT some (by kernel_rfl))⟩
 f24:=⟨Tryz.f117.name,by decide,Tryz.func117.trans (azT some (by kernel_rfl))⟩
 f25:=⟨Tryz.f118.name,by decide,Tryz.func118.trans (azT some (by kernel_rfl))⟩
 f26:=⟨Tryz.f119.name,by decide,Tryz.func119.trans (azT some (by kernel_rfl))⟩
 f27:=⟨Tryz.f120.name,by decide,Tryz.func120.trans (azT some (by kernel_rfl))⟩
 f28:=Tryz.func121.trans (azT some (by kernel_rfl))
 f29:=Tryz.func122.trans (azT some (by kernel_rfl))
 f46:=⟨Tryz.f139.name,by decide,Tryz.func139.trans (azT some (by kernel_rfl))⟩
 f47:=Tryz.func140.trans (azT some (by kernel_rfl))
 f48:=Tryz.func141.trans (azT some (by kernel_rfl))
 f49:=⟨Tryz.f142.name,by decide,Tryz.func142.trans (azT some (by kernel_rfl))⟩
 f50:=⟨Tryz.f143.name,by decide,Tryz.func143.trans (azT some (by kernel_rfl))⟩
 f57:=⟨Tryz.f150.name,by decide,Tryz.func150.trans (azT some (by kernel_rfl))⟩
 t0:=Tryz.underlying0
 a0:=Tryz.isAgg0
 z0:=Tryz.sizeOf0
 v0:=Tryz.zeroValue0
 t3:=Tryz.underlying3
 a3:=Tryz.isAgg3
 z3:=Tryz.sizeOf3
 v3:=Tryz.zeroValue3
 t4:=Tryz.underlying4
 a4:=Tryz.isAgg4
 z4:=Tryz.sizeOf4
 v4:=Tryz.zeroValue4
 t5:=Tryz.underlying5
 a5:=Tryz.isAgg5
 z5:=Tryz.sizeOf5
 v5:=Tryz.zeroValue5
 t9:=Tryz.underlying9
 a9:=Tryz.isAgg9
 z9:=Tryz.sizeOf9
 v9:=Tryz.zeroValue9
 t22:=Tryz.underlying36
 a22:=Tryz.isAgg36
 z22:=Tryz.sizeOf36
 v22:=Tryz.zeroValue36
 t25:=Tryz.underlying104
 a25:=Tryz.isAgg104
 z25:=Tryz.sizeOf104
 v25:=Tryz.zeroValue104
 t39:=Tryz.underlying28
 a39:=Tryz.isAgg28
 z39:=Tryz.sizeOf28
 v39:=Tryz.zeroValue28
 t45:=Tryz.underlying164
 a45:=Tryz.isAgg164
 z45:=Tryz.sizeOf164
 v45:=Tryz.zeroValue164
 t46:=Tryz.underlying165
 a46:=Tryz.isAgg165
 z46:=Tryz.sizeOf165
 v46:=Tryz.zeroValue165
 t50:=Tryz.underlying116
 a50:=Tryz.isAgg116
 z50:=Tryz.sizeOf116
 v50:=Tryz.zeroValue116
 t53:=Tryz.underlying171
 a53:=Tryz.isAgg171
 z53:=Tryz.sizeOf171
 v53:=Tryz.zeroValue171
 t55:=Tryz.underlying173
 a55:=Tryz.isAgg173
 z55:=Tryz.sizeOf173
 v55:=Tryz.zeroValue173
 t66:=Tryz.underlying183
 a66:=Tryz.isAgg183
 z66:=Tryz.sizeOf183
 v66:=Tryz.zeroValue183
 t70:=Tryz.underlying187
 a70:=Tryz.isAgg187
 z70:=Tryz.sizeOf187
 v70:=Tryz.zeroValue187
 t76:=Tryz.underlying193
 a76:=Tryz.isAgg193
 z76:=Tryz.sizeOf193
 v76:=Tryz.zeroValue193
 t77:=Tryz.underlying194
 a77:=Tryz.isAgg194
 z77:=Tryz.sizeOf194
 v77:=Tryz.zeroValue194 }
