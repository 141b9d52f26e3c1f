/- By an AI agent. -/
import Derived.Test.YtfggefeflojnkaaGreatYq
set_option linter.unusedVariables false
namespace Go.AL
open Go.Proofs Go.RowKit
attribute [local go_sem] Oper.semAt_some
theorem Hw.bT{p:Prop}(h:p):Hid p:=h
theorem Cl.form{w:World}{A:Nat→Prop}{τ:List Ty}{xs:List (az τ)}{u:Value}(h:Cl w A (.sl τ) xs u):∃a n c,u=.slice a n c:=by
 obtain⟨a,c,e⟩:=(cX.1 h).form;exact⟨a,_,c,e⟩
theorem Cl.low{w w':World}{A:Nat→Prop}{t:Ty}{x:t.T}{u:Value}(h:Cl w A t x u)(hb:Below w.heap.size w w'):Cl w' A t x u:=h.fr (fun b jb _=>hb.block b jb) hb.size (fun _ _ h=>h)
theorem Hw.akF{w:World}{A:Nat→Prop}{n0:Nat}{b:Bool}{us:List Value}(h:Rss w A n0 [.v .bool] b us):jq us=.bool b:=by
 obtain⟨u,rfl,hu⟩:=(show ∃u,us=[u]∧Cl w A .bool b u from h);exact FU hu
theorem Zh.emp{w:World}{A:Nat→Prop}{s:ax}{p:Value}(h:Cl w A (.sl aH) s.2.2.2.1 p):Calls Tryz.prog 89 #[.agg (sE s p).toArray] w fun en w'=>en=.returned (.bool (bJ s))∧Below w.heap.size w w':=by
 have h0:Cl w (fun _=>False) (.sl aH) s.2.2.2.1 p:=h.fr (cZ.refl _ _) (aCt _) (fun _ _ h=>h.elim);refine(Hw.call wD (s:ax) rfl (A:=fun _=>False) (fun b h=>h.elim) (us:=#[.agg (sE s p).toArray]) (Hy.one (Ag.g (EL h0)))).mono fun en w' hh=>?_
 obtain⟨us,A',rfl,hr,_,_,hB⟩:=hh;exact⟨aCL Ending.returned (Hw.akF hr),hB⟩
theorem Zh.aq3{P:Program}{w:World}{ops:Array Oper}{rest:List Oper}{o:Oper}{a:Act}{Q:Exit→Act→World→Prop}(KC:o.guard=none)(m k x:Operand)(t:TypeId)
  (ho:o.op=.mapUpdate t m k x) {u y z:Value} (hm:a.eval m=u) (hk:a.eval k=y) (hx:a.eval x=z) {R:World→Prop} (hr:∃w',(Instr.mapUpdate t u y z).run P w=.ok () w'∧R w') (h:∀w',R w'→wpList P ops Q rest (a.put o.dst (.tuple #[])) w'):wpList P ops Q (o::rest) a w:=by
 refine wpList_plain KC fun _ hK=>?_
 obtain⟨w',h1,h2⟩:=hr;unfold Oper.wp execOp;simp only[ho,hm,hk,hx,Sem.run_bind,h1,Result.andThen_ok];exact hK _ _ (h w' h2)
theorem Zh.avh{P:Program}{w:World}{ops:Array Oper}{rest:List Oper}{o:Oper}{a:Act}{Q:Exit→Act→World→Prop}(KC:o.guard=none)(t:TypeId)
  (ho:o.op=.makeMap t none) {u:Value} {w':World} (hr:(Instr.makeMap t none).run P w=.ok u w') (h:wpList P ops Q rest (a.put o.dst u) w'):wpList P ops Q (o::rest) a w:=by
 refine wpList_plain KC fun _ hK=>?_
 unfold Oper.wp execOp;simp only[ho,Sem.run_bind,aD6,hr,Result.andThen_ok];exact hK _ _ h
structure Zh.yc (w wr:World) (o:List al):Prop where
 N9:Below w.heap.size w wr
 m:Yh.M wr w.heap.size o
 lt:w.heap.size<wr.heap.size
set_option maxRecDepth 100000 in
set_option maxHeartbeats 4000000 in
theorem Zh.calls(w:World){A:Nat→Prop}(bX:List ao)(u:Value)(hu:Sl w A (fun _=>False) ba bX u)(hl:bX.length≤1000000)(hs:∀s∈bX,s.1.length≤1000000):
  Calls Tryz.prog 56 #[u] w fun en w'=>en=.returned (.map (some w.heap.size))∧Yh.M w' w.heap.size (jx bX)∧Below w.heap.size w w':=by
 have ah8:=Tryz.underlying61;have aos:=Tryz.underlying31;have asu:=Tryz.underlying38;have ast:=Tryz.underlying64;have ass:=Tryz.underlying111;obtain⟨ua,uc,rfl⟩:=(show ∃a c,u=.slice a (bX.length:Nat) c from hu.form);go_enter Tryz.func56,Tryz.ntmps56
 go_wp2_with (refine Zh.avh rfl 111 rfl (Yh.mk _).1 ?_)
 go_loopw [11] (fun i wr=>∃k:Nat,k≤bX.length∧i=.int .i64 (k:Int)∧Zh.yc w wr (jx (bX.take k))) (fun i _=>bX.length-(intOf i).toNat)
 case atStart=>exact⟨0,aDj _,rfl,⟨(Below.refl _ _).alloc (aCt _) _,(Yh.mk w).2,by simp⟩⟩
 case round=>
  obtain⟨k,hk,rfl,hM⟩:=hrel;by_cases cg:k<bX.length
  ·have h1:(k:Int)<(bX.length:Int):=by omega
   have CI:decide (k<bX.length)=true:=aCm cg;have Rk:(0:Int)≤(k:Int):=by omega
   obtain⟨s,hsk⟩:∃s,bX[k]? = some s:=⟨_,aCF cg⟩;have HT:=Hw.bT (show bX.take (k+1)=bX.take k++[s]by rw[aDn,hsk];rfl);have Xe:=hs s (aCC hsk);obtain⟨b,off,c,us,he,hb,_,hr,_,sX⟩:=hu.get hsk;have hc:∀(j:Nat) (v:Value),us[j]? = some v→wr.cell? ⟨b,off+k*6+j,none⟩=some v:=fun j v hv=>(hM.N9.cell (p:=⟨b,off+k*6+j,none⟩) hb).trans (sX j v hv)
   clear sX;obtain⟨rfl,-,rfl⟩:=Value.slice.inj he;obtain⟨p0,p1,p2,p3,p4,p5,rfl,q0,q1,q2,q3,q4,q5⟩:=jg hr;have q0:=cX.1 q0;obtain⟨sa,sc,rfl⟩:=(show ∃a c,p0=.slice a (s.1.length:Nat) c from q0.form);obtain⟨a1,n1,c1,rfl⟩:=q1.form;obtain⟨a2,n2,c2,rfl⟩:=q2.form;obtain⟨a3,n3,c3,rfl⟩:=q3.form;obtain⟨a4,n4,c4,rfl⟩:=q4.form;obtain⟨a5,n5,c5,rfl⟩:=q5.form;clear q1 q2 q3 q4 q5;have r0:wr.cell? ⟨b,off+k*6,none⟩=some _:=hc 0 _ rfl;have r1:wr.cell? ⟨b,off+k*6+1,none⟩=some _:=hc 1 _ rfl;have r2:wr.cell? ⟨b,off+k*6+2,none⟩=some _:=hc 2 _ rfl;have r3:wr.cell? ⟨b,off+k*6+3,none⟩=some _:=hc 3 _ rfl;have r4:wr.cell? ⟨b,off+k*6+4,none⟩=some _:=hc 4 _ rfl;have r5:wr.cell? ⟨b,off+k*6+5,none⟩=some _:=hc 5 _ rfl;clear hc hs he hsk;go_wp2;have hM1:Zh.yc w (wr.alloc (.cells #[Value.slice sa s.1.length sc,.slice a1 n1 c1,.slice a2 n2 c2,.slice a3 n3 c3,.slice a4 n4 c4,.slice a5 n5 c5] 38)) (jx (bX.take k)):=
    ⟨hM.N9.alloc (by have:=hM.N9.size;exact this) _,hM.m.frame (Below.heap_alloc _ _ _ hM.lt),by simp;have:=hM.lt;omega⟩
   clear hM r0 r1 r2 r3 r4 r5 hr
   go_loopw [18] (fun i wr=>∃j:Nat,j≤s.1.length∧i=.int .i64 (j:Int)∧Zh.yc w wr (uV (jx (bX.take k)) (s.1.take j))) (fun i _=>s.1.length-(intOf i).toNat)
   case atStart=>exact⟨0,aDj _,rfl,hM1⟩
   case round=>
    obtain⟨j,hj,rfl,hN⟩:=hrel;clear hM1;by_cases hlj:j<s.1.length
    ·have h2:(j:Int)<(s.1.length:Int):=by omega
     have hd2:decide (j<s.1.length)=true:=aCm hlj;have hj0:(0:Int)≤(j:Int):=by omega
     obtain⟨e,hej⟩:∃e,s.1[j]? = some e:=⟨_,aCF hlj⟩;have HE:=Hw.bT (show s.1.take (j+1)=s.1.take j++[e]by rw[aDn,hej];rfl);obtain⟨b2,lD,cc2,CP,he2,Bk,_,FF,_,sX⟩:=q0.get hej;have hc:∀(i:Nat) (v:Value),CP[i]? = some v→wr.cell? ⟨b2,lD+j*15+i,none⟩=some v:=fun i v hv=>(hN.N9.cell (p:=⟨b2,lD+j*15+i,none⟩) Bk).trans (sX i v hv)
     clear sX;obtain⟨rfl,-,rfl⟩:=Value.slice.inj he2;obtain⟨p,rfl,qp⟩:=P7 FF;obtain⟨pa,pn,pc,rfl⟩:=qp.form;have r0:wr.cell? ⟨b2,lD+j*15,none⟩=some _:=hc 0 _ rfl;have r1:wr.cell? ⟨b2,lD+j*15+1,none⟩=some _:=hc 1 _ rfl;have r2:wr.cell? ⟨b2,lD+j*15+2,none⟩=some _:=hc 2 _ rfl;have r3:wr.cell? ⟨b2,lD+j*15+3,none⟩=some _:=hc 3 _ rfl;have r4:wr.cell? ⟨b2,lD+j*15+4,none⟩=some _:=hc 4 _ rfl;have r5:wr.cell? ⟨b2,lD+j*15+5,none⟩=some _:=hc 5 _ rfl;have r6:wr.cell? ⟨b2,lD+j*15+6,none⟩=some _:=hc 6 _ rfl;have r7:wr.cell? ⟨b2,lD+j*15+7,none⟩=some _:=hc 7 _ rfl;have r8:wr.cell? ⟨b2,lD+j*15+8,none⟩=some _:=hc 8 _ rfl;have r9:wr.cell? ⟨b2,lD+j*15+9,none⟩=some _:=hc 9 _ rfl;have r10:wr.cell? ⟨b2,lD+j*15+10,none⟩=some _:=hc 10 _ rfl;have r11:wr.cell? ⟨b2,lD+j*15+11,none⟩=some _:=hc 11 _ rfl;have r12:wr.cell? ⟨b2,lD+j*15+12,none⟩=some _:=hc 12 _ rfl;have r13:wr.cell? ⟨b2,lD+j*15+13,none⟩=some _:=hc 13 _ rfl;have r14:wr.cell? ⟨b2,lD+j*15+14,none⟩=some _:=hc 14 _ rfl;clear hc he2 hej FF;have NN:=HB.new wr 64 (sE e (.slice pa pn pc)).toArray;have lG:Below wr.heap.size wr (wr.alloc (.cells (sE e (.slice pa pn pc)).toArray 64)):=(Below.refl _ wr).alloc (aCt _) _;cases NK:bJ e with
     | true=>
      have HL:=Hw.bT (show uV (jx (bX.take k)) (s.1.take j++[e])=uV (jx (bX.take k)) (s.1.take j)by
       unfold uV;rw[aEG];simp[NK])
      have HM:=Hw.bT (show ∀w3,Below (wr.alloc (.cells (sE e (.slice pa pn pc)).toArray 64)).heap.size (wr.alloc (.cells (sE e (.slice pa pn pc)).toArray 64)) w3→Zh.yc w w3 (uV (jx (bX.take k)) (s.1.take (j+1)))from fun w3 tu=>by
       rw[HE.out,HL.out];exact⟨(hN.N9.trans (lG.mono hN.N9.size)).trans (tu.mono (by have:=hN.N9.size;simp;omega)),(hN.m.frame (Below.heap_alloc _ _ _ hN.lt)).frame (tu.block _ (by have:=hN.lt;simp;omega)),by have:=tu.size;have:=hN.lt;simp at *;omega⟩)
      have qq:=qp.low (hN.N9.trans (lG.mono hN.N9.size));clear hN HL HE NN lG q0 hu
      go_wp2_with (go_at_call 89;refine(Zh.emp (s:=e) qq).mono ?_;rintro en w3 ⟨rfl,tu⟩;rw[NK])
      go_roundw
      case rel=>exact⟨j+1,by omega,by go_num,HM.out _ tu⟩
      case measure=>simp[intOf];omega
     | false=>
      have HL:=Hw.bT (show uV (jx (bX.take k)) (s.1.take j++[e])=Yh.add (uV (jx (bX.take k)) (s.1.take j)) (jl e)by
       unfold uV;rw[aEG];simp[NK])
      have HM:=Hw.bT (show ∀w3,Below (wr.alloc (.cells (sE e (.slice pa pn pc)).toArray 64)).heap.size (wr.alloc (.cells (sE e (.slice pa pn pc)).toArray 64)) w3→
        ∃w4,(Instr.mapUpdate 111 (.map (some w.heap.size)) (.agg #[.int .i64 e.1,.int .i64 e.2.1,.int .i64 e.2.2.1]) (.bool true)).run Tryz.prog w3=.ok () w4∧Zh.yc w w4 (uV (jx (bX.take k)) (s.1.take (j+1)))from fun w3 tu=>by
       rw[HE.out,HL.out];have hm3:=(hN.m.frame (Below.heap_alloc _ _ _ hN.lt)).frame (tu.block _ (by have:=hN.lt;simp;omega));obtain⟨w4,g1,g2,o,rfl⟩:=Yh.H7 hm3 (jl e);have dC:w.heap.size<w3.heap.size:=by have:=tu.size;have:=hN.lt;simp at *;omega
       refine⟨_,g1,⟨((hN.N9.trans (lG.mono hN.N9.size)).trans (tu.mono (by have:=hN.N9.size;simp;omega))).trans ⟨rfl,rfl,rfl,by simp,fun q hq=>?_⟩,g2,by simpa using dC⟩⟩;show(w3.heap.setIfInBounds w.heap.size o)[q]? = _;rw[aDc,aCo (by omega)])
      have qq:=qp.low (hN.N9.trans (lG.mono hN.N9.size));clear hN HL HE lG q0 hu
      go_wp2_with (first
       | (go_at_call 89;refine(Zh.emp (s:=e) qq).mono ?_;rintro en w3 ⟨rfl,tu⟩;rw[NK];have hU:=HM.out _ tu;have hb3:=NN.below tu NN.lt;have c0:=hb3.cell 0;have c1:=hb3.cell 1;have c2:=hb3.cell 2;clear hb3)
       | (refine Zh.aq3 rfl (.tmp 25) (.tmp 28) (.const (.bool true)) 111 rfl rfl rfl rfl hU ?_;rintro w4 hM4))
      go_roundw
      case rel=>exact⟨j+1,by omega,by go_num,hM4⟩
      case measure=>simp[intOf];omega
    ·obtain rfl:j=s.1.length:=by omega
     have h2:¬ (s.1.length:Int)<(s.1.length:Int):=by omega
     have HM:=Hw.bT (show Zh.yc w wr (jx (bX.take (k+1)))by
      rw[HT.out];have:=hN;rw[aEe]at this;unfold jx at *;rw[aEG];exact this)
     clear hN HT;go_wp2
     go_roundw
     case rel=>exact⟨k+1,by omega,by go_num,HM.out⟩
     case measure=>simp[intOf];omega
  ·obtain rfl:k=bX.length:=by omega
   have h1:¬ (bX.length:Int)<(bX.length:Int):=by omega
   have HM:=Hw.bT (show Zh.yc w wr (jx bX)by have:=hM;rwa [aEe]at this);clear hM;go_wp2;go_ret;exact⟨rfl,HM.out.m,HM.out.N9⟩
end Go.AL
namespace Go.AL
open Go.RowKit
def A3{α:Type}:List (Nat×α)→Nat→Option α
 | [],_=>none
 | (i,x)::r,j=>bif Nat.beq j i then some x else A3 r j
def xsA(l:List (Nat×X)):bF:=⟨fun i=>match A3 l i with
 | some x=>x
 | none=>.dead,fun _=>none,0⟩
def stA(l:List (Nat×V)):St:=⟨fun i=>match A3 l i with
 | some x=>x
 | none=>.dead,fY⟩
theorem Ki{α:Type}:∀{l:List (Nat×α)} {i:Nat} {x:α},A3 l i=some x→(i,x)∈l
 | (j,y)::r,i,x,h=>by
  simp only[A3]at h;cases hb:Nat.beq i j with
  | true=>
   rw[hb]at h;cases h;rw[aCI hb];exact aCK ..
  | false=>
   rw[hb]at h;exact aCQ _ (Ki h)
def XA(x:X)(v:V):Prop:=XV ⟨0,fun _=>none,fY⟩ x v
theorem avq:∀{lx:List (Nat×X)} {lv:List (Nat×V)},aP (fun p q=>p.1=q.1∧XA p.2 q.2) lx lv→RS (xsA lx) (stA lv):=by
 intro lx lv h;refine⟨fun i=>?_,fun o bD ho=>by cases ho⟩;show XA (match A3 lx i with | some x=>x | none=>.dead) (match A3 lv i with | some x=>x | none=>.dead);induction lx generalizing lv with
 | nil=>
  match lv,h with
  | [],_=>simp only[A3,XA,XV]
 | cons p lx ih=>
  match lv,h with
  | q::lv,h=>
   obtain⟨j,x⟩:=p;obtain⟨j',v⟩:=q;obtain⟨⟨h1,h2⟩,h3⟩:=h;have h1:j=j':=h1;subst h1;simp only[A3];cases Nat.beq i j with
   | true=>exact h2
   | false=>exact ih h3
theorem avr{w:World}{A:Nat→Prop}{n:Nat}{a:Act}(hd:a.defers=[])(hn:a.tmps.size=n)(hA:∀b,A b→b<w.heap.size){lv:List (Nat×V)}(h:∀p∈lv,Rel ⟨w,A,fY,iF⟩ p.2 ((a.tmps[p.1]?).getD undef)):RR w H8 A n (stA lv) a w:=by
 refine⟨iF,A,hd,hn,fun i=>?_,⟨fun o ob ho=>by simp[stA,fY]at ho,fun o o' ob ob' b ho=>by simp[stA,fY]at ho,hA⟩,fun b _ h=>h,⟨rfl,rfl,rfl,aCt _,fun _ _ _=>rfl⟩,fun o ob b ho=>by simp[stA,fY]at ho,fun o hq=>hq.elim,fun o ob hq=>hq.elim⟩;rw[show H8.sv=fun _=>undef from rfl,oJ];show Rel ⟨w,A,fY,iF⟩ (match A3 lv i with | some x=>x | none=>.dead) _;cases hl:A3 lv i with
 | none=>trivial
 | some v=>
  have:=h (i,v) (Ki hl);rw[aDr];exact this
theorem aiC{β:Type}{C:cR}{r:β}{Kr:bF→Option β}(hm:C.P.follows .mixedOrders=true)(bQ:∀e∈C.es,e.Ok C.P)(sW:C.el=[])(hfz:C.fz=[])(iz:C.inl=[]){k:List XI}{lx:List (Nat×X)}{lv:List (Nat×V)}
  (R:aP (fun p q=>p.1=q.1∧XA p.2 q.2) lx lv) (aX:jt C.pm k) (sV:CF k) {f:Nat} (hx:exec C Kr (fun _ _=>none) f k (xsA lx)=some r) {w0:World} {A:Nat→Prop} {a:Act} (hR:RR w0 H8 A C.n (stA lv) a w0) {Rt:Act→World→Prop}
  (C6:∀xs s,RS xs s→Kr xs=some r→∀a w,RR w0 H8 A C.n s a w→Rt a w):KW C.P Rt k .normal a w0:=
 (xv sV).1 (du (.inl fun _ h=>h) (.inl iz) hm bQ (by rw[sW];intro e h;cases h) (by rw[iz];intro e h;cases h) C6 (fun k xs s _ _ _ h=>by cases h) f k (xsA lx) (stA lv) (avq R) aX (by cases k<;>first | trivial | (rename_i i k;cases i<;>first | exact sV | exact sV.elim)) hx) a w0 hR
theorem aob{P:Program}{Rt:Act→World→Prop}{e:Exit}{a:Act}{w:World}(h:KW P Rt [] e a w):(e=.normal∨e=.ret)∧Rt a w:=by
 rcases im h with rfl | rfl | ⟨id,rfl⟩
 ·exact⟨.inl rfl,h⟩
 ·exact⟨.inr rfl,h⟩
 ·exact absurd h (by simp[KW])
theorem abg{P:Program}{Rt:Act→World→Prop}{c1 c2:Code}{a:Act}{w:World}(h:KW P Rt [.code c1,.code c2] .normal a w){K:Act→World→Prop}{Q Q':Exit→Act→World→Prop}(hK:∀a w,(c2.seq .ret).wp P Q a w→K a w)
  (hQ:∀a w,Rt a w→Q .ret a w) (hQ':∀a w,Rt a w→Q' .ret a w):c1.wp P (Exit.then K Q') a w:=by
 have h:c1.wp P (KW P Rt [.code c2]) a w:=h;refine wp_mono h fun e a' w' h2=>?_
 rcases im h2 with rfl | rfl | ⟨id,rfl⟩
 ·refine hK _ _ (wp_seq ?_)
  have h2:c2.wp P (KW P Rt []) a' w':=h2;refine wp_mono h2 fun e a2 w2 h3=>?_
  obtain⟨h4,h5⟩:=aob h3;rcases h4 with rfl | rfl
  ·exact wp_ret (hQ _ _ h5)
  ·exact hQ _ _ h5
 ·exact hQ' _ _ h2
 ·exact absurd h2 (by simp[KW])
theorem axd{w:World}{A:Nat→Prop}{B:Nat}{t:TypeId}{us:Array Value}(h:HB w B t us){τ:List Ty}{x:az τ}(hr:Rw w A τ x us.toList):∃row,cD τ x row∧Rel ⟨w,A,fY,iF⟩ (.cp row 0) (.pointer (some ⟨B,0,none⟩))∧XA (.cp (iw τ x) 0) (.cp row 0):=by
 obtain⟨row,h1,h2⟩:=Dk hr;refine⟨row,h1,?_,?_⟩
 ·refine⟨B,0,fun k=>(us[k]?).getD undef,rfl,h.lt,(fun hm=>by obtain⟨o,ob,h3,_⟩:=hm;cases h3),fun k x hx=>?_,fun k x hx=>?_⟩
  ·obtain⟨u,e1,_⟩:=h2.get k x hx
   rw[aDy]at e1;show w.cell? ⟨B,0+k,none⟩=some ((us[k]?).getD undef);rw[h.cell,aC0,e1];rfl
  ·obtain⟨u,e1,e2⟩:=h2.get k x hx
   rw[aDy]at e1;simp only[e1,aDK];exact e2
 ·simp only[XA,XV]
  exact⟨row,rfl,eO τ x row h1⟩
theorem ar8{w:World}{A:Nat→Prop}{τ:List Ty}{xs:List (az τ)}{u:Value}(h:Sl w A (fun _=>False) τ xs u):∃rows,Rel ⟨w,A,fY,iF⟩ (.rd rows) u∧XA (.rd τ xs) (.rd rows):=by
 obtain⟨v,⟨rows,rfl,h1⟩,h2⟩:=Ag.rd h;refine⟨rows,h2,?_⟩;simp only[XA,XV];exact⟨rows,rfl,h1⟩
theorem akQ{w:World}{A:Nat→Prop}{k:IntKind}{n:Int}:Rel ⟨w,A,fY,iF⟩ (.int k n) (.int k n)∧XA (.int k n) (.int k n):=⟨.int _ _,by simp only[XA,XV]⟩
theorem Ys{w0 w:World}{A:Nat→Prop}{n:Nat}{xs:bF}{s:St}{a:Act}(R:RS xs s)(hR:RR w0 H8 A n s a w){i:Nat}{k:IntKind}{x:Int}(h:xs.t i=.int k x):(a.tmps[i]?).getD undef=.int k x:=by
 obtain⟨β,A',hB⟩:=hR;have h1:=R.t i;rw[h]at h1;simp only[XV]at h1;have h2:=hB.ai i;rw[h1,show H8.sv=fun _=>undef from rfl,oJ,aDr]at h2;generalize (a.tmps[i]?).getD undef=q at *;cases h2;rfl
theorem TD{w0 w:World}{A:Nat→Prop}{n:Nat}{xs:bF}{s:St}{a:Act}(R:RS xs s)(hR:RR w0 H8 A n s a w){i:Nat}{x:Bool}(h:xs.t i=.bool x):(a.tmps[i]?).getD undef=.bool x:=by
 obtain⟨β,A',hB⟩:=hR;have h1:=R.t i;rw[h]at h1;simp only[XV]at h1;have h2:=hB.ai i;rw[h1,show H8.sv=fun _=>undef from rfl,oJ,aDr]at h2;generalize (a.tmps[i]?).getD undef=q at *;cases h2;rfl
theorem an7{w0 w:World}{A:Nat→Prop}{n:Nat}{s:St}{a:Act}(hR:RR w0 H8 A n s a w):Below w0.heap.size w0 w∧a.defers=[]∧a.tmps.size=n:=by
 obtain⟨β,A',hB⟩:=hR;exact⟨Ev.low hB.ev (fun _ h=>h),hB.defers,hB.size⟩
open Go.Proofs Go.RowKit
attribute [local go_sem] Oper.semAt_some
def gp:Nat→Prop:=fun _=>False
theorem Cl.none{w:World}{A:Nat→Prop}{t:Ty}{x:t.T}{u:Value}(h:Cl w A t x u):Cl w gp t x u:=h.fr (cZ.refl _ _) (aCt _) (fun _ _ h=>h.elim)
theorem Zh.avp{w:World}{l:List al}{u:Value}(h:Sl w gp gp aH l u)(hl:l.length≤1000000)(x:al):Calls Tryz.prog 126 #[u,.agg (yM x).toArray] w fun en w'=>en=.returned (.bool (cT x l))∧Below w.heap.size w w':=by
 refine(Hw.call WE ((l,x):List al×al) (aCm (show l.length≤1099511627776 by omega)) (A:=gp) (fun b h=>h.elim) (us:=#[u,.agg (yM x).toArray]) (Hy.two (Ag.rd h) (Ag.g j5))).mono fun en w' hh=>?_
 obtain⟨us,A',rfl,hr,_,_,hB⟩:=hh;exact⟨aCL Ending.returned (Hw.akF hr),hB⟩
theorem Zh.aq6{P:Program}{w:World}{ops:Array Oper}{rest:List Oper}{o:Oper}{a:Act}{Q:Exit→Act→World→Prop}(KC:o.guard=none)(m k:Operand)(t:TypeId)
  (ho:o.op=.lookup t m k false) {u y z:Value} (hm:a.eval m=u) (hk:a.eval k=y) (hr:(Instr.lookup t u y false).run P w=.ok z w) (h:wpList P ops Q rest (a.put o.dst z) w):wpList P ops Q (o::rest) a w:=by
 refine wpList_plain KC fun _ hK=>?_
 unfold Oper.wp execOp;simp only[ho,hm,hk,Sem.run_bind,hr,Result.andThen_ok];exact hK _ _ h
noncomputable def aup:cR:=⟨Tryz.prog,[Cp,PC],dn [(8,([(0,[]),(1,[]),(2,[]),(3,[]),(4,[]),(5,[]),(6,[]),(7,[]),(8,[]),(9,[]),(10,[]),(11,[]),(12,[]),(13,[]),(14,[]),(15,[]),(16,[]),(17,[]),(18,[]),(19,[]),(20,[]),(21,[]),(22,[]),(23,[]),(24,[]),(25,[]),(26,[]),(27,[]),(28,[])],[(13,13),(37,64)]))],74,[],[],[],[]⟩
theorem apu:bp Tryz.prog [Cp,PC] [] []:=ak wD (ak WY (aD))
def aam(s:bF):Option (Int×Bool):=match s.t 10,s.t 11 with
 | .int .i64 n,.bool b=>some (n,b)
 | _,_=>none
def Zh.Rt(w0:World)(x:Int×Bool)(a:Act)(w:World):Prop:=(a.tmps[10]?).getD undef=.int .i64 x.1∧(a.tmps[11]?).getD undef=.bool x.2∧Below w0.heap.size w0 w∧a.defers=[]∧a.tmps.size=74
theorem zc{o:Option Value}{v:Value}(h:o.getD undef=v)(hv:v ≠ undef):o=some v:=by
 cases o with
 | none=>exact(hv h.symm).elim
 | some u=>exact aCL some h
theorem Zh.res{W:World}{n:Int}{b:Bool}{tmps:Array Value}(h1:tmps[10]? = some (.int .i64 n))(h2:tmps[11]? = some (.bool b)):(results Tryz.f90 tmps).run Tryz.prog W=.ok (.tuple #[.int .i64 n,.bool b]) W:=by
 simp[results,Tryz.f90,go_sem,h1,h2]
theorem Zh.tree(l:List ax)(r:bn)(m:List Int)(hm:af m=true):(bif decide (r.2.2.2.2.1≥0)then bif decide (r.2.2.2.2.1<((l.length:Nat):Int))then bif decide (0≤r.2.2.2.2.1)&&decide (r.2.2.2.2.1<((l.length:Nat):Int))then bif !bJ (l.getD r.2.2.2.2.1.toNat kF)then bif decide (0≤r.2.2.2.2.1)&&decide (r.2.2.2.2.1<((l.length:Nat):Int))then
  bif(l.getD r.2.2.2.2.1.toNat kF).1 == (E6 r).1&&((l.getD r.2.2.2.2.1.toNat kF).2.1 == (E6 r).2.1&&((l.getD r.2.2.2.2.1.toNat kF).2.2.1 == (E6 r).2.2.1&&true))then bif af m then some (10,!cT r.2.2.2.2.2.2.1 m)else none else some (10,false)else none else some (10,false)else none else some (10,false)else some (10,false)) =
  some ((10,Ak l r&&!cT (gA r).2.2.2.1 m):Int×Bool):=by
 have e:∀u:ax,(u.1 == (E6 r).1&&(u.2.1 == (E6 r).2.1&&(u.2.2.1 == (E6 r).2.2.1&&true)))=decide (jl u=C0 (E6 r)):=fun u=>id_eq (jl u) (C0 (E6 r))
 simp only[e,Ak,ge_iff_le,hm];show(bif decide (0≤(gA r).2.1)then bif decide ((gA r).2.1<((l.length:Nat):Int))then bif decide (0≤(gA r).2.1)&&decide ((gA r).2.1<((l.length:Nat):Int))then bif !bJ (l.getD (gA r).2.1.toNat kF)then bif decide (0≤(gA r).2.1)&&decide ((gA r).2.1<((l.length:Nat):Int))then
  bif decide (jl (l.getD (gA r).2.1.toNat kF)=C0 (E6 r))then bif true then some (10,!cT (gA r).2.2.2.1 m)else none else some (10,false)else none else some (10,false)else none else some (10,false)else some (10,false))=_
 cases decide (0≤(gA r).2.1)<;>cases decide ((gA r).2.1<((l.length:Nat):Int))<;>cases bJ (l.getD (gA r).2.1.toNat kF)<;>cases decide (jl (l.getD (gA r).2.1.toNat kF)=C0 (E6 r))<;>cases cT (gA r).2.2.2.1 m<;>rfl
def Zh.Out(w:World)(x:Int×Bool)(en:Ending)(w':World):Prop:=en=.returned (.tuple #[.int .i64 x.1,.bool x.2])∧Below w.heap.size w w'
theorem Zh.fin{w w1:World}{x:Int×Bool}(h1:Below w.heap.size w w1){a:Act}{w2:World}(h:Zh.Rt w1 x a w2):bodyPost Tryz.prog Tryz.f90 (Zh.Out w x) .ret a w2:=by
 obtain⟨h2,h3,h4,h5,h6⟩:=h;exact⟨h5,_,Zh.res (zc h2 (by intro h;cases h)) (zc h3 (by intro h;cases h)),rfl,h1.trans (h4.mono h1.size)⟩
set_option maxRecDepth 100000 in
set_option maxHeartbeats 4000000 in
theorem Zh.out(w:World)(r:bn)(p:Value)(hp:Cl w gp (.sl aH) r.2.2.2.2.2.2.2.2.2.2.2.2.2.2.2.2.2.2.2.2.1 p)(l:List ax)(ul:Value)(hl:Sl w gp gp aW l ul)(d:List al)(ud:Value)(hd:Sl w gp gp aH d ud)(hdl:d.length≤1000000)
  (m:List Int) (um:Value) (hm:Sl w gp gp [.int .i64] m um) (hml:m.length≤1000000) (rm:Nat) (ids:List al) (hM:Yh.M w rm ids) :
  Calls Tryz.prog 90 #[.agg (CK r p).toArray,ul,ud,.map (some rm),um] w (Zh.Out w (dI (fun x=>decide (x∈ids)) l r d m)):=by
 have aaD:=Tryz.underlying56;have ah8:=Tryz.underlying64;have aos:=Tryz.underlying31;obtain⟨pa,pn,pc,rfl⟩:=hp.form;obtain⟨la,lc,rfl⟩:=(show ∃a c,ul=.slice a (l.length:Nat) c from hl.form);obtain⟨da,dc,rfl⟩:=(show ∃a c,ud=.slice a (d.length:Nat) c from hd.form);obtain⟨ma,mc,rfl⟩:=(show ∃a c,um=.slice a (m.length:Nat) c from hm.form);have NN:=HB.new w 56 (CK r (.slice pa pn pc)).toArray;have lG:Below w.heap.size w (w.alloc (.cells (CK r (.slice pa pn pc)).toArray 56)):=(Below.refl _ w).alloc (aCt _) _;have CI:=hd.low lG;have hm1:=hm.low lG;have uW:=hl.low lG;have hM1:=hM.frame (w':=w.alloc (.cells (CK r (.slice pa pn pc)).toArray 56)) (lG.block rm (by obtain⟨es,c,h,_⟩:=hM;exact(aDJ.1 h).1));by_cases k6:r.2.2.2.1=6
 ·have k6b:(r.2.2.2.1 == 6)=true:=by simp[k6]
  have HR:=Hw.bT (show dI (fun x=>decide (x∈ids)) l r d m=(0,cT (j9 r) d)by
   have:(gA r).1=6:=k6;simp[dI,this])
  clear k6 hl hd hm hM hm1 uW hM1;rw[HR.out];have hdc:=Zh.avp CI hdl (j9 r);go_enter Tryz.func90,Tryz.ntmps90
  go_wp2_with (go_at_call 126;refine hdc.mono ?_;rintro en w3 ⟨rfl,tu⟩)
  go_ret2
  exact⟨rfl,lG.trans (tu.mono (by simp))⟩
 ·have k6b:(r.2.2.2.1 == 6)=false:=by simp[k6]
  by_cases k4:r.2.2.2.1=4
  ·have k4b:(r.2.2.2.1 == 4)=true:=by simp[k4]
   have hlk:=Yh.look hM1 (r.1,r.2.1,0);cases iz:decide ((r.1,r.2.1,0)∈ids)with
   | true=>
    have HR:=Hw.bT (show dI (fun x=>decide (x∈ids)) l r d m=(0,true)by
     have h4:(gA r).1=4:=k4;have h2:decide (((j9 r).1,(j9 r).2.1,0)∈ids)=true:=iz;simp only[dI,h4,h2];rfl)
    rw[iz]at hlk;clear k6 k4 hl hd hm hM hm1 uW hM1 CI iz;rw[HR.out];go_enter Tryz.func90,Tryz.ntmps90
    go_wp2_with (refine Zh.aq6 rfl (.tmp 25) (.tmp 32) 111 rfl rfl rfl hlk ?_)
    go_ret2
    exact⟨rfl,lG⟩
   | false=>
    rw[iz]at hlk;have HR:=Hw.bT (show dI (fun x=>decide (x∈ids)) l r d m=(10,Ak l r&&!cT (gA r).2.2.2.1 m)by
     have h4:(gA r).1=4:=k4;have h2:decide (((j9 r).1,(j9 r).2.1,0)∈ids)=false:=iz;simp only[dI,h4,h2];rfl)
    clear k6 k4 hl hd hm hM hM1 CI iz;rw[HR.out];obtain⟨Dq,l1,l2⟩:=ar8 uW;obtain⟨rows2,m1,m2⟩:=ar8 hm1;obtain⟨row,_,p1,p2⟩:=axd NN (P9 (hp.low lG));have HF:=Hw.bT (And.intro (And.intro l1 l2) (And.intro (And.intro m1 m2) (And.intro p1 p2)));clear l1 l2 m1 m2 p1 p2 uW hm1 hp;go_enter Tryz.func90,Tryz.ntmps90
    go_wp2_with (refine Zh.aq6 rfl (.tmp 25) (.tmp 32) 111 rfl rfl rfl hlk ?_)
    obtain⟨⟨l1,l2⟩,⟨m1,m2⟩,p1,p2⟩:=HF.out;rename_i hK;refine abg (Rt:=Zh.Rt (w.alloc (.cells (CK r (.slice pa pn pc)).toArray 56)) (10,Ak l r&&!cT (gA r).2.2.2.1 m)) ?_ hK ?_ ?_
    ·refine aiC (C:=aup) (Kr:=aam) (lx:=[(1,.rd aW l),(4,.rd [.int .i64] m),(5,.cp (iw cc r) 0),(12,.int .i64 r.2.2.2.2.1)]) (lv:=[(1,.rd Dq),(4,.rd rows2),(5,.cp row 0),(12,.int .i64 r.2.2.2.2.1)]) mixed apu.1 rfl rfl rfl ?_ ?_ ?_ (f:=100000) (r:=(10,Ak l r&&!cT (gA r).2.2.2.1 m)) ?_ (avr (A:=gp) (by rfl) (by rfl) (fun b h=>h.elim) fun q hq=>?_) ?_
     ·exact⟨⟨rfl,l2⟩,⟨rfl,m2⟩,⟨rfl,p2⟩,⟨rfl,(akQ (w:=w) (A:=gp)).2⟩,trivial⟩
     ·exact⟨by kernel_rfl,by kernel_rfl,trivial⟩
     ·trivial
     ·exact Eq.trans (by kernel_rfl) (Zh.tree l r m (aCm (show m.length≤1099511627776 by omega)))
     ·simp only[aCJ,List.not_mem_nil,or_false]at hq
      rcases hq with rfl | rfl | rfl | rfl
      ·exact l1
      ·exact m1
      ·exact p1
      ·exact akQ.1
     ·intro xs s R hx a2 w2 hR
      unfold aam at hx
      split at hx<;>try (cases hx;done)
      rename_i n b h1 h2;cases hx;obtain⟨g1,g2,g3⟩:=an7 hR;exact⟨Ys R hR h1,TD R hR h2,g1,g2,g3⟩
    all_goals exact fun a2 w2 h=>Zh.fin lG h
  ·have k4b:(r.2.2.2.1 == 4)=false:=by simp[k4]
   have HR:=Hw.bT (show dI (fun x=>decide (x∈ids)) l r d m=(0,false)by
    have h6:¬ (gA r).1=6:=k6;have h4:¬ (gA r).1=4:=k4;simp[dI,h4,h6])
   clear k6 k4 hl hd hm hM hm1 uW hM1 CI;rw[HR.out];go_enter Tryz.func90,Tryz.ntmps90;go_wp2
   go_ret2
   exact⟨rfl,lG⟩
end Go.AL
