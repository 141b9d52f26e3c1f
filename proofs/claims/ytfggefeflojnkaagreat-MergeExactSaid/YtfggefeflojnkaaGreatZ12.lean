/- AI. -/
import Derived.Test.YtfggefeflojnkaaGreatZl
import Derived.Test.YtfggefeflojnkaaGreatAxShelf
import Derived.Shelf.SlSortCmp.Insertion
import Derived.Sort.Statements
import Derived.Shelf.SlSortCmp.NoneTotal
set_option linter.unusedSectionVars false
namespace Go.Proofs
open Go.Shelf Go.RowKit Go.Lib Go.Sort
def vd(a b:Int):Int:=if a<b then -1 else if b<a then 1 else 0
set_option maxHeartbeats 1000000 in
theorem amT(a b:Int)(W:World):Calls Tryz.prog 84 #[.int .i64 a,.int .i64 b] W fun e w'=>e=.returned (.int .i64 (vd a b))∧w'=W:=by
 go_enter Tryz.func84,Tryz.ntmps84;go_wp2
 all_goals go_ret
 all_goals exact⟨by unfold vd;(repeat' split)<;>first | rfl | omega,rfl⟩
def or3(a b c:Int):Int:=if a ≠ 0 then a else if b ≠ 0 then b else c
set_option maxHeartbeats 1000000 in
theorem orW(a b c:Int)(B:Nat)(W:World)(h0:W.cell? ⟨B,0,none⟩=some (.int .i64 a))(h1:W.cell? ⟨B,1,none⟩=some (.int .i64 b))(h2:W.cell? ⟨B,2,none⟩=some (.int .i64 c)):
  Calls Tryz.prog 83 #[.slice (some ⟨B,0,none⟩) 3 3] W fun e w'=>e=.returned (.int .i64 (or3 a b c))∧w'=W:=by
 go_enter Tryz.func83,Tryz.ntmps83;go_wp2
 go_loop [8] (fun i=>∃k:Nat,k≤3∧i=.int .i64 (k:Int)∧(1≤k→a=0)∧(2≤k→b=0)∧(3≤k→c=0)) (fun i=>3-(intOf i).toNat)
 case atStart=>exact⟨0,by omega,rfl,by omega,by omega,by omega⟩
 case round=>
  obtain⟨k,hk,rfl,ha,hb,hc⟩:=hrel;have key:∀(n:Int) (j:Nat),j<3→(j:Int)=(k:Int)→W.cell? ⟨B,j,none⟩=some (.int .i64 n)→W.cell? ⟨B,k*1,none⟩=some (.int .i64 n):=fun n j hj e h=>by
   obtain rfl:j=k:=by omega
   rw[Nat.mul_one];exact h
  by_cases h3:k=3
  ·subst h3
   have e1:=ha (by omega);have e2:=hb (by omega);have e3:=hc (by omega);have HE:=Go.AL.Hw.bf (show or3 a b c=0 by unfold or3;simp[e1,e2,e3]);clear ha hb hc key h0 h1 h2 e1 e2 e3;go_wp2;go_ret;exact⟨by rw[HE.out];rfl,rfl⟩
  ·obtain⟨n,hn,hz,hnz⟩:∃n:Int,W.cell? ⟨B,k,none⟩=some (.int .i64 n)∧(n=0→(1≤k+1→a=0)∧(2≤k+1→b=0)∧(3≤k+1→c=0))∧(n ≠ 0→or3 a b c=n):=by
    match k,hk,h3 with
    | 0,_,_=>exact⟨a,h0,fun e=>⟨fun _=>e,by omega,by omega⟩,fun e=>by unfold or3;rw[azE e]⟩
    | 1,_,_=>exact⟨b,h1,fun e=>⟨fun _=>ha (by omega),fun _=>e,by omega⟩,fun e=>by unfold or3;rw[azD (by simp[ha (by omega)]),azE e]⟩
    | 2,_,_=>exact⟨c,h2,fun e=>⟨fun _=>ha (by omega),fun _=>hb (by omega),fun _=>e⟩,fun e=>by unfold or3;rw[azD (by simp[ha (by omega)]),azD (by simp[hb (by omega)])]⟩
    | 3,_,h=>exact absurd rfl h
   have hk3:(k:Int)<3:=by omega
   have Kl:(0:Int)≤(k:Int):=by omega
   have hk4:k<3:=by omega
   clear ha hb hc key h0 h1 h2 h3 hk;by_cases hn0:n=0
   ·have HZ:=Go.AL.Hw.bf (hz hn0)
    subst hn0;clear hz hnz;go_wp2;exact⟨⟨k+1,by omega,by congr 1,HZ.out.1,HZ.out.2.1,HZ.out.2.2⟩,by simp[intOf];omega⟩
   ·have HZ:=Go.AL.Hw.bf (hnz hn0)
    have hnb:(n != 0)=true:=by simpa using hn0
    clear hz hnz;go_wp2;go_ret;exact⟨by rw[HZ.out];rfl,rfl⟩
def cfI(x y:Int×Int×Int):Int:=or3 (vd x.1 y.1) (vd x.2.1 y.2.1) (vd x.2.2 y.2.2)
theorem c3(W:World)(o1 o2:Obj)(cs:Array Value)(t:TypeId)(j:Nat)(v:Value)(hv:cs[j]? = some v):((((W.alloc o1).alloc o2).alloc (.cells cs t)).drew).cell? ⟨W.heap.size+1+1,j,none⟩=some v:=by
 have h:=(Go.AL.HB.new ((W.alloc o1).alloc o2) t cs).cell j;simp_all
set_option maxRecDepth 100000 in
set_option maxHeartbeats 4000000 in
theorem apd(x y:Int×Int×Int)(W:World):Calls Tryz.prog 49 #[.agg #[.int .i64 x.1,.int .i64 x.2.1,.int .i64 x.2.2],.agg #[.int .i64 y.1,.int .i64 y.2.1,.int .i64 y.2.2]] W fun e w'=>e=.returned (.int .i64 (cfI x y))∧∃q os',w'=grow (W.drewN q) os':=by
 have hu:=Tryz.underlying48;unfold cfI;obtain⟨r0,L5⟩:∃r,r=vd x.1 y.1:=⟨_,rfl⟩;obtain⟨r1,hr1⟩:∃r,r=vd x.2.1 y.2.1:=⟨_,rfl⟩;obtain⟨r2,F5⟩:∃r,r=vd x.2.2 y.2.2:=⟨_,rfl⟩;have su:∀W,Calls Tryz.prog 84 #[.int .i64 x.1,.int .i64 y.1] W fun e w'=>e=.returned (.int .i64 r0)∧w'=W:=fun W=>by rw[L5];exact amT _ _ W
 have hc1:∀W,Calls Tryz.prog 84 #[.int .i64 x.2.1,.int .i64 y.2.1] W fun e w'=>e=.returned (.int .i64 r1)∧w'=W:=fun W=>by rw[hr1];exact amT _ _ W
 have Ia:∀W,Calls Tryz.prog 84 #[.int .i64 x.2.2,.int .i64 y.2.2] W fun e w'=>e=.returned (.int .i64 r2)∧w'=W:=fun W=>by rw[F5];exact amT _ _ W
 rw[← L5,← hr1,← F5];clear L5 hr1 F5;have b1:=(Go.AL.HB.new W 48 #[.int .i64 x.1,.int .i64 x.2.1,.int .i64 x.2.2]).alloc (.cells #[.int .i64 y.1,.int .i64 y.2.1,.int .i64 y.2.2] 48);have b2:=Go.AL.HB.new (W.alloc (.cells #[.int .i64 x.1,.int .i64 x.2.1,.int .i64 x.2.2] 48)) 48 #[.int .i64 y.1,.int .i64 y.2.1,.int .i64 y.2.2];rw[World.size_alloc]at b2;have x0:=b1.cell 0;have x1:=b1.cell 1;have x2:=b1.cell 2;have y0:=b2.cell 0;have y1:=b2.cell 1;have y2:=b2.cell 2;clear b1 b2;go_enter Tryz.func49,Tryz.ntmps49;go_wp2
 go_region_held3 (fun w'=>w'.cell? ⟨W.heap.size,0,none⟩=some (.int .i64 x.1)∧w'.cell? ⟨W.heap.size,1,none⟩=some (.int .i64 x.2.1)∧w'.cell? ⟨W.heap.size,2,none⟩=some (.int .i64 x.2.2)∧w'.cell? ⟨W.heap.size+1,0,none⟩=some (.int .i64 y.1)∧w'.cell? ⟨W.heap.size+1,1,none⟩=some (.int .i64 y.2.1)∧w'.cell? ⟨W.heap.size+1,2,none⟩=some (.int .i64 y.2.2)) (go_keep)
  (first
   | (go_at_call 84;((with_reducible refine(su _).mono ?_);rintro e w' ⟨rfl,rfl⟩))
   | (go_at_call 84;((with_reducible refine(hc1 _).mono ?_);rintro e w' ⟨rfl,rfl⟩))
   | (go_at_call 84;((with_reducible refine(Ia _).mono ?_);rintro e w' ⟨rfl,rfl⟩))
   | (go_at_call 83;refine(orW r0 r1 r2 _ _ (c3 _ _ _ _ _ 0 _ rfl) (c3 _ _ _ _ _ 1 _ rfl) (c3 _ _ _ _ _ 2 _ rfl)).mono ?_;rintro e w' ⟨rfl,rfl⟩))
 all_goals go_wp2
 all_goals go_ret
 all_goals exact⟨rfl,1,_,by rw[alloc_eq_grow,alloc_eq_grow,alloc_eq_grow,grow_grow,grow_grow];rfl⟩
open Go.Shelf Go.RowKit Go.Lib Go.Sort
def xd(x:Int×Int×Int):List Value:=[.int .i64 x.1,.int .i64 x.2.1,.int .i64 x.2.2]
theorem zn(x y:Int×Int×Int):Go.AL.yK x y=true↔x.1<y.1∨(x.1=y.1∧(x.2.1<y.2.1∨(x.2.1=y.2.1∧x.2.2<y.2.2))):=by
 unfold Go.AL.yK Go.AL.cw;grind
theorem B5(x y:Int×Int×Int):ltOf cfI x y=Go.AL.yK x y:=by
 rw[aBM,zn];unfold ltOf cfI or3 vd;grind
theorem Bw(x y:Int×Int×Int):Go.AL.yK x y=false↔¬ (x.1<y.1∨(x.1=y.1∧(x.2.1<y.2.1∨(x.2.1=y.2.1∧x.2.2<y.2.2)))):=by
 rw[← zn];simp
theorem asv:SWO (ltOf cfI) where
 irrefl x:=by rw[B5,Bw];omega
 trans x y z h1 h2:=by rw[B5,zn]at *;omega
 ntrans x y z h1 h2:=by rw[B5,Bw]at *;omega
theorem J6(x y:Int×Int×Int)(h1:Go.AL.yK x y=false)(h2:Go.AL.yK y x=false):x=y:=by
 grind[Bw]
theorem afU(l:List (Int×Int×Int)):l.mergeSort (fun x y=>!ltOf cfI y x)=Go.AL.ca Go.AL.yK l:=by
 have e:(fun x y=>!ltOf cfI y x)=fun x y=>!Go.AL.yK y x:=by funext x y;rw[B5]
 rw[e];refine List.Perm.eq_of_pairwise (le:=fun a b=>Go.AL.yK b a=false) (fun a b _ _ h1 h2=>J6 a b h2 h1) ?_ (Go.AL.jy Go.AL.ao8 l) ((List.mergeSort_perm l _).trans (Go.AL.lb l).symm);have h:=List.pairwise_mergeSort (le:=fun x y=>!Go.AL.yK y x) (fun a b c h1 h2=>by
  simp only[aAi,Bw]at *;omega) (fun a b=>by
  grind[Bw,zn]) l
 grind
end Go.Proofs
namespace Go.AL
open Go.Proofs
noncomputable def anq:dW:=⟨48,false,false,48,3,aE,[.fn 49 []],[],fun l _ _=>decide (l.length≤1099511627776),fun l _ _=>((),ca yK l)⟩
end Go.AL
namespace Go.Proofs
open Go.Shelf Go.RowKit Go.Lib Go.Sort
theorem akj(b cap:Nat)(d:Array (Int×Int×Int))(w:World)(hH:HoldsK xd 3 w b 0 d)(hb:b<w.heap.size)(hs:d.size<4611686018427387904):
  Calls Tryz.prog 48 #[.slice (some ⟨b,0,none⟩) d.size cap,.func (.func 49) #[] #[]] w fun e w'=>e=.returned (.tuple #[])∧∃n os,w'=sortWorldK xd 3 w b 0 n (Go.AL.ca Go.AL.yK d.toList).toArray os:=by
 have eg:∀args w,(callFunc 49 args).run Tryz.prog w=.ok (.enter 49 args) w:=enters_of Tryz.func49 (by kernel_rfl) rfl;have h:=AnyQ.slices_SortFunc_total Tryz.W4 3 (fun w=>by kernel_rfl) (fun w=>by kernel_rfl) xd (fun _=>rfl) (fun x v hv=>by simp[xd]at hv;rcases hv with rfl | rfl | rfl<;>rfl) cfI asv 49 #[] b 0 cap d w eg
  (fun _ _ _ _ x y=>apd x y _) hH hb hs (fun x y h1 h2=>by rw[B5]at h1 h2;exact J6 x y h1 h2)
 refine h.mono ?_;rintro e w' ⟨rfl,n,os,hw⟩;refine⟨rfl,n,os,?_⟩;rw[hw,← afU]
theorem akk(p:Option Addr)(cap:Nat)(w:World):
  Calls Tryz.prog 48 #[.slice p 0 cap,.func (.func 49) #[] #[]] w fun e w'=>e=.returned (.tuple #[])∧w'=w:=
 AnyF.slices_SortFunc_none Tryz.W4 p cap _ w
end Go.Proofs
namespace Go.AL
open Go.Proofs
def aiF(x:aj):List V:=[.int .i64 x.1,.int .i64 x.2.1,.int .i64 x.2.2]
theorem akE(x:Int×Int×Int)(row:List V):bW [zI,zI,zI] x row↔row=[.int .i64 x.1,.int .i64 x.2.1,.int .i64 x.2.2]:=by
 have h:bW [zI,zI,zI] x row=∃v r,row=v::r∧(v=.int .i64 x.1)∧∃v1 r1,r=v1::r1∧(v1=.int .i64 x.2.1)∧∃v2,r1=[v2]∧v2=.int .i64 x.2.2:=by kernel_rfl
 rw[h];constructor
 ·rintro⟨v,r,rfl,rfl,v1,r1,rfl,rfl,v2,rfl,rfl⟩;rfl
 ·rintro rfl;exact⟨_,_,rfl,rfl,_,_,rfl,rfl,_,rfl,rfl⟩
theorem Xp(x:aj)(row:List V):bW aE x row↔row=aiF x:=akE x row
theorem amK:ajB 3 (bW aE) xd aiF:=by
 refine⟨fun _=>rfl,fun x v hv=>?_,fun x row h=>?_,fun _=>rfl,fun x=>(Xp x _).2 rfl,fun x w A j y hy=>?_⟩
 ·simp[xd]at hv;rcases hv with rfl | rfl | rfl<;>rfl
 ·have h:=(Xp x row).1 h
  subst h;refine⟨rfl,fun w A j y u hy hu=>?_⟩
  match j,hy with
  | 0,hy=>cases hy;cases hu;rfl
  | 1,hy=>cases hy;cases hu;rfl
  | 2,hy=>cases hy;cases hu;rfl
 ·match j,hy with
  | 0,hy=>cases hy;exact⟨_,rfl,.int _ _⟩
  | 1,hy=>cases hy;exact⟨_,rfl,.int _ _⟩
  | 2,hy=>cases hy;exact⟨_,rfl,.int _ _⟩
theorem Vt:anq.Ok Tryz.prog:=by
 intro(l:List aj) a hp rows cG (hR:aJ (bW aE) l rows) hA;have hp:l.length≤1099511627776:=azZ hp;have hv:cG=[.fn 49 []]:=by
  obtain⟨v,rfl,vs,rfl,rfl⟩:=hA;rfl
 subst hv;have h:=W3 (α:=aj) (ty:=48) amK (ca yK) bh akj akk (l:=l) (rows:=rows) hR (by omega);exact h
open Go.Proofs Go.RowKit
attribute [local go_sem] Oper.semAt_some
def Zd.A(n0:Nat)(b:Nat):Prop:=n0≤b
theorem alz:(Tryz.prog.info? 48).map (fun i=>(i.zero.map (·.cells.size),i.size,i.bytes))=some (some 3,3,24):=by kernel_rfl
theorem Zd.rp{w:World}{A:Nat→Prop}{x:cC}{us:List Value}(h:Rw w A eG x us):∃p,us[6]? = some p∧us.length=20∧Cl w A (.sl gJ) (rR x) p:=by
 obtain⟨p2,p3,p4,p5,p6,p7,p8,p9,H8,JQ,JP,JO,JN,JM,JL,JK,hh,h2,h3,h4,h5,h6,_⟩:=O9 h;simp_all
theorem Zd.sort{W:World}{n0:Nat}{l:List aj}{u:Value}(h:aR W (Zd.A n0) n0 48 3 aE l u)(hl:l.length≤1000000):
  Calls Tryz.prog 48 #[u,.func (.func 49) #[] #[]] W fun en w'=>en=.returned (.tuple #[])∧aR w' gl n0 48 3 aE (ca yK l) u∧Ev W w' (fun b=>u.ownBlock=some b):=by
 have h1:aR W (fun b=>u.ownBlock=some b) n0 48 3 aE l u:=h.ev (Ev.rf W (fun _=>False)) (fun _ _ h=>h.elim) (fun b _ hb=>(h.lt hb).1) (fun _ _ h=>h);refine(Hw.nt Vt rfl rfl rfl (l:List aj) () (azC (show l.length≤1099511627776 by omega)) (fun b hb=>(h.lt hb).2) h1 (fun g hg=>hg) (us:=[.func (.func 49) #[] #[]]) ⟨[.fn 49 []],⟨_,rfl,[],rfl,rfl⟩,fun H β=>⟨⟨#[],rfl,rfl,fun i x h=>by simp at h⟩,trivial⟩⟩).mono fun en w' hh=>?_
 obtain⟨AM,A',β',rfl,⟨rds,hr,hlen,_⟩,ho,nW,_,bm⟩:=hh;have hr:rds=[]:=hr;subst hr;obtain rfl:=aBs.1 hlen;exact⟨rfl,ho.ev (Ev.rf w' (fun _=>False)) (fun _ _ h=>h.elim) (fun b _ hb=>hb.elim) (fun _ _ h=>h),bm⟩
theorem Zd.push{W:World}{n0:Nat}{xs:List aj}{u:Value}(h:aR W (Zd.A n0) n0 48 3 aE xs u)(hn:n0≤W.heap.size)(x:aj){bx:Nat}(nr:HB W bx 48 (kz x).toArray)(hl:xs.length≤1000000):
  ∃v' w',(Builtin.append_ #[36,36] 36 #[u,.slice (some ⟨bx,0,none⟩) 1 1]).run Tryz.prog W=.ok v' w'∧aR w' (Zd.A n0) n0 48 3 aE (xs++[x]) v'∧Below n0 W w':=by
 obtain⟨i0,z,h1,h2,h3,h4,h5⟩:=BJ alz;have Du:List.length (α:=aA aE) xs≤1000000:=hl;obtain⟨g,cap,w',hr,eU,bm,fP⟩:=h.app (t:=36) Tryz.underlying36 h1 h2 h3 h4 h5 (by omega) (x:=x) (us:=kz x) iQ rfl (bx:=bx) (off:=0) (c:=1) (fun j v hv=>by rw[nr.cell,az8];simpa using hv) (by unfold maxLen;omega) (by omega) hn (fun g hg=>(h.lt hg).1);exact⟨_,w',hr,eU _ (fun b _ hb=>hb),bm.os,bm.tape,bm.output,bm.size,fun b hb=>bm.block b (by omega) (fun hh=>by have:=(h.lt hh).1;omega)⟩
theorem xp{l:List cC}{k:Nat}{r:cC}(h:l[k]? = some r):allM (l.take (k+1))=allM (l.take k)++(rR r).map (·.2):=by
 rw[aAz,h];simp[allM]
theorem Lf(l:List cC)(k:Nat):(allM (l.take k)).length≤(allM l).length:=by
 have:allM l=allM (l.take k)++allM (l.drop k):=by
  unfold allM;rw[← List.flatMap_append,aAT]
 rw[this];simp
theorem alm{l:List cC}{k:Nat}{r:cC}(h:l[k]? = some r)(j:Nat):(allM (l.take k)++((rR r).take j).map (·.2)).length≤(allM l).length:=by
 have h1:=Lf l (k+1);rw[xp h]at h1;grind
theorem afW{r:cC}{j:Nat}{m:tm}(h:(rR r)[j]? = some m)(p:List aj):p++((rR r).take (j+1)).map (·.2)=(p++((rR r).take j).map (·.2))++[m.2]:=by
 rw[aAz,h];simp
def Zd.ee(w:World)(l:List cC)(en:Ending)(w':World):Prop:=∃v,en=.returned v∧aR w' gl w.heap.size 48 3 aE (aX l) v∧Below w.heap.size w w'
def Zd.At(w:World)(xs:List aj)(v:Value)(wr:World):Prop:=aR wr (Zd.A w.heap.size) w.heap.size 48 3 aE xs v∧Below w.heap.size w wr
set_option maxRecDepth 100000 in
set_option maxHeartbeats 4000000 in
theorem Zd.calls(w:World)(l:List cC)(u:Value)(hu:Sl w gl gl eG l u)(Nn:l.length≤1000000)(hl:(allM l).length≤1000000):Calls Tryz.prog 17 #[u] w (Zd.ee w l):=by
 have Y1:=Tryz.underlying25;have agk:=Tryz.underlying33;have alJ:=Tryz.underlying36;have apB:=Tryz.underlying48;obtain⟨ua,uc,rfl⟩:=(show ∃a c,u=.slice a (l.length:Nat) c from hu.form);have h0:Zd.At w (allM (l.take 0)) (.slice none 0 0) w:=⟨.inl ⟨rfl,rfl⟩,Below.refl _ _⟩;have HU:=Hw.bf hu;clear hu;go_enter Tryz.func17,Tryz.ntmps17;go_wp2
 go_loopw [3,10] (fun x3 i wr=>∃k:Nat,k≤l.length∧i=.int .i64 (k:Int)∧Zd.At w (allM (l.take k)) x3 wr) (fun _ i _=>l.length-(RowKit.intOf i).toNat)
 case atStart=>exact⟨0,aAu _,rfl,h0⟩
 case round=>
  obtain⟨k,hk,rfl,hAt⟩:=hrel;clear h0;by_cases bO:k<l.length
  ·have wV:(k:Int)<(l.length:Int):=by omega
   have Kl:(0:Int)≤(k:Int):=by omega
   obtain⟨r,hr⟩:∃r,l[k]? = some r:=⟨_,azS bO⟩;obtain⟨ho,hB⟩:=hAt;obtain⟨b,off,c,us,hv,hb,hbA,C9,_,su⟩:=HU.out.get hr;obtain⟨rfl,-,rfl⟩:=Value.slice.inj hv;obtain⟨p6,hp6,uL,rX⟩:=Zd.rp C9;have Qn:∀v∈us,v.oneCell'=true:=C9.one;have F4:wr.rangeAt b (off+k*20) us:=fun j v hv=>(hB.cell (p:=⟨b,off+k*20+j,none⟩) hb).trans (su j v hv)
   obtain⟨ma,mc,rfl⟩:=(show ∃a c,p6=.slice a ((rR r).length:Nat) c from(cH.1 rX).form);have iH:(Tryz.prog.info? 40).map (·.size)=some 20:=by kernel_rfl
   have Kw:Below wr.heap.size wr (wr.alloc (.cells us.toArray 40)):=(Below.refl _ _).alloc (azJ _) _;have nr:=HB.new wr 40 us.toArray;have h6:(wr.alloc (.cells us.toArray 40)).cell? ⟨wr.heap.size,6,none⟩=some (.slice ma ((rR r).length:Nat) mc):=by rw[nr.cell];simpa using hp6
   have HR:=Hw.bf (And.intro hr rX);have HQ:=Hw.bf rX;have hmm:(rR r).length≤1000000:=by
    have h1:=Lf l (k+1);rw[xp hr]at h1;simp only[azG,aA7]at h1;omega
   have HO:=Hw.bf (show Zd.At w (allM (l.take k)++((rR r).take 0).map (·.2)) u3 (wr.alloc (.cells us.toArray 40))from⟨by
    rw[aBb,aBq,aAc];exact ho.ev (et Kw (fun _=>False)) (fun _ _ h=>h.elim) (fun _ _ h=>h) (fun _ _ h=>h),hB.trans (Kw.mono hB.size)⟩)
   clear su hv C9 hr rX nr ho hp6 Kw hB
   go_upto_region 5 with(first | (refine wz rfl 40 (.tmp 12) rfl rfl F4 Tryz.underlying40 rfl iH uL ?_) | (refine qQ rfl 40 (.tmp 5) (.tmp 13) rfl rfl rfl (by rfl) uL iH Qn rfl ?_))
   have apA:=Tryz.underlying40;have apz:=Tryz.underlying38;go_wp2
   go_loopw [3,18] (fun x3 i wr=>∃j:Nat,j≤(rR r).length∧i=.int .i64 (j:Int)∧Zd.At w (allM (l.take k)++((rR r).take j).map (·.2)) x3 wr) (fun _ i _=>(rR r).length-(RowKit.intOf i).toNat)
   case atStart=>exact⟨0,aAu _,rfl,HO.out⟩
   case round=>
    obtain⟨j,hj,rfl,hAt⟩:=hrel;clear HO F4 h6;by_cases TW:j<(rR r).length
    ·have TX:(j:Int)<((rR r).length:Int):=by omega
     have hj0:(0:Int)≤(j:Int):=by omega
     obtain⟨m,hm⟩:∃m,(rR r)[j]? = some m:=⟨_,azS TW⟩;obtain⟨ho,hB⟩:=hAt;have HM:=Hw.bf hm;obtain⟨b2,lj,c2,Dm,VU,nC,_,alP,_,Ia⟩:=((cH.1 HQ.out).low hB).get hm;obtain⟨rfl,-,rfl⟩:=Value.slice.inj VU;have Y0:=Fh alP;have aib:Dm.length=4:=by rw[Y0];rfl
     have auA:∀v∈Dm,v.oneCell'=true:=alP.one;have apN:wr.rangeAt b2 (lj+j*4) Dm:=Ia;have aqf:(Tryz.prog.info? 82).map (·.size)=some 4:=by kernel_rfl
     have Ql:Below wr.heap.size wr (wr.alloc (.cells Dm.toArray 82)):=(Below.refl _ _).alloc (azJ _) _;have agE:=HB.new wr 82 Dm.toArray;have c1:(wr.alloc (.cells Dm.toArray 82)).cell? ⟨wr.heap.size,1,none⟩=some (.int .i64 m.2.1):=by rw[agE.cell,Y0];rfl
     have c2:(wr.alloc (.cells Dm.toArray 82)).cell? ⟨wr.heap.size,2,none⟩=some (.int .i64 m.2.2.1):=by rw[agE.cell,Y0];rfl
     have c3:(wr.alloc (.cells Dm.toArray 82)).cell? ⟨wr.heap.size,3,none⟩=some (.int .i64 m.2.2.2):=by rw[agE.cell,Y0];rfl
     have HG:=Hw.bf (show ∃v' w',(Builtin.append_ #[36,36] 36 #[u3,.slice (some ⟨wr.heap.size+1,0,none⟩) 1 1]).run Tryz.prog ((wr.alloc (.cells Dm.toArray 82)).alloc (.cells #[.int .i64 m.2.1,.int .i64 m.2.2.1,.int .i64 m.2.2.2] 48))=.ok v' w'∧
       Zd.At w (allM (l.take k)++((rR r).take (j+1)).map (·.2)) v' w' from by
      have rh:Below wr.heap.size wr ((wr.alloc (.cells Dm.toArray 82)).alloc (.cells #[.int .i64 m.2.1,.int .i64 m.2.2.1,.int .i64 m.2.2.2] 48)):=Ql.alloc (by simp) _;have hb4:=HB.new (wr.alloc (.cells Dm.toArray 82)) 48 #[.int .i64 m.2.1,.int .i64 m.2.2.1,.int .i64 m.2.2.2];rw[World.size_alloc]at hb4;have ho4:=ho.ev (et rh (fun _=>False)) (fun _ _ h=>h.elim) (fun _ _ h=>h) (fun _ _ h=>h);obtain⟨v',w',e1,e2,e3⟩:=Zd.push ho4 (hB.trans (rh.mono hB.size)).size m.2 hb4 (az0 (alm HR.out.1 j) hl);exact⟨v',w',e1,by rw[afW HM.out];exact e2,(hB.trans (rh.mono hB.size)).trans e3⟩)
     clear Ia VU alP hm ho hB agE Y0 Ql;have axh:=Tryz.underlying82
     go_wp2_with (first
      | (refine wz rfl 82 (.tmp 20) rfl rfl apN Tryz.underlying82 rfl aqf aib ?_)
      | (refine qQ rfl 82 (.tmp 7) (.tmp 21) rfl rfl rfl (by rfl) aib aqf auA rfl ?_)
      | (at_builtin;refine Za.Wl rfl (.tmp 22) (.tmp 25) 36 rfl rfl rfl rfl HG.out ?_;rintro v5 w5 ZG))
     exact⟨⟨j+1,by omega,by congr 1,ZG⟩,by simp[RowKit.intOf];omega⟩
    ·obtain rfl:j=(rR r).length:=by omega
     have TX:¬ ((rR r).length:Int)<((rR r).length:Int):=by omega
     rw[aBi,← xp HR.out.1]at hAt;have HA:=Hw.bf hAt;clear hAt;go_wp2;exact⟨⟨k+1,by omega,by congr 1,HA.out⟩,by simp[RowKit.intOf];omega⟩
  ·obtain rfl:k=l.length:=by omega
   have wV:¬ (l.length:Int)<(l.length:Int):=by omega
   obtain⟨ho,hB⟩:=hAt;rw[aBi]at ho;have HS:=Hw.bf (Zd.sort ho hl);have HB0:=Hw.bf (And.intro hB ho);clear ho hB
   go_wp2_with (go_at_call 48;refine HS.out.mono ?_;rintro en w5 ⟨rfl,VZ,he5⟩)
   have HC:=Hw.bf (Zc.calls w5 w.heap.size _ u3 VZ (az0 (aBt (bh (α:=aj) _)) hl))
   go_wp2_with (go_at_call 50;refine HC.out.mono ?_;rintro en w6 ⟨u6,rfl,ho6,he6,hg6⟩)
   go_ret;refine⟨u6,rfl,?_,?_⟩
   ·rw[← Gk];exact ho6
   ·have h5:=HB0.out.1
    have h7:=HB0.out.2;refine(h5.trans ⟨he5.os,he5.tape,he5.output,he5.size,fun b hb=>he5.block b (by have:=h5.size;omega) (fun hh=>by have:=(h7.lt hh).1;omega)⟩).trans ⟨he6.os,he6.tape,he6.output,he6.size,fun b hb=>he6.block b (by have:=h5.size;have:=he5.size;omega) (fun hh=>by have:=(h7.lt hh).1;omega)⟩
end Go.AL
namespace Go.AL
open Go.Proofs Go.RowKit
variable [ZA]
theorem HB.akr{B:Nat}{t:TypeId}:∀(vs:List Value) {w:World} (k:Nat) {cur:Array Value},HB w B t cur→k+vs.length≤cur.size→∃cur',HB (w.setCells B k vs) B t cur'∧cur'.size=cur.size∧(∀(j:Nat) (v:Value),vs[j]? = some v→cur'[k+j]? = some v)∧∀m,(m<k∨k+vs.length≤m)→cur'[m]? = cur[m]?
 | [],w,k,cur,h,hk=>⟨cur,by simpa [World.setCells]using h,rfl,fun j v hv=>by simp at hv,fun m _=>rfl⟩
 | u::vs,w,k,cur,h,hk=>by
  simp only[azL]at hk;obtain⟨cur',h1,h2,h3,h4⟩:=HB.akr vs (k+1) (h.set k u) (by simp;omega);have e2:w.setCells B k (u::vs)=(w.setCell ⟨B,k,none⟩ u).setCells B (k+1) vs:=rfl;grind
theorem Ev.bM{w:World}{X:Nat→Prop}{b:Nat}(hb:X b∨w.heap.size≤b):∀(vs:List Value) {w':World} (k:Nat),Ev w w' X→Ev w (w'.setCells b k vs) X
 | [],w',k,h=>by simpa [World.setCells]using h
 | u::vs,w',k,h=>by
  have e2:w'.setCells b k (u::vs)=(w'.setCell ⟨b,k,none⟩ u).setCells b (k+1) vs:=rfl;rw[e2];exact Ev.bM hb vs (k+1) (h.st b k u hb)
section
variable {w w':World} {A:Nat→Prop} {n0 es:Nat} {ty:TypeId} {τ:List Ty} {xs:List (aA τ)} {g n c:Nat}
theorem aR.at(h:aR w A n0 ty es τ xs (.slice (some ⟨g,0,none⟩) n c)):∃cur,HB w g ty cur∧cur.size=c*es∧xs.length≤c∧c≤maxLen∧n0≤g∧n=xs.length∧
  ∀(i:Nat) (x:aA τ),xs[i]? = some x→∃us,Rw w A τ x us∧us.length=es∧∀(j:Nat) (v:Value),us[j]? = some v→cur[i*es+j]? = some v:=by
 rcases h with⟨h,_⟩ | ⟨g',am3,cur,he,h1,h2,h3,h4,h5,h6⟩
 all_goals grind
theorem aR.aau(h:aR w A n0 ty es τ xs (.slice (some ⟨g,0,none⟩) n c)){i:Nat}{x:aA τ}(hx:xs[i]? = some x):∃us,Rw w A τ x us∧us.length=es∧(∀(j:Nat) (v:Value),us[j]? = some v→w.cell? ⟨g,i*es+j,none⟩=some v)∧∀j,w.frozen? ⟨g,j,none⟩=false:=by
 obtain⟨cur,h1,h2,h3,h4,h5,h6,h7⟩:=h.at;obtain⟨us,u1,u2,u3⟩:=h7 i x hx;exact⟨us,u1,u2,fun j v hv=>(h1.cell _).trans (u3 j v hv),fun j=>h1.frozen j⟩
theorem aR.put(h:aR w A n0 ty es τ xs (.slice (some ⟨g,0,none⟩) n c))(hgA:A g){i:Nat}{x x':aA τ}(hx:xs[i]? = some x){off:Nat}{vs:List Value}(hov:off+vs.length≤es)
  (aK:∀us,Rw w A τ x us→us.length=es→∃AM,Rw w A τ x' AM∧AM.length=es∧(∀(j:Nat) (v:Value),vs[j]? = some v→AM[off+j]? = some v)∧∀m,(m<off∨off+vs.length≤m)→AM[m]? = us[m]?) :
  aR (w.setCells g (i*es+off) vs) A n0 ty es τ (xs.set i x') (.slice (some ⟨g,0,none⟩) n c):=by
 obtain⟨cur,h1,h2,h3,h4,h5,h6,h7⟩:=h.at;have hi:i<xs.length:=(azR.1 hx).1;have Nt:(i+1)*es≤c*es:=aAh _ (by omega);rw[aAb,aBa]at Nt;obtain⟨cur',k1,k2,k3,k4⟩:=h1.akr vs (i*es+off) (by omega);have bm:Ev w (w.setCells g (i*es+off) vs) (fun b=>b=g):=Ev.bM (X:=fun b=>b=g) (.inl rfl) vs _ (Ev.rf _ _);have hls:(xs.set i x').length=xs.length:=azX;refine .inr ⟨g,c,cur',by rw[hls,h6],h5,k1,by rw[k2,h2],by rw[hls];exact h3,h4,fun m y hy=>?_⟩;by_cases hm:i=m
 ·subst hm
  rw[aA6 hi]at hy;cases hy;obtain⟨us,u1,u2,u3⟩:=h7 i x hx;obtain⟨AM,v1,v2,v3,v4⟩:=aK us u1 u2;refine⟨AM,v1.ev bm (fun b _ hb=>by rw[hb];exact hgA) (fun _ _ h=>h),v2,fun j v hv=>?_⟩;have hj:j<es:=by grind
  by_cases iH:off≤j∧j<off+vs.length
  ·obtain⟨u,hu⟩:∃u,vs[j-off]? = some u:=⟨_,azS (by omega)⟩
   have:=v3 (j-off) u hu;rw[show off+(j-off)=j by omega,hv]at this;cases this;have:=k3 (j-off) v hu
   rwa [show i*es+off+(j-off)=i*es+j by omega]at this
  grind
 ·rw[aBc hm]at hy
  obtain⟨us,u1,u2,u3⟩:=h7 m y hy;refine⟨us,u1.ev bm (fun b _ hb=>by rw[hb];exact hgA) (fun _ _ h=>h),u2,fun j v hv=>?_⟩;have hj:j<es:=by grind
  rw[k4 _ ?_]
  ·exact u3 j v hv
  ·rcases Nat.lt_or_gt_of_ne hm with bO | bO
   ·right
    have:=aAh es (show i+1≤m from bO);grind
   ·left
    have:=aAh es (show m+1≤i from bO);grind
def Rc(wi wr:World)(G i es:Nat)(ty:TypeId)(us:List Value):Prop:=Ev wi wr (fun b=>b=G)∧∃cb cur,HB wi G ty cb∧HB wr G ty cur∧cur.size=cb.size∧us.length=es∧i*es+es≤cur.size∧(∀m,(m<i*es∨i*es+es≤m)→cur[m]? = cb[m]?)∧∀(j:Nat) (v:Value),us[j]? = some v→cur[i*es+j]? = some v
theorem Rc.start(h:aR w A n0 ty es τ xs (.slice (some ⟨g,0,none⟩) n c)){i:Nat}{x:aA τ}(hx:xs[i]? = some x):∃us,Rw w A τ x us∧Rc w w g i es ty us:=by
 obtain⟨cur,h1,h2,h3,h4,h5,h6,h7⟩:=h.at;obtain⟨us,u1,u2,u3⟩:=h7 i x hx;have hi:i<xs.length:=(azR.1 hx).1;have Nt:(i+1)*es≤c*es:=aAh _ (by omega);rw[aAb,aBa]at Nt;exact⟨us,u1,Ev.rf _ _,cur,cur,h1,h1,rfl,u2,by omega,fun _ _=>rfl,u3⟩
theorem Rc.fin{wi wr:World}{us:List Value}{i:Nat}(h:Rc wi wr g i es ty us)(ho:aR wi (ef g) n0 ty es τ xs (.slice (some ⟨g,0,none⟩) n c))(hi:i<xs.length){x':aA τ}(hr:Rw wr (ef g) τ x' us):aR wr (ef g) n0 ty es τ (xs.set i x') (.slice (some ⟨g,0,none⟩) n c):=by
 obtain⟨bm,cb,cur,b1,b2,b3,b4,b5,b6,b7⟩:=h;obtain⟨aiJ,h1,h2,h3,h4,h5,h6,h7⟩:=ho.at;obtain rfl:cb=aiJ:=by
  have e:(some (Obj.cells cb ty):Option Obj)=some (Obj.cells aiJ ty):=(show wi.heap[g]? = _ from b1).symm.trans h1;simpa using e
 have hls:(xs.set i x').length=xs.length:=azX;refine .inr ⟨g,c,cur,by rw[hls,h6],h5,b2,by rw[b3,h2],by rw[hls];exact h3,h4,fun m y hy=>?_⟩;by_cases hm:i=m
 ·grind
 ·rw[aBc hm]at hy
  obtain⟨Dm,u1,u2,u3⟩:=h7 m y hy;refine⟨Dm,u1.ev bm (fun b _ hb=>.inr hb) (fun _ _ h=>h),u2,fun j v hv=>?_⟩;have hj:j<es:=by grind
  rw[b6 _ ?_]
  ·exact u3 j v hv
  ·rcases Nat.lt_or_gt_of_ne hm with bO | bO
   ·right
    have:=aAh es (show i+1≤m from bO);grind
   ·left
    have:=aAh es (show m+1≤i from bO);grind
theorem Rc.ev{wi wr SE:World}{us:List Value}{i:Nat}(h:Rc wi wr g i es ty us){X:Nat→Prop}(he:Ev wr SE X)(hG:¬ X g)(hX:∀b,b<wi.heap.size→¬ X b):Rc wi SE g i es ty us:=by
 obtain⟨bm,cb,cur,b1,b2,b3,b4,b5,b6,b7⟩:=h;exact⟨⟨he.os.trans bm.os,he.tape.trans bm.tape,he.output.trans bm.output,az0 bm.size he.size,fun b hb hn=>(he.block b (by have:=bm.size;omega) (hX b hb)).trans (bm.block b hb hn)⟩,cb,cur,b1,b2.ev he hG,b3,b4,b5,b6,b7⟩
theorem Rc.low{wi wr SE:World}{us:List Value}{i:Nat}(h:Rc wi wr g i es ty us)(he:Below wr.heap.size wr SE):Rc wi SE g i es ty us:=h.ev (et he (fun _=>False)) (fun h=>h) (fun _ _ h=>h)
theorem Rc.put{wi wr:World}{us:List Value}{i:Nat}(h:Rc wi wr g i es ty us){off:Nat}{vs:List Value}(hov:off+vs.length≤es):Rc wi (wr.setCells g (i*es+off) vs) g i es ty (us.take off++vs++us.drop (off+vs.length)):=by
 obtain⟨bm,cb,cur,b1,b2,b3,b4,b5,b6,b7⟩:=h;obtain⟨cur',k1,k2,k3,k4⟩:=b2.akr vs (i*es+off) (by omega);refine⟨Ev.bM (X:=fun b=>b=g) (.inl rfl) vs _ bm,cb,cur',b1,k1,by rw[k2,b3],by simp;omega,by rw[k2];exact b5,fun m hm=>by rw[k4 m (by omega)];exact b6 m hm,fun j v hv=>?_⟩;have hto:(us.take off).length=off:=by rw[az5];omega
 by_cases h1:j<off
 ·grind
 ·by_cases h2:j<off+vs.length
  ·grind
  ·rw[aAa (by simp;omega),aAM]at hv
   grind
theorem Rc.cell{wi wr:World}{us:List Value}{i:Nat}(h:Rc wi wr g i es ty us){j:Nat}{v:Value}(hv:us[j]? = some v):wr.cell? ⟨g,i*es+j,none⟩=some v∧wr.frozen? ⟨g,i*es+j,none⟩=false:=by
 obtain⟨bm,cb,cur,b1,b2,b3,b4,b5,b6,b7⟩:=h;exact⟨(b2.cell _).trans (b7 j v hv),b2.frozen _⟩
theorem Rc.lt{wi wr:World}{us:List Value}{i:Nat}(h:Rc wi wr g i es ty us):g<wi.heap.size:=by
 obtain⟨bm,cb,cur,b1,b2,b3,b4,b5,b6,b7⟩:=h;exact b1.lt
end
end Go.AL
namespace Go.AL
open Go.Proofs Go.RowKit
variable [ZA]
theorem QJ{A B:Type}{R:A→B→Prop}:∀{xs:List A} {ys:List B},xs.length=ys.length→(∀(i:Nat) (a:A),xs[i]? = some a→∃b,ys[i]? = some b∧R a b)→aJ R xs ys
 | [],[],_,_=>trivial
 | a::xs,b::ys,hl,h=>by
  obtain⟨b',e,hr⟩:=h 0 a rfl;simp at e;subst e;exact⟨hr,QJ (by simpa using hl) fun i x hx=>by simpa using h (i+1) x (by simpa using hx)⟩
 | [],_::_,hl,_=>by simp at hl
 | _::_,[],hl,_=>by simp at hl
def Aq(G:Nat)(q:Value)(b:Nat):Prop:=ef G b∨q.ownBlock=some b
structure Zq (wi wr:World) (G i:Nat) (l:List aL) (x:ay) (q:Value) (ps:List Value):Prop where
 rc:Rc wi wr G i 6 38 (q::ps)
 own:aR wr (Aq G q) wi.heap.size 64 15 bg l q
 row:Rw wr (Aq G q) bl ([],x.2) (.slice none 0 0::ps)
section
variable {wi wr SE:World} {G i:Nat} {l:List aL} {x:ay} {q:Value} {ps:List Value}
theorem Zq.low(h:Zq wi wr G i l x q ps)(hb:Below wr.heap.size wr SE):Zq wi SE G i l x q ps:=
 ⟨h.rc.low hb,h.own.ev (et hb (fun _=>False)) (fun _ _ h=>h.elim) (fun _ _ h=>h) (fun _ _ h=>h),h.row.ev (et hb (fun _=>False)) (fun _ _ h=>h.elim) (fun _ _ h=>h)⟩
theorem Zq.ne(h:Zq wi wr G i l x q ps):∀g,q.ownBlock=some g→¬ g=G:=fun g hg e=>by have:=(h.own.lt hg).1;have:=h.rc.lt;omega
theorem Zq.na(h:Zq wi wr G i l x q ps):∀g,q.ownBlock=some g→¬ ef G g:=fun g hg e=>by have:=(h.own.lt hg).1;have:=h.rc.lt;have:=e.le;omega
theorem Zq.gr(h:Zq wi wr G i l x q ps):G<wr.heap.size:=az3 h.rc.lt h.rc.1.size
theorem Zq.cl(h:Zq wi wr G i l x q ps):Cl wr (ef G) (.sl bg) l q:=(h.own.ev (Ev.rf wr (fun _=>False)) (fun _ _ h=>h.elim) (fun b _ h=>by first | exact .inl h | exact .inl (.inr h)) (fun _ _ h=>h)).cl rfl h.na
theorem Zq.len(h:Zq wi wr G i l x q ps):ps.length=5:=by
 obtain⟨_,cb,cur,b1,b2,b3,b4,b5,b6,b7⟩:=h.rc;simpa using b4
theorem Zq.new(h:Zq wi wr G i l x q ps){w2:World}(hb:Below wr.heap.size wr w2){A':Nat→Prop}{l':List aL}{q':Value}(ho:aR w2 A' wr.heap.size 64 15 bg l' q')(hA:∀b,ef G b→A' b)(hg:∀g,q'.ownBlock=some g→A' g):Zq wi (w2.setCell ⟨G,i*6,none⟩ q') G i l' x q' ps:=by
 have h2:=h.low hb;have dU:∀g,q'.ownBlock=some g→¬ g=G:=fun g hg e=>by have:=(ho.lt hg).1;have:=h.gr;omega
 have wu:Ev w2 (w2.setCell ⟨G,i*6,none⟩ q') (fun b=>b=G):=Ev.st (X:=fun b=>b=G) (Ev.rf w2 _) G _ _ (.inl rfl);refine⟨?_,?_,?_⟩
 ·have:=h2.rc.put (off:=0) (vs:=[q']) (by simp)
  simpa [World.setCells]using this
 ·exact((ho.mono (show wi.heap.size≤wr.heap.size from h.rc.1.size)).ev (Ev.rf w2 (fun _=>False)) (A':=Aq G q') (fun _ _ h=>h.elim) (fun b _ hb=>hb.elim (hA b) (hg b)) (fun _ _ h=>h)).ev wu (fun b _ h=>by first | exact .inl h | exact .inl (.inr h)) (fun _ _ h=>h) (fun g hg h=>dU g hg h)
 ·refine(h.row.ev (et hb (fun _=>False)) (A':=Aq G q') (fun _ _ h=>h.elim) (fun b hb h=>?_)).ev wu (fun b _ h=>by first | exact .inl h | exact .inl (.inr h)) (fun _ _ h=>h)
  rcases h with h | h
  ·exact .inl h
  ·have:=(ho.lt h).1;omega
theorem Zq.swe(h:Zq wi wr G i l x q ps)(hl:ct l=true)(op:aj){W:World}(hW:Below wr.heap.size wr W):Calls Tryz.prog 54 #[q,.agg (kz op).toArray] W fun en w2=>∃q' r,en=.returned (.tuple #[q',r])∧Zq wi (w2.setCell ⟨G,i*6,none⟩ q') G i (tS (l,op)).1 x q' ps∧Below W.heap.size W w2∧(∃a n c,q'=.slice a n c)∧w2.cell? ⟨G,i*6,none⟩=some q∧w2.frozen? ⟨G,i*6,none⟩=false:=by
 have h1:=h.low hW;refine(Hw.call ac4 ((l,op):List aL×aj) hl (A:=ef G) (fun b hb=>hb.lt h1.gr) (us:=#[q,.agg (kz op).toArray]) (yE.two (Ag.rdc h1.cl) (Ag.g iQ))).mono fun en w2 hh=>?_
 obtain⟨us,A',rfl,hr,nW,hA',hB⟩:=hh;obtain⟨u0,r0,rfl,⟨ho,hg⟩,u1,rfl,_⟩:=(show ∃u r,us=u::r∧(aR w2 A' W.heap.size 64 15 bg (tS (l,op)).1 u∧∀g,u.ownBlock=some g→A' g)∧∃u1,r=[u1]∧Rs w2 A' W.heap.size (.o 48 3 aE) (tS (l,op)).2 u1 from hr);exact⟨u0,u1,rfl,h1.new hB ho (fun b hb=>nW b hb) hg,hB,(by obtain⟨a,c,e⟩:=ho.form;exact⟨a,_,c,e⟩),(h1.low hB).rc.cell (j:=0) rfl⟩
theorem afg{us:List Value}{w:World}{A:Nat→Prop}{s:aL}(h:Rw w A bg s us):Rw w A bg (nY s) (us.take 12++[.int .i64 0,.int .i64 0,.int .i64 0])∧us.length=15:=by
 obtain⟨p,rfl,hp⟩:=O5 h;exact⟨Ff (x:=nY s) hp,rfl⟩
theorem Zq.ulk{g n c:Nat}(h:Zq wi wr G i l x (.slice (some ⟨g,0,none⟩) n c) ps){j:Nat}{s:aL}(hs:l[j]? = some s):Zq wi (wr.setCells g (j*15+12) [.int .i64 0,.int .i64 0,.int .i64 0]) G i (l.set j (nY s)) x (.slice (some ⟨g,0,none⟩) n c) ps:=by
 have hgw:=h.own.lt (g:=g) rfl;have bm:Ev wr (wr.setCells g (j*15+12) [.int .i64 0,.int .i64 0,.int .i64 0]) (fun b=>b=g):=Ev.bM (X:=fun b=>b=g) (.inl rfl) _ _ (Ev.rf _ _);have hGg:¬ G=g:=fun e=>h.ne g rfl e.symm
 refine⟨h.rc.ev bm hGg (fun b hb e=>by omega),?_,h.row.ev bm (fun b _ e=>.inr (by rw[e];rfl)) (fun _ _ h=>h)⟩;refine h.own.put (τ:=bg) (x':=nY s) (.inr rfl) hs (by simp) fun us hu hl=>⟨_,(afg hu).1,?_,fun k v hv=>?_,fun m hm=>?_⟩
 all_goals grind
theorem aoP(x:ay)(w:World)(A:Nat→Prop){p1 p2 p3 p4 p5:Value}(h:Rw w A bl ([],x.2) [.slice none 0 0,p1,p2,p3,p4,p5]){l:List aL}{q r:Value}(hq:Cl w A (.sl bg) l q){d:List aj}(hr:Cl w A (.sl aE) d r):
  Rw w A bl (l,x.2.1,x.2.2.1,x.2.2.2.1,x.2.2.2.2.1,d) [q,p1,p2,p3,p4,r]:=by
 obtain⟨z0,z1,z2,z3,z4,z5,e,h0,h1,h2,h3,h4,h5⟩:=jt h;simp only[Ir,aBw,and_true]at e;grind[kJ]
theorem Zq.fin(h:Zq wi wr G i l x q ps){w2:World}(hb:Below wr.heap.size wr w2){d:List aj}{r:Value}(hr:Cl w2 (ef G) (.sl aE) d r){n0 n c:Nat}{bM:List ay}(ho:aR wi (ef G) n0 38 6 bl bM (.slice (some ⟨G,0,none⟩) n c))(hi:i<bM.length):
  aR (w2.setCell ⟨G,i*6+5,none⟩ r) (ef G) n0 38 6 bl (bM.set i (l,x.2.1,x.2.2.1,x.2.2.2.1,x.2.2.2.2.1,d)) (.slice (some ⟨G,0,none⟩) n c):=by
 have h2:=h.low hb;have wu:Ev w2 (w2.setCell ⟨G,i*6+5,none⟩ r) (fun b=>b=G):=Ev.st (X:=fun b=>b=G) (Ev.rf w2 _) G _ _ (.inl rfl);have hl5:=h.len;obtain⟨p1,p2,p3,p4,p5,rfl⟩:∃p1 p2 p3 p4 p5,ps=[p1,p2,p3,p4,p5]:=by
  match ps,hl5 with
  | [a,b,c,d,e],_=>exact⟨a,b,c,d,e,rfl⟩
 have VV:=h2.rc.put (off:=5) (vs:=[r]) (by simp);refine Rc.fin (us:=[q,p1,p2,p3,p4,r]) (by simpa [World.setCells]using VV) ho hi ?_;have aK:=(h2.row.ev (Ev.rf w2 (fun _=>False)) (A':=ef G) (fun _ _ h=>h.elim) (fun b _ h=>by first | exact .inl h | exact .inl (.inr h))).ev wu (fun _ _ h=>.inr h) (fun _ _ h=>h);exact aoP x _ _ aK (h2.cl.ev wu (fun _ _ h=>.inr h) (fun _ _ h=>h)) (hr.ev wu (fun _ _ h=>.inr h) (fun _ _ h=>h))
end
theorem Rc.there{wi wr:World}{us:List Value}{i g es:Nat}{ty:TypeId}(h:Rc wi wr g i es ty us):wr.there g (i*es) es:=fun j hj=>by
 obtain⟨bm,cb,cur,b1,b2,b3,b4,b5,b6,b7⟩:=h;refine⟨?_,b2.frozen _⟩;rw[b2.cell,aAL (by omega)];rfl
theorem Ev.cell{w w':World}{X:Nat→Prop}(h:Ev w w' X){b o:Nat}(hb:b<w.heap.size)(hX:¬ X b):w'.cell? ⟨b,o,none⟩=w.cell? ⟨b,o,none⟩:=by
 simp[World.cell?,h.block b hb hX]
theorem apw{w:World}{A X:Nat→Prop}{xs:List aj}{u:Value}(h:Sl w A X aE xs u){i:Nat}{x:aj}(hx:xs[i]? = some x):∃b off c,u=.slice (some ⟨b,off,none⟩) (xs.length:Nat) c∧b<w.heap.size∧¬ X b∧w.cell? ⟨b,off+i*3,none⟩=some (.int .i64 x.1)∧w.cell? ⟨b,off+i*3+1,none⟩=some (.int .i64 x.2.1)∧w.cell? ⟨b,off+i*3+2,none⟩=some (.int .i64 x.2.2):=by
 obtain⟨b,off,c,us,e,hb,hX,hr,hl,hc⟩:=h.get hx;have gV:=l6 hr;subst gV;exact⟨b,off,c,e,hb,hX,hc 0 _ rfl,hc 1 _ rfl,hc 2 _ rfl⟩
theorem Cl.up{w W:World}{G:Nat}(hG:w.heap.size≤G)(hb:Below w.heap.size w W){t:Ty}{x:t.T}{u:Value}(h:Cl w ZA.A t x u):Cl W (ef G) t x u:=
 h.fr (A':=ef G) (fun b gW _=>hb.block b gW) hb.size (fun b gW e=>e.elim (·.2) (fun e=>by omega))
theorem FZ{w:World}{A X:Nat→Prop}{xs:List Int}{u:Value}(h:Sl w A X [zI] xs u){i:Nat}{x:Int}(hx:xs[i]? = some x):∃b off c,u=.slice (some ⟨b,off,none⟩) (xs.length:Nat) c∧b<w.heap.size∧w.cell? ⟨b,off+i,none⟩=some (.int .i64 x):=by
 obtain⟨b,off,c,us,e,hb,_,hr,hl,hc⟩:=h.get hx;obtain⟨u0,rfl,v,h1,h2⟩:=(show ∃u,us=[u]∧Cl w A (zI) x u from hr);have h1:=qS.1 h1;subst h1;cases h2;refine⟨b,off,c,e,hb,?_⟩;have:=hc 0 _ rfl;simpa using this
theorem Js(a:Int×Int×List cC):(dp a).2.2=([],[],[],[]):=by
 unfold dp;grind
theorem aR.there{w:World}{A:Nat→Prop}{n0 es:Nat}{ty:TypeId}{τ:List Ty}{xs:List (aA τ)}{g n c:Nat}(h:aR w A n0 ty es τ xs (.slice (some ⟨g,0,none⟩) n c)){i off m:Nat}(hi:i<xs.length)(hm:off+m≤es):w.there g (i*es+off) m:=fun j hj=>by
 obtain⟨cur,h1,h2,h3,h4,h5,h6,h7⟩:=h.at;have Nt:(i+1)*es≤c*es:=aAh _ (by omega);rw[aAb,aBa]at Nt;refine⟨?_,h1.frozen _⟩;rw[h1.cell,aAL (by omega)];rfl
theorem aR.qT{w:World}{A:Nat→Prop}{n0 es:Nat}{ty:TypeId}{τ:List Ty}{xs:List (aA τ)}{a:Option Addr}{n c:Nat}(h:aR w A n0 ty es τ xs (.slice a n c))(hx:0<xs.length):∃g,a=some ⟨g,0,none⟩:=by
 rcases h with⟨_,rfl⟩ | ⟨g,cap,cur,e,_⟩
 all_goals grind
theorem aR.asV{w:World}{A:Nat→Prop}{n0 es:Nat}{ty:TypeId}{τ:List Ty}{xs:List (aA τ)}{a:Option Addr}{n c:Nat}(h:aR w A n0 ty es τ xs (.slice a n c)):n=xs.length:=by
 rcases h with⟨e,rfl⟩ | ⟨g,cap,cur,e,_⟩
 all_goals grind
def Kz{α:Type}(f:α→α)(l:List α)(j:Nat):List α:=(l.take j).map f++l.drop j
theorem Qs{α:Type}(f:α→α)(l:List α)(j:Nat):(Kz f l j).length=l.length:=by grind[Kz]
theorem Qt{α:Type}(f:α→α)(l:List α):Kz f l l.length=l.map f:=by unfold Kz;simp
theorem ZJ{α:Type}(f:α→α){l:List α}{j:Nat}{x:α}(h:l[j]? = some x):(Kz f l j)[j]? = some x:=by
 have hj:=(azR.1 h).1;unfold Kz;grind
theorem Qr{α:Type}(f:α→α){l:List α}{j:Nat}{x:α}(h:l[j]? = some x):(Kz f l j).set j (f x)=Kz f l (j+1):=by
 have hj:=(azR.1 h).1;have hx:l[j]=x:=by grind
 unfold Kz;have hl:((l.take j).map f).length=j:=by simp;omega
 rw[List.set_append,azD (by omega),hl,aAX,aA4 hj,hx,aAz,h];simp
theorem SH(l:List aL){d:List aj}{j:Nat}{op:aj}(h:d[j]? = some op):oe l (d.take (j+1))=(tS (oe l (d.take j),op)).1:=by
 unfold oe;rw[aAz,h];simp
theorem Zm.cln{W:World}{G:Nat}(hG:G<W.heap.size){d:List aj}{u:Value}(h:Cl W (ef G) (.sl aE) d u)(hd:d.length≤100000):Calls Tryz.prog 55 #[u] W fun en w'=>∃r,en=.returned r∧Cl w' (ef G) (.sl aE) d r∧Below W.heap.size W w'∧r.oneCell'=true∧∃a n c,r=.slice a n c:=by
 refine(Hw.call LN (d:List aj) (azC (show d.length≤1099511627776 by omega)) (A:=ef G) (fun b hb=>hb.lt hG) (us:=#[u]) (yE.one (Ag.rdc h))).mono fun en w' hh=>?_
 obtain⟨us,A',rfl,hr,nW,hA',hB⟩:=hh;obtain⟨r,rfl,ho,hg⟩:=(show ∃u',us=[u']∧aR w' A' W.heap.size 48 3 aE d u'∧∀g,u'.ownBlock=some g→A' g from hr);exact⟨r,rfl,(ho.ev (Ev.rf w' (fun _=>False)) (fun _ _ h=>h.elim) (fun b _ hb=>nW b hb) (fun _ _ h=>h)).cl rfl (fun g hg hb=>by have:=(ho.lt hg).1;have:=hb.le;omega),hB,ho.one,by obtain⟨a,c,e⟩:=ho.form;exact⟨a,_,c,e⟩⟩
end Go.AL
