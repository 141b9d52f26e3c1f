/- By an AI agent. -/
import Derived.Test.YtfggefeflojnkaaGreatZl
import Derived.Test.YtfggefeflojnkaaGreatAxShelf
import Derived.Shelf.SlSortCmp.Insertion
import Derived.Sort.Statements
import Derived.Shelf.SlSortCmp.NoneTotal
set_option linter.unusedSectionVars false
namespace Go.Proofs
open Go.Shelf Go.RowKit Go.Lib Go.Sort
def vm(a b:Int):Int:=if a<b then -1 else if b<a then 1 else 0
set_option maxHeartbeats 1000000 in
theorem apQ(a b:Int)(W:World):Calls Tryz.prog 84 #[.int .i64 a,.int .i64 b] W fun e w'=>e=.returned (.int .i64 (vm a b))∧w'=W:=by
 go_enter Tryz.func84,Tryz.ntmps84;go_wp2
 all_goals go_ret
 all_goals exact⟨by unfold vm;(repeat' split)<;>first | rfl | omega,rfl⟩
def or3(a b c:Int):Int:=if a ≠ 0 then a else if b ≠ 0 then b else c
set_option maxHeartbeats 1000000 in
theorem orW(a b c:Int)(B:Nat)(W:World)(h0:W.cell? ⟨B,0,none⟩=some (.int .i64 a))(h1:W.cell? ⟨B,1,none⟩=some (.int .i64 b))(h2:W.cell? ⟨B,2,none⟩=some (.int .i64 c)):
  Calls Tryz.prog 83 #[.slice (some ⟨B,0,none⟩) 3 3] W fun e w'=>e=.returned (.int .i64 (or3 a b c))∧w'=W:=by
 go_enter Tryz.func83,Tryz.ntmps83;go_wp2
 go_loop [8] (fun i=>∃k:Nat,k≤3∧i=.int .i64 (k:Int)∧(1≤k→a=0)∧(2≤k→b=0)∧(3≤k→c=0)) (fun i=>3-(intOf i).toNat)
 case atStart=>exact⟨0,by omega,rfl,by omega,by omega,by omega⟩
 case round=>
  obtain⟨k,hk,rfl,ha,hb,hc⟩:=hrel;have key:∀(n:Int) (j:Nat),j<3→(j:Int)=(k:Int)→W.cell? ⟨B,j,none⟩=some (.int .i64 n)→W.cell? ⟨B,k*1,none⟩=some (.int .i64 n):=fun n j hj e h=>by
   obtain rfl:j=k:=by omega
   rw[Nat.mul_one];exact h
  by_cases h3:k=3
  ·subst h3
   have e1:=ha (by omega);have e2:=hb (by omega);have e3:=hc (by omega);have HE:=Go.AL.Hw.bT (show or3 a b c=0 by unfold or3;simp[e1,e2,e3]);clear ha hb hc key h0 h1 h2 e1 e2 e3;go_wp2;go_ret;exact⟨by rw[HE.out];rfl,rfl⟩
  ·obtain⟨n,hn,hz,hnz⟩:∃n:Int,W.cell? ⟨B,k,none⟩=some (.int .i64 n)∧(n=0→(1≤k+1→a=0)∧(2≤k+1→b=0)∧(3≤k+1→c=0))∧(n ≠ 0→or3 a b c=n):=by
    match k,hk,h3 with
    | 0,_,_=>exact⟨a,h0,fun e=>⟨fun _=>e,by omega,by omega⟩,fun e=>by unfold or3;rw[aCr e]⟩
    | 1,_,_=>exact⟨b,h1,fun e=>⟨fun _=>ha (by omega),fun _=>e,by omega⟩,fun e=>by unfold or3;rw[aCo (by simp[ha (by omega)]),aCr e]⟩
    | 2,_,_=>exact⟨c,h2,fun e=>⟨fun _=>ha (by omega),fun _=>hb (by omega),fun _=>e⟩,fun e=>by unfold or3;rw[aCo (by simp[ha (by omega)]),aCo (by simp[hb (by omega)])]⟩
    | 3,_,h=>exact absurd rfl h
   have hk3:(k:Int)<3:=by omega
   have Rk:(0:Int)≤(k:Int):=by omega
   have hk4:k<3:=by omega
   clear ha hb hc key h0 h1 h2 h3 hk;by_cases hn0:n=0
   ·have HZ:=Go.AL.Hw.bT (hz hn0)
    subst hn0;clear hz hnz;go_wp2;exact⟨⟨k+1,by omega,by congr 1,HZ.out.1,HZ.out.2.1,HZ.out.2.2⟩,by simp[intOf];omega⟩
   ·have HZ:=Go.AL.Hw.bT (hnz hn0)
    have hnb:(n != 0)=true:=by simpa using hn0
    clear hz hnz;go_wp2;go_ret;exact⟨by rw[HZ.out];rfl,rfl⟩
def cfI(x y:Int×Int×Int):Int:=or3 (vm x.1 y.1) (vm x.2.1 y.2.1) (vm x.2.2 y.2.2)
theorem c3(W:World)(o1 o2:Obj)(cs:Array Value)(t:TypeId)(j:Nat)(v:Value)(hv:cs[j]? = some v):((((W.alloc o1).alloc o2).alloc (.cells cs t)).drew).cell? ⟨W.heap.size+1+1,j,none⟩=some v:=by
 have h:=(Go.AL.HB.new ((W.alloc o1).alloc o2) t cs).cell j;simp only[World.size_alloc]at h;exact h.trans hv
set_option maxRecDepth 100000 in
set_option maxHeartbeats 4000000 in
theorem ash(x y:Int×Int×Int)(W:World):Calls Tryz.prog 49 #[.agg #[.int .i64 x.1,.int .i64 x.2.1,.int .i64 x.2.2],.agg #[.int .i64 y.1,.int .i64 y.2.1,.int .i64 y.2.2]] W fun e w'=>e=.returned (.int .i64 (cfI x y))∧∃q os',w'=grow (W.drewN q) os':=by
 have hu:=Tryz.underlying48;unfold cfI;obtain⟨r0,zl⟩:∃r,r=vm x.1 y.1:=⟨_,rfl⟩;obtain⟨r1,hr1⟩:∃r,r=vm x.2.1 y.2.1:=⟨_,rfl⟩;obtain⟨r2,FF⟩:∃r,r=vm x.2.2 y.2.2:=⟨_,rfl⟩;have sX:∀W,Calls Tryz.prog 84 #[.int .i64 x.1,.int .i64 y.1] W fun e w'=>e=.returned (.int .i64 r0)∧w'=W:=fun W=>by rw[zl];exact apQ _ _ W
 have hc1:∀W,Calls Tryz.prog 84 #[.int .i64 x.2.1,.int .i64 y.2.1] W fun e w'=>e=.returned (.int .i64 r1)∧w'=W:=fun W=>by rw[hr1];exact apQ _ _ W
 have NL:∀W,Calls Tryz.prog 84 #[.int .i64 x.2.2,.int .i64 y.2.2] W fun e w'=>e=.returned (.int .i64 r2)∧w'=W:=fun W=>by rw[FF];exact apQ _ _ W
 rw[← zl,← hr1,← FF];clear zl hr1 FF;have b1:=(Go.AL.HB.new W 48 #[.int .i64 x.1,.int .i64 x.2.1,.int .i64 x.2.2]).alloc (.cells #[.int .i64 y.1,.int .i64 y.2.1,.int .i64 y.2.2] 48);have b2:=Go.AL.HB.new (W.alloc (.cells #[.int .i64 x.1,.int .i64 x.2.1,.int .i64 x.2.2] 48)) 48 #[.int .i64 y.1,.int .i64 y.2.1,.int .i64 y.2.2];rw[World.size_alloc]at b2;have x0:=b1.cell 0;have x1:=b1.cell 1;have x2:=b1.cell 2;have y0:=b2.cell 0;have y1:=b2.cell 1;have y2:=b2.cell 2;clear b1 b2;go_enter Tryz.func49,Tryz.ntmps49;go_wp2
 go_region_held3 (fun w'=>w'.cell? ⟨W.heap.size,0,none⟩=some (.int .i64 x.1)∧w'.cell? ⟨W.heap.size,1,none⟩=some (.int .i64 x.2.1)∧w'.cell? ⟨W.heap.size,2,none⟩=some (.int .i64 x.2.2)∧w'.cell? ⟨W.heap.size+1,0,none⟩=some (.int .i64 y.1)∧w'.cell? ⟨W.heap.size+1,1,none⟩=some (.int .i64 y.2.1)∧w'.cell? ⟨W.heap.size+1,2,none⟩=some (.int .i64 y.2.2)) (go_keep)
  (first
   | (go_at_call 84;((with_reducible refine(sX _).mono ?_);rintro e w' ⟨rfl,rfl⟩))
   | (go_at_call 84;((with_reducible refine(hc1 _).mono ?_);rintro e w' ⟨rfl,rfl⟩))
   | (go_at_call 84;((with_reducible refine(NL _).mono ?_);rintro e w' ⟨rfl,rfl⟩))
   | (go_at_call 83;refine(orW r0 r1 r2 _ _ (c3 _ _ _ _ _ 0 _ rfl) (c3 _ _ _ _ _ 1 _ rfl) (c3 _ _ _ _ _ 2 _ rfl)).mono ?_;rintro e w' ⟨rfl,rfl⟩))
 all_goals go_wp2
 all_goals go_ret
 all_goals exact⟨rfl,1,_,by rw[alloc_eq_grow,alloc_eq_grow,alloc_eq_grow,grow_grow,grow_grow];rfl⟩
open Go.Shelf Go.RowKit Go.Lib Go.Sort
def xl(x:Int×Int×Int):List Value:=[.int .i64 x.1,.int .i64 x.2.1,.int .i64 x.2.2]
theorem zi(x y:Int×Int×Int):Go.AL.yW x y=true↔x.1<y.1∨(x.1=y.1∧(x.2.1<y.2.1∨(x.2.1=y.2.1∧x.2.2<y.2.2))):=by
 unfold Go.AL.yW Go.AL.cf;by_cases h1:x.1=y.1<;>by_cases h2:x.2.1=y.2.1<;>simp[h1,h2]<;>omega
theorem BA(x y:Int×Int×Int):ltOf cfI x y=Go.AL.yW x y:=by
 rw[aDN,zi];unfold ltOf cfI or3 vm;simp only[aCy]
 (repeat' split)<;>omega
theorem AY(x y:Int×Int×Int):Go.AL.yW x y=false↔¬ (x.1<y.1∨(x.1=y.1∧(x.2.1<y.2.1∨(x.2.1=y.2.1∧x.2.2<y.2.2)))):=by
 rw[← zi];simp
theorem avk:SWO (ltOf cfI) where
 irrefl x:=by rw[BA,AY];omega
 trans x y z h1 h2:=by rw[BA,zi]at *;omega
 ntrans x y z h1 h2:=by rw[BA,AY]at *;omega
theorem Kh(x y:Int×Int×Int)(h1:Go.AL.yW x y=false)(h2:Go.AL.yW y x=false):x=y:=by
 rw[AY]at *;exact Prod.ext (by omega) (Prod.ext (by omega) (by omega))
theorem ahQ(l:List (Int×Int×Int)):l.mergeSort (fun x y=>!ltOf cfI y x)=Go.AL.cb Go.AL.yW l:=by
 have e:(fun x y=>!ltOf cfI y x)=fun x y=>!Go.AL.yW y x:=by funext x y;rw[BA]
 rw[e];refine List.Perm.eq_of_pairwise (le:=fun a b=>Go.AL.yW b a=false) (fun a b _ _ h1 h2=>Kh a b h2 h1) ?_ (Go.AL.jk Go.AL.ase l) ((List.mergeSort_perm l _).trans (Go.AL.lz l).symm);have h:=List.pairwise_mergeSort (le:=fun x y=>!Go.AL.yW y x) (fun a b c h1 h2=>by
  simp only[aDe,AY]at *;omega) (fun a b=>by
  cases h:Go.AL.yW b a with
  | false=>rfl
  | true=>
   have:Go.AL.yW a b=false:=by rw[AY];rw[zi]at h;omega
   rw[this];rfl) l
 exact h.imp fun h=>by simpa using h
end Go.Proofs
namespace Go.AL
open Go.Proofs
noncomputable def aqk:dZ:=⟨48,false,false,48,3,aH,[.fn 49 []],[],fun l _ _=>decide (l.length≤1099511627776),fun l _ _=>((),cb yW l)⟩
end Go.AL
namespace Go.Proofs
open Go.Shelf Go.RowKit Go.Lib Go.Sort
theorem amL(b cap:Nat)(d:Array (Int×Int×Int))(w:World)(hH:HoldsK xl 3 w b 0 d)(hb:b<w.heap.size)(hs:d.size<4611686018427387904):
  Calls Tryz.prog 48 #[.slice (some ⟨b,0,none⟩) d.size cap,.func (.func 49) #[] #[]] w fun e w'=>e=.returned (.tuple #[])∧∃n os,w'=sortWorldK xl 3 w b 0 n (Go.AL.cb Go.AL.yW d.toList).toArray os:=by
 have eg:∀args w,(callFunc 49 args).run Tryz.prog w=.ok (.enter 49 args) w:=enters_of Tryz.func49 (by kernel_rfl) rfl;have h:=AnyQ.slices_SortFunc_total Tryz.Ym 3 (fun w=>by kernel_rfl) (fun w=>by kernel_rfl) xl (fun _=>rfl) (fun x v hv=>by simp[xl]at hv;rcases hv with rfl | rfl | rfl<;>rfl) cfI avk 49 #[] b 0 cap d w eg
  (fun _ _ _ _ x y=>ash x y _) hH hb hs (fun x y h1 h2=>by rw[BA]at h1 h2;exact Kh x y h1 h2)
 refine h.mono ?_;rintro e w' ⟨rfl,n,os,hw⟩;refine⟨rfl,n,os,?_⟩;rw[hw,← ahQ]
theorem amM(p:Option Addr)(cap:Nat)(w:World):
  Calls Tryz.prog 48 #[.slice p 0 cap,.func (.func 49) #[] #[]] w fun e w'=>e=.returned (.tuple #[])∧w'=w:=
 AnyF.slices_SortFunc_none Tryz.Ym p cap _ w
end Go.Proofs
namespace Go.AL
open Go.Proofs
def ali(x:al):List V:=[.int .i64 x.1,.int .i64 x.2.1,.int .i64 x.2.2]
theorem anj(x:Int×Int×Int)(row:List V):cD [.int .i64,.int .i64,.int .i64] x row↔row=[.int .i64 x.1,.int .i64 x.2.1,.int .i64 x.2.2]:=by
 have h:cD [.int .i64,.int .i64,.int .i64] x row=∃v r,row=v::r∧(v=.int .i64 x.1)∧∃v1 r1,r=v1::r1∧(v1=.int .i64 x.2.1)∧∃v2,r1=[v2]∧v2=.int .i64 x.2.2:=by kernel_rfl
 rw[h];constructor
 ·rintro⟨v,r,rfl,rfl,v1,r1,rfl,rfl,v2,rfl,rfl⟩;rfl
 ·rintro rfl;exact⟨_,_,rfl,rfl,_,_,rfl,rfl,_,rfl,rfl⟩
theorem Y0(x:al)(row:List V):cD aH x row↔row=ali x:=anj x row
theorem apJ:al9 3 (cD aH) xl ali:=by
 refine⟨fun _=>rfl,fun x v hv=>?_,fun x row h=>?_,fun _=>rfl,fun x=>(Y0 x _).2 rfl,fun x w A j y hy=>?_⟩
 ·simp[xl]at hv;rcases hv with rfl | rfl | rfl<;>rfl
 ·have h:=(Y0 x row).1 h
  subst h;refine⟨rfl,fun w A j y u hy hu=>?_⟩
  match j,hy with
  | 0,hy=>cases hy;cases hu;rfl
  | 1,hy=>cases hy;cases hu;rfl
  | 2,hy=>cases hy;cases hu;rfl
 ·match j,hy with
  | 0,hy=>cases hy;exact⟨_,rfl,.int _ _⟩
  | 1,hy=>cases hy;exact⟨_,rfl,.int _ _⟩
  | 2,hy=>cases hy;exact⟨_,rfl,.int _ _⟩
theorem Wx:aqk.Ok Tryz.prog:=by
 intro(l:List al) a hp rows cM (hR:aP (cD aH) l rows) hA;have hp:l.length≤1099511627776:=aCE hp;have hv:cM=[.fn 49 []]:=by
  obtain⟨v,rfl,vs,rfl,rfl⟩:=hA;rfl
 subst hv;have h:=Yl (α:=al) (ty:=48) apJ (cb yW) bt amL amM (l:=l) (rows:=rows) hR (by omega);exact h
open Go.Proofs Go.RowKit
attribute [local go_sem] Oper.semAt_some
def Zd.A(n0:Nat)(b:Nat):Prop:=n0≤b
theorem aoe:(Tryz.prog.info? 48).map (fun i=>(i.zero.map (·.cells.size),i.size,i.bytes))=some (some 3,3,24):=by kernel_rfl
theorem Zd.rp{w:World}{A:Nat→Prop}{x:bz}{us:List Value}(h:Rw w A cV x us):∃p,us[6]? = some p∧us.length=20∧Cl w A (.sl yP) (nZ x) p:=by
 obtain⟨p2,p3,p4,p5,p6,p7,p8,p9,QS,QR,QQ,QP,QO,QN,QM,QL,hh,h2,h3,h4,h5,h6,_⟩:=Qb h;exact⟨p6,by rw[hh];rfl,by rw[hh];rfl,h6⟩
theorem Zd.sort{W:World}{n0:Nat}{l:List al}{u:Value}(h:bk W (Zd.A n0) n0 48 3 aH l u)(hl:l.length≤1000000):
  Calls Tryz.prog 48 #[u,.func (.func 49) #[] #[]] W fun en w'=>en=.returned (.tuple #[])∧bk w' gp n0 48 3 aH (cb yW l) u∧Ev W w' (fun b=>u.ownBlock=some b):=by
 have h1:bk W (fun b=>u.ownBlock=some b) n0 48 3 aH l u:=h.ev (Ev.rf W (fun _=>False)) (fun _ _ h=>h.elim) (fun b _ hb=>(h.lt hb).1) (fun _ _ h=>h);refine(Hw.nX Wx rfl rfl rfl (l:List al) () (aCm (show l.length≤1099511627776 by omega)) (fun b hb=>(h.lt hb).2) h1 (fun g hg=>hg) (us:=[.func (.func 49) #[] #[]]) ⟨[.fn 49 []],⟨_,rfl,[],rfl,rfl⟩,fun H β=>⟨⟨#[],rfl,rfl,fun i x h=>by simp at h⟩,trivial⟩⟩).mono fun en w' hh=>?_
 obtain⟨Ah,A',β',rfl,⟨rds,hr,hlen,_⟩,ho,sY,_,bL⟩:=hh;have hr:rds=[]:=hr;subst hr;obtain rfl:=aEn.1 hlen;exact⟨rfl,ho.ev (Ev.rf w' (fun _=>False)) (fun _ _ h=>h.elim) (fun b _ hb=>hb.elim) (fun _ _ h=>h),bL⟩
theorem Zd.push{W:World}{n0:Nat}{xs:List al}{u:Value}(h:bk W (Zd.A n0) n0 48 3 aH xs u)(hn:n0≤W.heap.size)(x:al){bx:Nat}(oE:HB W bx 48 (yM x).toArray)(hl:xs.length≤1000000):
  ∃v' w',(Builtin.append_ #[36,36] 36 #[u,.slice (some ⟨bx,0,none⟩) 1 1]).run Tryz.prog W=.ok v' w'∧bk w' (Zd.A n0) n0 48 3 aH (xs++[x]) v'∧Below n0 W w':=by
 obtain⟨i0,z,h1,h2,h3,h4,h5⟩:=Ko aoe;have DR:List.length (α:=az aH) xs≤1000000:=hl;obtain⟨g,cap,w',hr,fq,bL,fJ⟩:=h.app (t:=36) Tryz.underlying36 h1 h2 h3 h4 h5 (by omega) (x:=x) (us:=yM x) j5 rfl (bx:=bx) (off:=0) (c:=1) (fun j v hv=>by rw[oE.cell,aC0];simpa using hv) (by unfold maxLen;omega) (by omega) hn (fun g hg=>(h.lt hg).1);exact⟨_,w',hr,fq _ (fun b _ hb=>hb),bL.os,bL.tape,bL.output,bL.size,fun b hb=>bL.block b (by omega) (fun hh=>by have:=(h.lt hh).1;omega)⟩
theorem xt{l:List bz}{k:Nat}{r:bz}(h:l[k]? = some r):allM (l.take (k+1))=allM (l.take k)++(nZ r).map (·.2):=by
 rw[aDn,h];simp[allM]
theorem Lv(l:List bz)(k:Nat):(allM (l.take k)).length≤(allM l).length:=by
 have:allM l=allM (l.take k)++allM (l.drop k):=by
  unfold allM;rw[← List.flatMap_append,aDx]
 rw[this];simp
theorem an4{l:List bz}{k:Nat}{r:bz}(h:l[k]? = some r)(j:Nat):(allM (l.take k)++((nZ r).take j).map (·.2)).length≤(allM l).length:=by
 have h1:=Lv l (k+1);rw[xt h]at h1;simp only[aCp,aDF,aCV]at h1 ⊢;omega
theorem ahR{r:bz}{j:Nat}{m:kO}(h:(nZ r)[j]? = some m)(p:List al):p++((nZ r).take (j+1)).map (·.2)=(p++((nZ r).take j).map (·.2))++[m.2]:=by
 rw[aDn,h];simp
def Zd.fv(w:World)(l:List bz)(en:Ending)(w':World):Prop:=∃v,en=.returned v∧bk w' gp w.heap.size 48 3 aH (bc l) v∧Below w.heap.size w w'
def Zd.At(w:World)(xs:List al)(v:Value)(wr:World):Prop:=bk wr (Zd.A w.heap.size) w.heap.size 48 3 aH xs v∧Below w.heap.size w wr
set_option maxRecDepth 100000 in
set_option maxHeartbeats 4000000 in
theorem Zd.calls(w:World)(l:List bz)(u:Value)(hu:Sl w gp gp cV l u)(Ky:l.length≤1000000)(hl:(allM l).length≤1000000):Calls Tryz.prog 17 #[u] w (Zd.fv w l):=by
 have aaD:=Tryz.underlying25;have ah8:=Tryz.underlying33;have aos:=Tryz.underlying36;have asu:=Tryz.underlying48;obtain⟨ua,uc,rfl⟩:=(show ∃a c,u=.slice a (l.length:Nat) c from hu.form);have h0:Zd.At w (allM (l.take 0)) (.slice none 0 0) w:=⟨.inl ⟨rfl,rfl⟩,Below.refl _ _⟩;have HU:=Hw.bT hu;clear hu;go_enter Tryz.func17,Tryz.ntmps17;go_wp2
 go_loopw [3,10] (fun x3 i wr=>∃k:Nat,k≤l.length∧i=.int .i64 (k:Int)∧Zd.At w (allM (l.take k)) x3 wr) (fun _ i _=>l.length-(RowKit.intOf i).toNat)
 case atStart=>exact⟨0,aDj _,rfl,h0⟩
 case round=>
  obtain⟨k,hk,rfl,hAt⟩:=hrel;clear h0;by_cases cg:k<l.length
  ·have xi:(k:Int)<(l.length:Int):=by omega
   have Rk:(0:Int)≤(k:Int):=by omega
   obtain⟨r,hr⟩:∃r,l[k]? = some r:=⟨_,aCF cg⟩;obtain⟨ho,hB⟩:=hAt;obtain⟨b,off,c,us,hv,hb,hbA,ub,_,sX⟩:=HU.out.get hr;obtain⟨rfl,-,rfl⟩:=Value.slice.inj hv;obtain⟨p6,hp6,uT,sK⟩:=Zd.rp ub;have h1c:∀v∈us,v.oneCell'=true:=ub.one;have FE:wr.rangeAt b (off+k*20) us:=fun j v hv=>(hB.cell (p:=⟨b,off+k*20+j,none⟩) hb).trans (sX j v hv)
   obtain⟨ma,mc,rfl⟩:=(show ∃a c,p6=.slice a ((nZ r).length:Nat) c from(cX.1 sK).form);have iz:(Tryz.prog.info? 40).map (·.size)=some 20:=by kernel_rfl
   have KL:Below wr.heap.size wr (wr.alloc (.cells us.toArray 40)):=(Below.refl _ _).alloc (aCt _) _;have oE:=HB.new wr 40 us.toArray;have h6:(wr.alloc (.cells us.toArray 40)).cell? ⟨wr.heap.size,6,none⟩=some (.slice ma ((nZ r).length:Nat) mc):=by rw[oE.cell];simpa using hp6
   have HR:=Hw.bT (And.intro hr sK);have HQ:=Hw.bT sK;have hmm:(nZ r).length≤1000000:=by
    have h1:=Lv l (k+1);rw[xt hr]at h1;simp only[aCp,aDF]at h1;omega
   have HO:=Hw.bT (show Zd.At w (allM (l.take k)++((nZ r).take 0).map (·.2)) u3 (wr.alloc (.cells us.toArray 40))from⟨by
    rw[aDE,aDR,aCM];exact ho.ev (fP KL (fun _=>False)) (fun _ _ h=>h.elim) (fun _ _ h=>h) (fun _ _ h=>h),hB.trans (KL.mono hB.size)⟩)
   clear sX hv ub hr sK oE ho hp6 KL hB
   go_upto_region 5 with(first | (refine wN rfl 40 (.tmp 12) rfl rfl FE Tryz.underlying40 rfl iz uT ?_) | (refine uh rfl 40 (.tmp 5) (.tmp 13) rfl rfl rfl (by rfl) uT iz h1c rfl ?_))
   have ast:=Tryz.underlying40;have ass:=Tryz.underlying38;go_wp2
   go_loopw [3,18] (fun x3 i wr=>∃j:Nat,j≤(nZ r).length∧i=.int .i64 (j:Int)∧Zd.At w (allM (l.take k)++((nZ r).take j).map (·.2)) x3 wr) (fun _ i _=>(nZ r).length-(RowKit.intOf i).toNat)
   case atStart=>exact⟨0,aDj _,rfl,HO.out⟩
   case round=>
    obtain⟨j,hj,rfl,hAt⟩:=hrel;clear HO FE h6;by_cases hjt:j<(nZ r).length
    ·have hj1:(j:Int)<((nZ r).length:Int):=by omega
     have hj0:(0:Int)≤(j:Int):=by omega
     obtain⟨m,hm⟩:∃m,(nZ r)[j]? = some m:=⟨_,aCF hjt⟩;obtain⟨ho,hB⟩:=hAt;have HM:=Hw.bT hm;obtain⟨b2,lD,c2,CP,Xd,Bk,_,aoy,_,NL⟩:=((cX.1 HQ.out).low hB).get hm;obtain⟨rfl,-,rfl⟩:=Value.slice.inj Xd;have aaC:=agB aoy;have akS:CP.length=4:=by rw[aaC];rfl
     have aw5:∀v∈CP,v.oneCell'=true:=aoy.one;have asH:wr.rangeAt b2 (lD+j*4) CP:=NL;have as6:(Tryz.prog.info? 82).map (·.size)=some 4:=by kernel_rfl
     have hB2:Below wr.heap.size wr (wr.alloc (.cells CP.toArray 82)):=(Below.refl _ _).alloc (aCt _) _;have ait:=HB.new wr 82 CP.toArray;have c1:(wr.alloc (.cells CP.toArray 82)).cell? ⟨wr.heap.size,1,none⟩=some (.int .i64 m.2.1):=by rw[ait.cell,aaC];rfl
     have c2:(wr.alloc (.cells CP.toArray 82)).cell? ⟨wr.heap.size,2,none⟩=some (.int .i64 m.2.2.1):=by rw[ait.cell,aaC];rfl
     have c3:(wr.alloc (.cells CP.toArray 82)).cell? ⟨wr.heap.size,3,none⟩=some (.int .i64 m.2.2.2):=by rw[ait.cell,aaC];rfl
     have HG:=Hw.bT (show ∃v' w',(Builtin.append_ #[36,36] 36 #[u3,.slice (some ⟨wr.heap.size+1,0,none⟩) 1 1]).run Tryz.prog ((wr.alloc (.cells CP.toArray 82)).alloc (.cells #[.int .i64 m.2.1,.int .i64 m.2.2.1,.int .i64 m.2.2.2] 48))=.ok v' w'∧
       Zd.At w (allM (l.take k)++((nZ r).take (j+1)).map (·.2)) v' w' from by
      have tu:Below wr.heap.size wr ((wr.alloc (.cells CP.toArray 82)).alloc (.cells #[.int .i64 m.2.1,.int .i64 m.2.2.1,.int .i64 m.2.2.2] 48)):=hB2.alloc (by simp) _;have hb4:=HB.new (wr.alloc (.cells CP.toArray 82)) 48 #[.int .i64 m.2.1,.int .i64 m.2.2.1,.int .i64 m.2.2.2];rw[World.size_alloc]at hb4;have ho4:=ho.ev (fP tu (fun _=>False)) (fun _ _ h=>h.elim) (fun _ _ h=>h) (fun _ _ h=>h);obtain⟨v',w',e1,e2,e3⟩:=Zd.push ho4 (hB.trans (tu.mono hB.size)).size m.2 hb4 (aCO (an4 HR.out.1 j) hl);exact⟨v',w',e1,by rw[ahR HM.out];exact e2,(hB.trans (tu.mono hB.size)).trans e3⟩)
     clear NL Xd aoy hm ho hB ait aaC hB2;have azU:=Tryz.underlying82
     go_wp2_with (first
      | (refine wN rfl 82 (.tmp 20) rfl rfl asH Tryz.underlying82 rfl as6 akS ?_)
      | (refine uh rfl 82 (.tmp 7) (.tmp 21) rfl rfl rfl (by rfl) akS as6 aw5 rfl ?_)
      | (at_builtin;refine Za.akl rfl (.tmp 22) (.tmp 25) 36 rfl rfl rfl rfl HG.out ?_;rintro v5 w5 abb))
     exact⟨⟨j+1,by omega,by congr 1,abb⟩,by simp[RowKit.intOf];omega⟩
    ·obtain rfl:j=(nZ r).length:=by omega
     have hj1:¬ ((nZ r).length:Int)<((nZ r).length:Int):=by omega
     rw[aEe,← xt HR.out.1]at hAt;have HA:=Hw.bT hAt;clear hAt;go_wp2;exact⟨⟨k+1,by omega,by congr 1,HA.out⟩,by simp[RowKit.intOf];omega⟩
  ·obtain rfl:k=l.length:=by omega
   have xi:¬ (l.length:Int)<(l.length:Int):=by omega
   obtain⟨ho,hB⟩:=hAt;rw[aEe]at ho;have HS:=Hw.bT (Zd.sort ho hl);have HB0:=Hw.bT (And.intro hB ho);clear ho hB
   go_wp2_with (go_at_call 48;refine HS.out.mono ?_;rintro en w5 ⟨rfl,Xh,he5⟩)
   have HC:=Hw.bT (Zc.calls w5 w.heap.size _ u3 Xh (aCO (Nat.le_of_eq (bt (α:=al) _)) hl))
   go_wp2_with (go_at_call 50;refine HC.out.mono ?_;rintro en w6 ⟨u6,rfl,ho6,he6,hg6⟩)
   go_ret;refine⟨u6,rfl,?_,?_⟩
   ·rw[← FQ];exact ho6
   ·have h5:=HB0.out.1
    have h7:=HB0.out.2;refine(h5.trans ⟨he5.os,he5.tape,he5.output,he5.size,fun b hb=>he5.block b (by have:=h5.size;omega) (fun hh=>by have:=(h7.lt hh).1;omega)⟩).trans ⟨he6.os,he6.tape,he6.output,he6.size,fun b hb=>he6.block b (by have:=h5.size;have:=he5.size;omega) (fun hh=>by have:=(h7.lt hh).1;omega)⟩
end Go.AL
namespace Go.AL
open Go.Proofs Go.RowKit
variable [ZA]
theorem HB.amV{B:Nat}{t:TypeId}:∀(vs:List Value) {w:World} (k:Nat) {cur:Array Value},HB w B t cur→k+vs.length≤cur.size→∃cur',HB (w.setCells B k vs) B t cur'∧cur'.size=cur.size∧(∀(j:Nat) (v:Value),vs[j]? = some v→cur'[k+j]? = some v)∧∀m,(m<k∨k+vs.length≤m)→cur'[m]? = cur[m]?
 | [],w,k,cur,h,hk=>⟨cur,by simpa [World.setCells]using h,rfl,fun j v hv=>by simp at hv,fun m _=>rfl⟩
 | u::vs,w,k,cur,h,hk=>by
  simp only[aCv]at hk;obtain⟨cur',h1,h2,h3,h4⟩:=HB.amV vs (k+1) (h.set k u) (by simp;omega);have e2:w.setCells B k (u::vs)=(w.setCell ⟨B,k,none⟩ u).setCells B (k+1) vs:=rfl;refine⟨cur',by rw[e2];exact h1,by rw[h2];simp,fun j v hv=>?_,fun m hm=>?_⟩
  ·cases j with
   | zero=>
    simp at hv;subst hv;rw[h4 (k+0) (by omega),aDc,aCr (by omega),aCr (by omega)]
   | succ j=>
    rw[show k+(j+1)=k+1+j by omega];exact h3 j v (by simpa using hv)
  ·simp only[aCv]at hm
   rw[h4 m (by omega),aDc,aCo (by omega)]
theorem Ev.bX{w:World}{X:Nat→Prop}{b:Nat}(hb:X b∨w.heap.size≤b):∀(vs:List Value) {w':World} (k:Nat),Ev w w' X→Ev w (w'.setCells b k vs) X
 | [],w',k,h=>by simpa [World.setCells]using h
 | u::vs,w',k,h=>by
  have e2:w'.setCells b k (u::vs)=(w'.setCell ⟨b,k,none⟩ u).setCells b (k+1) vs:=rfl;rw[e2];exact Ev.bX hb vs (k+1) (h.st b k u hb)
section
variable {w w':World} {A:Nat→Prop} {n0 es:Nat} {ty:TypeId} {τ:List Ty} {xs:List (az τ)} {g n c:Nat}
theorem bk.at(h:bk w A n0 ty es τ xs (.slice (some ⟨g,0,none⟩) n c)):∃cur,HB w g ty cur∧cur.size=c*es∧xs.length≤c∧c≤maxLen∧n0≤g∧n=xs.length∧
  ∀(i:Nat) (x:az τ),xs[i]? = some x→∃us,Rw w A τ x us∧us.length=es∧∀(j:Nat) (v:Value),us[j]? = some v→cur[i*es+j]? = some v:=by
 rcases h with⟨h,_⟩ | ⟨g',ap0,cur,he,h1,h2,h3,h4,h5,h6⟩
 ·cases h
 ·obtain⟨e1,e2,rfl⟩:=Value.slice.inj he
  cases e1
  exact⟨cur,h2,h3,h4,h5,h1,e2,h6⟩
theorem bk.at6(h:bk w A n0 ty es τ xs (.slice (some ⟨g,0,none⟩) n c)){i:Nat}{x:az τ}(hx:xs[i]? = some x):∃us,Rw w A τ x us∧us.length=es∧(∀(j:Nat) (v:Value),us[j]? = some v→w.cell? ⟨g,i*es+j,none⟩=some v)∧∀j,w.frozen? ⟨g,j,none⟩=false:=by
 obtain⟨cur,h1,h2,h3,h4,h5,h6,h7⟩:=h.at;obtain⟨us,u1,u2,u3⟩:=h7 i x hx;exact⟨us,u1,u2,fun j v hv=>(h1.cell _).trans (u3 j v hv),fun j=>h1.frozen j⟩
theorem bk.put(h:bk w A n0 ty es τ xs (.slice (some ⟨g,0,none⟩) n c))(hgA:A g){i:Nat}{x x':az τ}(hx:xs[i]? = some x){off:Nat}{vs:List Value}(hov:off+vs.length≤es)
  (aO:∀us,Rw w A τ x us→us.length=es→∃Ah,Rw w A τ x' Ah∧Ah.length=es∧(∀(j:Nat) (v:Value),vs[j]? = some v→Ah[off+j]? = some v)∧∀m,(m<off∨off+vs.length≤m)→Ah[m]? = us[m]?) :
  bk (w.setCells g (i*es+off) vs) A n0 ty es τ (xs.set i x') (.slice (some ⟨g,0,none⟩) n c):=by
 obtain⟨cur,h1,h2,h3,h4,h5,h6,h7⟩:=h.at;have hi:i<xs.length:=(aCD.1 hx).1;have NN:(i+1)*es≤c*es:=aDa _ (by omega);rw[aCZ,aD3]at NN;obtain⟨cur',k1,k2,k3,k4⟩:=h1.amV vs (i*es+off) (by omega);have bL:Ev w (w.setCells g (i*es+off) vs) (fun b=>b=g):=Ev.bX (X:=fun b=>b=g) (.inl rfl) vs _ (Ev.rf _ _);have hls:(xs.set i x').length=xs.length:=aCx;refine .inr ⟨g,c,cur',by rw[hls,h6],h5,k1,by rw[k2,h2],by rw[hls];exact h3,h4,fun m y hy=>?_⟩;by_cases hm:i=m
 ·subst hm
  rw[aD4 hi]at hy;cases hy;obtain⟨us,u1,u2,u3⟩:=h7 i x hx;obtain⟨Ah,v1,v2,v3,v4⟩:=aO us u1 u2;refine⟨Ah,v1.ev bL (fun b _ hb=>by rw[hb];exact hgA) (fun b _ h=>by first | exact h | exact .inr h | exact .inl (.inr h)),v2,fun j v hv=>?_⟩;have hj:j<es:=by rw[← v2];exact(aCD.1 hv).1
  by_cases iz:off≤j∧j<off+vs.length
  ·obtain⟨u,hu⟩:∃u,vs[j-off]? = some u:=⟨_,aCF (by omega)⟩
   have:=v3 (j-off) u hu;rw[show off+(j-off)=j by omega,hv]at this;cases this;have:=k3 (j-off) v hu
   rwa [show i*es+off+(j-off)=i*es+j by omega]at this
  ·rw[k4 _ (by omega)]
   exact u3 j v (by rw[← v4 j (by omega)];exact hv)
 ·rw[aEu hm]at hy
  obtain⟨us,u1,u2,u3⟩:=h7 m y hy;refine⟨us,u1.ev bL (fun b _ hb=>by rw[hb];exact hgA) (fun b _ h=>by first | exact h | exact .inr h | exact .inl (.inr h)),u2,fun j v hv=>?_⟩;have hj:j<es:=by rw[← u2];exact(aCD.1 hv).1
  rw[k4 _ ?_]
  ·exact u3 j v hv
  ·rcases Nat.lt_or_gt_of_ne hm with cg | cg
   ·right
    have:=aDa es (show i+1≤m from cg);rw[aCZ,aD3]at this;omega
   ·left
    have:=aDa es (show m+1≤i from cg);rw[aCZ,aD3]at this;omega
def Rc(wi wr:World)(G i es:Nat)(ty:TypeId)(us:List Value):Prop:=Ev wi wr (fun b=>b=G)∧∃ct cur,HB wi G ty ct∧HB wr G ty cur∧cur.size=ct.size∧us.length=es∧i*es+es≤cur.size∧(∀m,(m<i*es∨i*es+es≤m)→cur[m]? = ct[m]?)∧∀(j:Nat) (v:Value),us[j]? = some v→cur[i*es+j]? = some v
theorem Rc.start(h:bk w A n0 ty es τ xs (.slice (some ⟨g,0,none⟩) n c)){i:Nat}{x:az τ}(hx:xs[i]? = some x):∃us,Rw w A τ x us∧Rc w w g i es ty us:=by
 obtain⟨cur,h1,h2,h3,h4,h5,h6,h7⟩:=h.at;obtain⟨us,u1,u2,u3⟩:=h7 i x hx;have hi:i<xs.length:=(aCD.1 hx).1;have NN:(i+1)*es≤c*es:=aDa _ (by omega);rw[aCZ,aD3]at NN;exact⟨us,u1,Ev.rf _ _,cur,cur,h1,h1,rfl,u2,by omega,fun _ _=>rfl,u3⟩
theorem Rc.fin{wi wr:World}{us:List Value}{i:Nat}(h:Rc wi wr g i es ty us)(ho:bk wi (eu g) n0 ty es τ xs (.slice (some ⟨g,0,none⟩) n c))(hi:i<xs.length){x':az τ}(hr:Rw wr (eu g) τ x' us):bk wr (eu g) n0 ty es τ (xs.set i x') (.slice (some ⟨g,0,none⟩) n c):=by
 obtain⟨bL,ct,cur,b1,b2,b3,b4,b5,b6,b7⟩:=h;obtain⟨aln,h1,h2,h3,h4,h5,h6,h7⟩:=ho.at;obtain rfl:ct=aln:=by
  have e:(some (Obj.cells ct ty):Option Obj)=some (Obj.cells aln ty):=(show wi.heap[g]? = _ from b1).symm.trans h1;simpa using e
 have hls:(xs.set i x').length=xs.length:=aCx;refine .inr ⟨g,c,cur,by rw[hls,h6],h5,b2,by rw[b3,h2],by rw[hls];exact h3,h4,fun m y hy=>?_⟩;by_cases hm:i=m
 ·subst hm
  rw[aD4 hi]at hy;cases hy;exact⟨us,hr,b4,b7⟩
 ·rw[aEu hm]at hy
  obtain⟨CP,u1,u2,u3⟩:=h7 m y hy;refine⟨CP,u1.ev bL (fun b _ hb=>.inr hb) (fun b _ h=>by first | exact h | exact .inr h | exact .inl (.inr h)),u2,fun j v hv=>?_⟩;have hj:j<es:=by rw[← u2];exact(aCD.1 hv).1
  rw[b6 _ ?_]
  ·exact u3 j v hv
  ·rcases Nat.lt_or_gt_of_ne hm with cg | cg
   ·right
    have:=aDa es (show i+1≤m from cg);rw[aCZ,aD3]at this;omega
   ·left
    have:=aDa es (show m+1≤i from cg);rw[aCZ,aD3]at this;omega
theorem Rc.ev{wi wr wr':World}{us:List Value}{i:Nat}(h:Rc wi wr g i es ty us){X:Nat→Prop}(he:Ev wr wr' X)(hG:¬ X g)(hX:∀b,b<wi.heap.size→¬ X b):Rc wi wr' g i es ty us:=by
 obtain⟨bL,ct,cur,b1,b2,b3,b4,b5,b6,b7⟩:=h;exact⟨⟨he.os.trans bL.os,he.tape.trans bL.tape,he.output.trans bL.output,aCO bL.size he.size,fun b hb hn=>(he.block b (by have:=bL.size;omega) (hX b hb)).trans (bL.block b hb hn)⟩,ct,cur,b1,b2.ev he hG,b3,b4,b5,b6,b7⟩
theorem Rc.low{wi wr wr':World}{us:List Value}{i:Nat}(h:Rc wi wr g i es ty us)(he:Below wr.heap.size wr wr'):Rc wi wr' g i es ty us:=h.ev (fP he (fun _=>False)) (fun h=>h) (fun b _ h=>by first | exact h | exact .inr h | exact .inl (.inr h))
theorem Rc.put{wi wr:World}{us:List Value}{i:Nat}(h:Rc wi wr g i es ty us){off:Nat}{vs:List Value}(hov:off+vs.length≤es):Rc wi (wr.setCells g (i*es+off) vs) g i es ty (us.take off++vs++us.drop (off+vs.length)):=by
 obtain⟨bL,ct,cur,b1,b2,b3,b4,b5,b6,b7⟩:=h;obtain⟨cur',k1,k2,k3,k4⟩:=b2.amV vs (i*es+off) (by omega);refine⟨Ev.bX (X:=fun b=>b=g) (.inl rfl) vs _ bL,ct,cur',b1,k1,by rw[k2,b3],by simp;omega,by rw[k2];exact b5,fun m hm=>by rw[k4 m (by omega)];exact b6 m hm,fun j v hv=>?_⟩;have hto:(us.take off).length=off:=by rw[aCV];omega
 by_cases h1:j<off
 ·rw[aDg,aC6 (by omega),aDs,aCr h1]at hv
  rw[k4 _ (by omega)];exact b7 j v hv
 ·by_cases h2:j<off+vs.length
  ·rw[aDg,aCY (by omega),aC6 (by omega),hto]at hv
   have:=k3 _ v hv
   rwa [show i*es+off+(j-off)=i*es+j by omega]at this
  ·rw[aCY (by simp;omega),aDQ]at hv
   have e:off+vs.length+(j-(us.take off++vs).length)=j:=by simp;omega
   rw[e]at hv;rw[k4 _ (by omega)];exact b7 j v hv
theorem Rc.cell{wi wr:World}{us:List Value}{i:Nat}(h:Rc wi wr g i es ty us){j:Nat}{v:Value}(hv:us[j]? = some v):wr.cell? ⟨g,i*es+j,none⟩=some v∧wr.frozen? ⟨g,i*es+j,none⟩=false:=by
 obtain⟨bL,ct,cur,b1,b2,b3,b4,b5,b6,b7⟩:=h;exact⟨(b2.cell _).trans (b7 j v hv),b2.frozen _⟩
theorem Rc.lt{wi wr:World}{us:List Value}{i:Nat}(h:Rc wi wr g i es ty us):g<wi.heap.size:=by
 obtain⟨bL,ct,cur,b1,b2,b3,b4,b5,b6,b7⟩:=h;exact b1.lt
end
end Go.AL
namespace Go.AL
open Go.Proofs Go.RowKit
variable [ZA]
theorem RL{A B:Type}{R:A→B→Prop}:∀{xs:List A} {ys:List B},xs.length=ys.length→(∀(i:Nat) (a:A),xs[i]? = some a→∃b,ys[i]? = some b∧R a b)→aP R xs ys
 | [],[],_,_=>trivial
 | a::xs,b::ys,hl,h=>by
  obtain⟨b',e,hr⟩:=h 0 a rfl;simp at e;subst e;exact⟨hr,RL (by simpa using hl) fun i x hx=>by simpa using h (i+1) x (by simpa using hx)⟩
 | [],_::_,hl,_=>by simp at hl
 | _::_,[],hl,_=>by simp at hl
def Aq(G:Nat)(q:Value)(b:Nat):Prop:=eu G b∨q.ownBlock=some b
structure Zq (wi wr:World) (G i:Nat) (l:List ax) (x:ao) (q:Value) (ps:List Value):Prop where
 rc:Rc wi wr G i 6 38 (q::ps)
 own:bk wr (Aq G q) wi.heap.size 64 15 aW l q
 row:Rw wr (Aq G q) ba ([],x.2) (.slice none 0 0::ps)
section
variable {wi wr wr':World} {G i:Nat} {l:List ax} {x:ao} {q:Value} {ps:List Value}
theorem Zq.low(h:Zq wi wr G i l x q ps)(hb:Below wr.heap.size wr wr'):Zq wi wr' G i l x q ps:=
 ⟨h.rc.low hb,h.own.ev (fP hb (fun _=>False)) (fun _ _ h=>h.elim) (fun b _ h=>by first | exact h | exact .inr h | exact .inl (.inr h)) (fun b _ h=>by first | exact h | exact .inr h | exact .inl (.inr h)),h.row.ev (fP hb (fun _=>False)) (fun _ _ h=>h.elim) (fun b _ h=>by first | exact h | exact .inr h | exact .inl (.inr h))⟩
theorem Zq.ne(h:Zq wi wr G i l x q ps):∀g,q.ownBlock=some g→¬ g=G:=fun g hg e=>by have:=(h.own.lt hg).1;have:=h.rc.lt;omega
theorem Zq.na(h:Zq wi wr G i l x q ps):∀g,q.ownBlock=some g→¬ eu G g:=fun g hg e=>by have:=(h.own.lt hg).1;have:=h.rc.lt;have:=e.le;omega
theorem Zq.gr(h:Zq wi wr G i l x q ps):G<wr.heap.size:=aCP h.rc.lt h.rc.1.size
theorem Zq.cl(h:Zq wi wr G i l x q ps):Cl wr (eu G) (.sl aW) l q:=(h.own.ev (Ev.rf wr (fun _=>False)) (fun _ _ h=>h.elim) (fun b _ h=>by first | exact .inl h | exact .inl (.inr h)) (fun b _ h=>by first | exact h | exact .inr h | exact .inl (.inr h))).cl rfl h.na
theorem Zq.len(h:Zq wi wr G i l x q ps):ps.length=5:=by
 obtain⟨_,ct,cur,b1,b2,b3,b4,b5,b6,b7⟩:=h.rc;simpa using b4
theorem Zq.new(h:Zq wi wr G i l x q ps){w2:World}(hb:Below wr.heap.size wr w2){A':Nat→Prop}{l':List ax}{q':Value}(ho:bk w2 A' wr.heap.size 64 15 aW l' q')(hA:∀b,eu G b→A' b)(hg:∀g,q'.ownBlock=some g→A' g):Zq wi (w2.setCell ⟨G,i*6,none⟩ q') G i l' x q' ps:=by
 have h2:=h.low hb;have ec:∀g,q'.ownBlock=some g→¬ g=G:=fun g hg e=>by have:=(ho.lt hg).1;have:=h.gr;omega
 have wJ:Ev w2 (w2.setCell ⟨G,i*6,none⟩ q') (fun b=>b=G):=Ev.st (X:=fun b=>b=G) (Ev.rf w2 _) G _ _ (.inl rfl);refine⟨?_,?_,?_⟩
 ·have:=h2.rc.put (off:=0) (vs:=[q']) (by simp)
  simpa [World.setCells]using this
 ·exact((ho.mono (show wi.heap.size≤wr.heap.size from h.rc.1.size)).ev (Ev.rf w2 (fun _=>False)) (A':=Aq G q') (fun _ _ h=>h.elim) (fun b _ hb=>hb.elim (hA b) (hg b)) (fun b _ h=>by first | exact h | exact .inr h | exact .inl (.inr h))).ev wJ (fun b _ h=>by first | exact .inl h | exact .inl (.inr h)) (fun b _ h=>by first | exact h | exact .inr h | exact .inl (.inr h)) (fun g hg h=>ec g hg h)
 ·refine(h.row.ev (fP hb (fun _=>False)) (A':=Aq G q') (fun _ _ h=>h.elim) (fun b hb h=>?_)).ev wJ (fun b _ h=>by first | exact .inl h | exact .inl (.inr h)) (fun b _ h=>by first | exact h | exact .inr h | exact .inl (.inr h))
  rcases h with h | h
  ·exact .inl h
  ·have:=(ho.lt h).1;omega
theorem Zq.swe(h:Zq wi wr G i l x q ps)(hl:br l=true)(op:al){W:World}(hW:Below wr.heap.size wr W):Calls Tryz.prog 54 #[q,.agg (yM op).toArray] W fun en w2=>∃q' r,en=.returned (.tuple #[q',r])∧Zq wi (w2.setCell ⟨G,i*6,none⟩ q') G i (kI (l,op)).1 x q' ps∧Below W.heap.size W w2∧(∃a n c,q'=.slice a n c)∧w2.cell? ⟨G,i*6,none⟩=some q∧w2.frozen? ⟨G,i*6,none⟩=false:=by
 have h1:=h.low hW;refine(Hw.call ae6 ((l,op):List ax×al) hl (A:=eu G) (fun b hb=>hb.lt h1.gr) (us:=#[q,.agg (yM op).toArray]) (Hy.two (Ag.rdc h1.cl) (Ag.g j5))).mono fun en w2 hh=>?_
 obtain⟨us,A',rfl,hr,sY,hA',hB⟩:=hh;obtain⟨u0,r0,rfl,⟨ho,hg⟩,u1,rfl,_⟩:=(show ∃u r,us=u::r∧(bk w2 A' W.heap.size 64 15 aW (kI (l,op)).1 u∧∀g,u.ownBlock=some g→A' g)∧∃u1,r=[u1]∧Rs w2 A' W.heap.size (.o 48 3 aH) (kI (l,op)).2 u1 from hr);exact⟨u0,u1,rfl,h1.new hB ho (fun b hb=>sY b hb) hg,hB,(by obtain⟨a,c,e⟩:=ho.form;exact⟨a,_,c,e⟩),(h1.low hB).rc.cell (j:=0) rfl⟩
theorem ahg{us:List Value}{w:World}{A:Nat→Prop}{s:ax}(h:Rw w A aW s us):Rw w A aW (gG s) (us.take 12++[.int .i64 0,.int .i64 0,.int .i64 0])∧us.length=15:=by
 obtain⟨p,rfl,hp⟩:=P7 h;exact⟨EL (x:=gG s) hp,rfl⟩
theorem Zq.ulk{g n c:Nat}(h:Zq wi wr G i l x (.slice (some ⟨g,0,none⟩) n c) ps){j:Nat}{s:ax}(hs:l[j]? = some s):Zq wi (wr.setCells g (j*15+12) [.int .i64 0,.int .i64 0,.int .i64 0]) G i (l.set j (gG s)) x (.slice (some ⟨g,0,none⟩) n c) ps:=by
 have hgw:=h.own.lt (g:=g) rfl;have bL:Ev wr (wr.setCells g (j*15+12) [.int .i64 0,.int .i64 0,.int .i64 0]) (fun b=>b=g):=Ev.bX (X:=fun b=>b=g) (.inl rfl) _ _ (Ev.rf _ _);have hGg:¬ G=g:=fun e=>h.ne g rfl e.symm
 refine⟨h.rc.ev bL hGg (fun b hb e=>by omega),?_,h.row.ev bL (fun b _ e=>.inr (by rw[e];rfl)) (fun b _ h=>by first | exact h | exact .inr h | exact .inl (.inr h))⟩;refine h.own.put (τ:=aW) (x':=gG s) (.inr rfl) hs (by simp) fun us hu hl=>⟨_,(ahg hu).1,?_,fun k v hv=>?_,fun m hm=>?_⟩
 ·simp[hl]
 ·rw[aCY (by simp;omega),aCV,hl]
  simpa using hv
 ·simp only[aCv,aCB]at hm
  rcases hm with hm | hm
  ·rw[aC6 (by simp;omega),aDs,aCr hm]
  ·rw[aE0 (by simp;omega),aE0 (by omega)]
theorem arL(x:ao)(w:World)(A:Nat→Prop){p1 p2 p3 p4 p5:Value}(h:Rw w A ba ([],x.2) [.slice none 0 0,p1,p2,p3,p4,p5]){l:List ax}{q r:Value}(hq:Cl w A (.sl aW) l q){d:List al}(hr:Cl w A (.sl aH) d r):
  Rw w A ba (l,x.2.1,x.2.2.1,x.2.2.2.1,x.2.2.2.2.1,d) [q,p1,p2,p3,p4,r]:=by
 obtain⟨z0,z1,z2,z3,z4,z5,e,h0,h1,h2,h3,h4,h5⟩:=jg h;simp only[IS,aEa,and_true]at e;obtain⟨rfl,rfl,rfl,rfl,rfl,rfl⟩:=e;exact oG (x:=(l,x.2.1,x.2.2.1,x.2.2.2.1,x.2.2.2.2.1,d)) hq h1 h2 h3 h4 hr
theorem Zq.fin(h:Zq wi wr G i l x q ps){w2:World}(hb:Below wr.heap.size wr w2){d:List al}{r:Value}(hr:Cl w2 (eu G) (.sl aH) d r){n0 n c:Nat}{bX:List ao}(ho:bk wi (eu G) n0 38 6 ba bX (.slice (some ⟨G,0,none⟩) n c))(hi:i<bX.length):
  bk (w2.setCell ⟨G,i*6+5,none⟩ r) (eu G) n0 38 6 ba (bX.set i (l,x.2.1,x.2.2.1,x.2.2.2.1,x.2.2.2.2.1,d)) (.slice (some ⟨G,0,none⟩) n c):=by
 have h2:=h.low hb;have wJ:Ev w2 (w2.setCell ⟨G,i*6+5,none⟩ r) (fun b=>b=G):=Ev.st (X:=fun b=>b=G) (Ev.rf w2 _) G _ _ (.inl rfl);have hl5:=h.len;obtain⟨p1,p2,p3,p4,p5,rfl⟩:∃p1 p2 p3 p4 p5,ps=[p1,p2,p3,p4,p5]:=by
  match ps,hl5 with
  | [a,b,c,d,e],_=>exact⟨a,b,c,d,e,rfl⟩
 have Xf:=h2.rc.put (off:=5) (vs:=[r]) (by simp);refine Rc.fin (us:=[q,p1,p2,p3,p4,r]) (by simpa [World.setCells]using Xf) ho hi ?_;have aO:=(h2.row.ev (Ev.rf w2 (fun _=>False)) (A':=eu G) (fun _ _ h=>h.elim) (fun b _ h=>by first | exact .inl h | exact .inl (.inr h))).ev wJ (fun b _ h=>by first | exact h | exact .inr h | exact .inl (.inr h)) (fun b _ h=>by first | exact h | exact .inr h | exact .inl (.inr h));exact arL x _ _ aO (h2.cl.ev wJ (fun b _ h=>by first | exact h | exact .inr h | exact .inl (.inr h)) (fun b _ h=>by first | exact h | exact .inr h | exact .inl (.inr h))) (hr.ev wJ (fun b _ h=>by first | exact h | exact .inr h | exact .inl (.inr h)) (fun b _ h=>by first | exact h | exact .inr h | exact .inl (.inr h)))
end
theorem Rc.there{wi wr:World}{us:List Value}{i g es:Nat}{ty:TypeId}(h:Rc wi wr g i es ty us):wr.there g (i*es) es:=fun j hj=>by
 obtain⟨bL,ct,cur,b1,b2,b3,b4,b5,b6,b7⟩:=h;refine⟨?_,b2.frozen _⟩;rw[b2.cell,aDL (by omega)];rfl
theorem Ev.cell{w w':World}{X:Nat→Prop}(h:Ev w w' X){b o:Nat}(hb:b<w.heap.size)(hX:¬ X b):w'.cell? ⟨b,o,none⟩=w.cell? ⟨b,o,none⟩:=by
 simp[World.cell?,h.block b hb hX]
theorem asq{w:World}{A X:Nat→Prop}{xs:List al}{u:Value}(h:Sl w A X aH xs u){i:Nat}{x:al}(hx:xs[i]? = some x):∃b off c,u=.slice (some ⟨b,off,none⟩) (xs.length:Nat) c∧b<w.heap.size∧¬ X b∧w.cell? ⟨b,off+i*3,none⟩=some (.int .i64 x.1)∧w.cell? ⟨b,off+i*3+1,none⟩=some (.int .i64 x.2.1)∧w.cell? ⟨b,off+i*3+2,none⟩=some (.int .i64 x.2.2):=by
 obtain⟨b,off,c,us,e,hb,hX,hr,hl,hc⟩:=h.get hx;have ja:=rK hr;subst ja;exact⟨b,off,c,e,hb,hX,hc 0 _ rfl,hc 1 _ rfl,hc 2 _ rfl⟩
theorem Cl.up{w W:World}{G:Nat}(hG:w.heap.size≤G)(hb:Below w.heap.size w W){t:Ty}{x:t.T}{u:Value}(h:Cl w ZA.A t x u):Cl W (eu G) t x u:=
 h.fr (A':=eu G) (fun b jb _=>hb.block b jb) hb.size (fun b jb e=>e.elim (·.2) (fun e=>by omega))
theorem Fx{w:World}{A X:Nat→Prop}{xs:List Int}{u:Value}(h:Sl w A X [.int .i64] xs u){i:Nat}{x:Int}(hx:xs[i]? = some x):∃b off c,u=.slice (some ⟨b,off,none⟩) (xs.length:Nat) c∧b<w.heap.size∧w.cell? ⟨b,off+i,none⟩=some (.int .i64 x):=by
 obtain⟨b,off,c,us,e,hb,_,hr,hl,hc⟩:=h.get hx;obtain⟨u0,rfl,v,h1,h2⟩:=(show ∃u,us=[u]∧Cl w A (.int .i64) x u from hr);have h1:=rL.1 h1;subst h1;cases h2;refine⟨b,off,c,e,hb,?_⟩;have:=hc 0 _ rfl;simpa using this
theorem JO(a:Int×Int×List bz):(eJ a).2.2=([],[],[],[]):=by
 unfold eJ;cases decide (aL (fun q:bz=>decide (q.1=a.1)) a.2.2 0<0)<;>rfl
theorem bk.there{w:World}{A:Nat→Prop}{n0 es:Nat}{ty:TypeId}{τ:List Ty}{xs:List (az τ)}{g n c:Nat}(h:bk w A n0 ty es τ xs (.slice (some ⟨g,0,none⟩) n c)){i off m:Nat}(hi:i<xs.length)(hm:off+m≤es):w.there g (i*es+off) m:=fun j hj=>by
 obtain⟨cur,h1,h2,h3,h4,h5,h6,h7⟩:=h.at;have NN:(i+1)*es≤c*es:=aDa _ (by omega);rw[aCZ,aD3]at NN;refine⟨?_,h1.frozen _⟩;rw[h1.cell,aDL (by omega)];rfl
theorem bk.zc{w:World}{A:Nat→Prop}{n0 es:Nat}{ty:TypeId}{τ:List Ty}{xs:List (az τ)}{a:Option Addr}{n c:Nat}(h:bk w A n0 ty es τ xs (.slice a n c))(hx:0<xs.length):∃g,a=some ⟨g,0,none⟩:=by
 rcases h with⟨_,rfl⟩ | ⟨g,cap,cur,e,_⟩
 ·simp at hx
 ·obtain⟨rfl,_,_⟩:=Value.slice.inj e
  exact⟨g,rfl⟩
theorem bk.avD{w:World}{A:Nat→Prop}{n0 es:Nat}{ty:TypeId}{τ:List Ty}{xs:List (az τ)}{a:Option Addr}{n c:Nat}(h:bk w A n0 ty es τ xs (.slice a n c)):n=xs.length:=by
 rcases h with⟨e,rfl⟩ | ⟨g,cap,cur,e,_⟩
 ·obtain⟨_,rfl,_⟩:=Value.slice.inj e;rfl
 ·obtain⟨_,h,_⟩:=Value.slice.inj e;exact h
def KN{α:Type}(f:α→α)(l:List α)(j:Nat):List α:=(l.take j).map f++l.drop j
theorem Rr{α:Type}(f:α→α)(l:List α)(j:Nat):(KN f l j).length=l.length:=by unfold KN;simp;omega
theorem Ru{α:Type}(f:α→α)(l:List α):KN f l l.length=l.map f:=by unfold KN;simp
theorem abe{α:Type}(f:α→α){l:List α}{j:Nat}{x:α}(h:l[j]? = some x):(KN f l j)[j]? = some x:=by
 have hj:=(aCD.1 h).1;unfold KN;rw[aCY (by simp;omega),aDQ];simp;rw[Nat.min_eq_left (by omega),show j+(j-j)=j by omega];exact h
theorem Rq{α:Type}(f:α→α){l:List α}{j:Nat}{x:α}(h:l[j]? = some x):(KN f l j).set j (f x)=KN f l (j+1):=by
 have hj:=(aCD.1 h).1;have hx:l[j]=x:=by rw[aCF hj]at h;exact aDb h
 unfold KN;have hl:((l.take j).map f).length=j:=by simp;omega
 rw[List.set_append,aCo (by omega),hl,aD2,aDW hj,hx,aDn,h];simp
theorem Tp(l:List ax){d:List al}{j:Nat}{op:al}(h:d[j]? = some op):iJ l (d.take (j+1))=(kI (iJ l (d.take j),op)).1:=by
 unfold iJ;rw[aDn,h];simp
theorem Zm.cln{W:World}{G:Nat}(hG:G<W.heap.size){d:List al}{u:Value}(h:Cl W (eu G) (.sl aH) d u)(hd:d.length≤100000):Calls Tryz.prog 55 #[u] W fun en w'=>∃r,en=.returned r∧Cl w' (eu G) (.sl aH) d r∧Below W.heap.size W w'∧r.oneCell'=true∧∃a n c,r=.slice a n c:=by
 refine(Hw.call L0 (d:List al) (aCm (show d.length≤1099511627776 by omega)) (A:=eu G) (fun b hb=>hb.lt hG) (us:=#[u]) (Hy.one (Ag.rdc h))).mono fun en w' hh=>?_
 obtain⟨us,A',rfl,hr,sY,hA',hB⟩:=hh;obtain⟨r,rfl,ho,hg⟩:=(show ∃u',us=[u']∧bk w' A' W.heap.size 48 3 aH d u'∧∀g,u'.ownBlock=some g→A' g from hr);exact⟨r,rfl,(ho.ev (Ev.rf w' (fun _=>False)) (fun _ _ h=>h.elim) (fun b _ hb=>sY b hb) (fun b _ h=>by first | exact h | exact .inr h | exact .inl (.inr h))).cl rfl (fun g hg hb=>by have:=(ho.lt hg).1;have:=hb.le;omega),hB,ho.one,by obtain⟨a,c,e⟩:=ho.form;exact⟨a,_,c,e⟩⟩
end Go.AL
