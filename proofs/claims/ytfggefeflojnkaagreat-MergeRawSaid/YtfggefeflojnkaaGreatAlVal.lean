/- By an AI agent. -/
import Derived.Test.YtfggefeflojnkaaGreatAlSound
namespace Go.AL
section
variable {P:Program} {E:Env}
theorem gU{t e:TypeId}(ht:dH P t=some e){n:Nat}(hn:aB P e=n)(dD:0<n)(a:Option Addr)(len cap l h:Nat)(lo hi:Option Value)
  (UI:(lo=none∧l=0)∨∃k,lo=some (.int k l)) (hhi:(hi=none∧h=len)∨∃k,hi=some (.int k h)) (hl:l≤h) (hh:h≤cap) (w:World) :
  (Instr.sliceAt t (.slice a len cap) lo hi none).run P w=.ok (.slice (if cap=l then a else a.map (·.add (l*n))) (h-l) (cap-l)) w:=by
 have hu:=fT ht;obtain⟨ti,rT,dC⟩:=j7 hn dD;have e1:(Instr.sliceAt t (.slice a len cap) lo hi none).run P w=(Instr.slice t (.slice a len cap) lo hi none).run P w:=by
  simp only[Instr.sliceAt,Sem.run_bind,run_underlying hu,Result.andThen_ok]
 rw[e1];have hb:(Instr.sliceBounds true len cap lo hi none).run P w=.ok (l,h,cap) w:=by
  rcases UI with⟨rfl,rfl⟩ | ⟨k,rfl⟩<;>rcases hhi with⟨rfl,rfl⟩ | ⟨k',rfl⟩
  ·simp[Instr.sliceBounds]
  ·simp[Instr.sliceBounds,Instr.sliceBound,asIntOf,hh]
  ·simp[Instr.sliceBounds,Instr.sliceBound,asIntOf,hl]
  ·simp[Instr.sliceBounds,Instr.sliceBound,asIntOf,hl,hh]
 simp only[Instr.slice,Sem.run_bind,run_underlying hu,Result.andThen_ok,hb,sizeOf,typeInfo];simp[rT,dC]
theorem gC.cut{w:World}{A X:Nat→Prop}{rows:List (List V)}{n:Nat}{v:Value}(hv:gC w A X rows v)(l h:Nat)(hl:l≤h)(hh:h≤rows.length)(bQ:l=0∨∀r∈rows,r.length=n)
  {P:Program} {t e:TypeId} (ht:dH P t=some e) (hn:aB P e=n) (dD:0<n) (lo hi:Option Value)
  (UI:(lo=none∧l=0)∨∃k,lo=some (.int k l)) (hhi:(hi=none∧h=rows.length)∨∃k,hi=some (.int k h)) (w':World) :
  ∃u,(Instr.sliceAt t v lo hi none).run P w'=.ok u w'∧gC w A X ((rows.take h).drop l) u:=by
 rcases hv with⟨⟨a,rfl⟩,rfl⟩ | ⟨b,off,cap,es,f,rfl,jy,hb,sJ,hc,hr⟩
 ·have h0:h=0:=by simpa using hh
  subst h0;have l0:l=0:=by omega
  subst l0;refine⟨_,gU ht hn dD a 0 0 0 0 lo hi UI (by simpa using hhi) (aCt _) (aCt _) w',.inl ⟨⟨a,by simp⟩,by simp⟩⟩
 ·refine⟨_,gU ht hn dD (some ⟨b,off,none⟩) rows.length cap l h lo hi UI hhi hl (by omega) w',?_⟩
  have hlen:((rows.take h).drop l).length=h-l:=by simp;omega
  have mem:∀(i:Nat) (row:List V),((rows.take h).drop l)[i]? = some row→rows[l+i]? = some row:=by
   intro i row hi;rw[aDQ,aDs]at hi
   split at hi
   ·exact hi
   ·cases hi
  by_cases sK:cap=l
  ·rw[aCr sK]
   have he:(rows.take h).drop l=[]:=aCX (by omega);rw[he];refine .inr ⟨b,off,cap-l,es,f,by simp;omega,by simp,fun h=>absurd rfl h,by simp,fun i row hi=>by simp at hi,fun i row hi=>by simp at hi⟩
  ·rw[aCo sK]
   refine .inr ⟨b,off+l*n,cap-l,es,fun i j=>f (l+i) j,?_,by rw[hlen];omega,?_,?_,?_,?_⟩
   ·simp[hlen,Addr.add_mid]
   ·intro ec
    refine hb (fun e=>ec ?_);rw[e];simp
   ·intro row aO
    exact sJ row (aDT (aDU aO))
   ·intro i row hi j x hx
    have h1:=mem i row hi;have:=hc (l+i) row h1 j x hx;have hee:l*n=l*es:=by
     rcases bQ with rfl | bQ
     ·simp
     ·have r1:=bQ row (aCC h1)
      have r2:=sJ row (aCC h1);rw[← r1,← r2]
    rw[← this]
    congr 2
    rw[hee,aCZ];omega
   ·intro i row hi j x hx
    exact hr (l+i) row (mem i row hi) j x hx
theorem Ar{w:World}{A X:Nat→Prop}{rows:List (List V)}{v:Value}(hv:gC w A X rows v){i:Nat}{row:List V}(hi:rows[i]? = some row)
  {P:Program} {t e:TypeId} (ht:dH P t=some e) (hlen:row.length=aB P e) (dD:0<aB P e) (k:IntKind) (w':World) :
  ∃(b off:Nat) (f:Nat→Value),(Instr.indexAt t v (.int k i)).run P w'=.ok (.pointer (some ⟨b,off,none⟩)) w'∧b<w.heap.size∧¬ X b∧
   (∀(j:Nat) (x:V),row[j]? = some x→w.cell? ⟨b,off+j,none⟩=some (f j))∧(∀(j:Nat) (x:V),row[j]? = some x→bh w A x (f j)):=by
 rcases hv with⟨⟨a,rfl⟩,rfl⟩ | ⟨b,off,cap,es,f,rfl,jy,hb,sJ,hc,hr⟩
 ·simp at hi
 ·have cg:=(aCD.1 hi).1
  have ec:rows ≠ []:=fun e=>by rw[e]at hi;simp at hi
  obtain⟨h1,h2⟩:=hb ec;have h3:=sJ row (aCC hi);refine⟨b,off+i*aB P e,f i,?_,h1,h2,fun j x hx=>?_,fun j x hx=>hr i row hi j x hx⟩
  ·have:=xK ht dD (k:=k) (i:=(i:Int)) b off rows.length cap (by omega) (by omega) w'
   simpa using this
  ·rw[← hlen,h3]
   exact hc i row hi j x hx
theorem eA{rows:List (List V)}{v:Value}(h:Rel E (.sl rows) v):gC E.w E.A E.A rows v:=mM.1 h
theorem oK{rows:List (List V)}{v:Value}(h:gC E.w E.A E.A rows v):Rel E (.sl rows) v:=(mM.2 h:bh E.w E.A _ _)
theorem TR(H:cz E){x:V}{u:Value}{n:Nat}(hx:Rel E x u)(h:lenOf x=some n)(hd:x.live E.h){t:TypeId}(ht:(dH P t).isSome)(ty:TypeId)(w:World):
  (Builtin.len_ #[t] ty #[u]).run P w=.ok (.int .i64 n) w:=by
 obtain⟨e,he⟩:=aDS.1 ht;have hu:=fT he;have key:∃a c,u=.slice a n c:=by
  unfold lenOf at h
  split at h<;>try (cases h;done)
  ·cases h;cases hx;exact⟨_,_,rfl⟩
  ·cases h;rcases eA hx with⟨⟨a,rfl⟩,rfl⟩ | ⟨b,off,cap,es,f,rfl,_⟩<;>exact⟨_,_,rfl⟩
  ·cases h;rcases hx with⟨⟨a,rfl⟩,rfl⟩ | ⟨b,off,cap,es,f,rfl,_⟩<;>exact⟨_,_,rfl⟩
  ·cases h
   rename_i o;obtain⟨ob,ho,hm⟩:=hd;have aX:=H.ok o ob ho;have h2:=(hx ob ho).2 hm;cases hb:E.β o with
   | none=>rw[hb]at h2 aX;subst h2;have h0:ob.rows=[]:=aX;rw[h0]at hm;subst hm;exact⟨_,_,rfl⟩
   | some b=>rw[hb]at h2;obtain⟨_,_,rfl,_⟩:=h2;exact⟨_,_,rfl⟩
 obtain⟨a,c,rfl⟩:=key;simp[Builtin.len_,run_underlying hu,goInt]
theorem fl{k:IntKind}{n:Int}{u:Value}(h:Rel E (.int k n) u):u=.int k n:=by cases h;rfl
theorem uy{b:Bool}{u:Value}(h:Rel E (.bool b) u):u=.bool b:=by cases h;rfl
theorem oM(f:Value→Value→Sem Value)(x y:Value)(w:World):([y].foldlM f x:Sem Value).run P w=(f x y).run P w:=by
 simp only[List.foldlM_cons,List.foldlM_nil,Sem.run_bind];cases (f x y).run P w<;>rfl
theorem Vz(H:cz E)(a:Act)(ev:Operand→V)(bL:∀x,Rel E (ev x) (a.eval x))(c:Call)(ty:TypeId){p:Prop}{v:V}(h:fh P ev E.h c=.val p v)(hp:p):
  ∃u,((do let d ← resolve a.eval c ty;invoke d.target d.args):Sem Next).run P E.w=.ok (.value u) E.w∧Rel E v u:=by
 obtain⟨callee,args,argTypes⟩:=c;unfold fh at h;simp only at h
 split at h
 ·split at h<;>try (cases h;done)
  split at h<;>cases h
 ·
  split at h<;>try (cases h;done)
  rename_i x dd;have hx:=bL x;have hm:args.map a.eval=#[a.eval x]:=by
   apply aDV;simp[dd]
  split at h
  ·rename_i s hs
   simp only[AR.val.injEq]at h;obtain⟨rfl,rfl⟩:=h;rw[hs]at hx;cases argTypes with | mk ts=>
   cases ts with
   | nil=>simp at hp
   | cons t ts=>
    simp at hp;obtain⟨hp,rfl⟩:=hp;have hu:a.eval x=.string s:=by generalize a.eval x=u at hx;cases hx;rfl
    refine⟨.int .i64 s.size,?_,.int _ _⟩;simp[resolve,invoke,builtin,Builtin.len_,run_underlying hp,hm,hu,goInt]
  ·split at h<;>try (cases h;done)
   rename_i n hn;simp only[AR.val.injEq]at h;obtain⟨rfl,rfl⟩:=h;obtain⟨hp1,DQ⟩:=hp;cases argTypes with | mk ts=>
   cases ts with
   | nil=>simp at DQ
   | cons t ts=>
    simp at DQ;obtain⟨DQ,rfl⟩:=DQ;refine⟨.int .i64 n,?_,.int _ _⟩;have:=TR (P:=P) H hx hn hp1 DQ ty E.w;simp only[resolve,invoke,builtin,hm,Sem.run_bind,Sem.run_pure,Result.andThen_ok,this]
 ·
  split at h<;>try (cases h;done)
  split at h<;>try (cases h;done)
  unfold dQ at h
  split at h<;>try (cases h;done)
  split at h<;>try (cases h;done)
  split at h<;>try (cases h;done)
  split at h<;>cases h
 ·
  split at h<;>try (cases h;done)
  rename_i r hr;simp only[AR.val.injEq]at h;obtain⟨rfl,rfl⟩:=h;unfold aj5 at hr
  split at hr<;>try (cases hr;done)
  rename_i k x k' y hl
  split at hr<;>try (cases hr;done)
  rename_i hk;subst hk;cases hr;have dd:∃X Y,args.toList=[X,Y]∧ev X=.int k x∧ev Y=.int k y:=by
   cases lG:args.toList with
   | nil=>simp[lG]at hl
   | cons X l=>cases l with
    | nil=>simp[lG]at hl
    | cons Y l=>cases l with
     | nil=>simp[lG]at hl;exact⟨X,Y,rfl,hl.1,hl.2⟩
     | cons Z l=>simp[lG]at hl
  obtain⟨X,Y,lG,hX,hY⟩:=dd;have h1:=fl (hX▸bL X);have h2:=fl (hY▸bL Y);have hm:args.map a.eval=#[.int k x,.int k y]:=by
   apply aDV;simp[lG,h1,h2]
  refine⟨_,?_,.int k _⟩;simp only[resolve,invoke,builtin,hm,Sem.run_bind,Sem.run_pure,Result.andThen_ok,Builtin.max_,oM,Builtin.max2]
 ·
  split at h<;>try (cases h;done)
  rename_i r hr;simp only[AR.val.injEq]at h;obtain⟨rfl,rfl⟩:=h;unfold aj4 at hr
  split at hr<;>try (cases hr;done)
  rename_i k x k' y hl
  split at hr<;>try (cases hr;done)
  rename_i hk;subst hk;cases hr;have dd:∃X Y,args.toList=[X,Y]∧ev X=.int k x∧ev Y=.int k y:=by
   cases lG:args.toList with
   | nil=>simp[lG]at hl
   | cons X l=>cases l with
    | nil=>simp[lG]at hl
    | cons Y l=>cases l with
     | nil=>simp[lG]at hl;exact⟨X,Y,rfl,hl.1,hl.2⟩
     | cons Z l=>simp[lG]at hl
  obtain⟨X,Y,lG,hX,hY⟩:=dd;have h1:=fl (hX▸bL X);have h2:=fl (hY▸bL Y);have hm:args.map a.eval=#[.int k x,.int k y]:=by
   apply aDV;simp[lG,h1,h2]
  refine⟨_,?_,.int k _⟩;simp only[resolve,invoke,builtin,hm,Sem.run_bind,Sem.run_pure,Result.andThen_ok,Builtin.min_,oM,Builtin.min2]
 ·cases h
theorem eV{t:TypeId}{z:List V}(h:eW P t=some z):∃i v,P.info? t=some i∧i.zero=some v∧v.cells.size=aB P t∧∀(E:Env),Cells E false z v.cells.toList:=by
 unfold eW at h;cases hi:P.info? t with
 | none=>simp[hi]at h
 | some i=>
  cases hz:i.zero with
  | none=>simp[hi,hz]at h
  | some v=>
   simp only[hi,hz,aDd]at h
   split at h<;>try (cases h;done)
   rename_i hc;simp only[aCs,aDI]at hc;cases h;refine⟨i,v,rfl,hz,hc.2,fun E=>⟨by simp,fun n x hx=>?_⟩⟩;rw[aDm]at hx;cases hn:v.cells.toList[n]? with
   | none=>simp[hn]at hx
   | some u=>
    simp[hn]at hx;subst hx;have h1:=aCG.1 hc.1 u (aCC hn);exact⟨u,rfl,h1,bB.aU (gW u h1),fun _=>gW u h1⟩
theorem Cells.weaken{E:Env}{b:Bool}{cs:List V}{vs:List Value}(b':Bool)(hb:b'=false→b=false)(h:Cells E b cs vs):Cells E b' cs vs:=
 ⟨h.1,fun i x hx=>let ⟨u,h1,h2,h3,h4⟩:=h.2 i x hx;⟨u,h1,h2,h3,fun hh=>h4 (hb hh)⟩⟩
theorem aae{fs:List Field}{f:Field→Option (Nat×Nat)}:∀{wV:List (Nat×Nat)},fs.mapM f=some wV→∀(i:Nat),wV[i]? = (fs[i]?).bind f:=by
 induction fs with
 | nil=>intro wV h i;simp at h;subst h;simp
 | cons x fs ih=>
  intro wV h i;simp only[List.mapM_cons,Option.bind_eq_bind,Option.pure_def]at h;cases hx:f x with
  | none=>simp[hx]at h
  | some p=>
   cases hr:fs.mapM f with
   | none=>simp[hx,hr]at h
   | some ps=>
    simp[hx,hr]at h;subst h;cases i with
    | zero=>simp[hx]
    | succ i=>simpa using ih hr i
theorem M1{t:TypeId}{parts:List (Nat×V)}{cparts:Array (Nat×Value)}{p:Prop}{v:V}
  (hl:cparts.size=parts.length) (hp:∀(i:Nat) (q:Nat×V),parts[i]? = some q→∃u,cparts[i]? = some (q.1,u)∧Rel E q.2 u)
  (h:iD P E.h t parts=.val p v) (hpp:p) (w:World):∃u,(Instr.build t cparts).run P w=.ok u w∧Rel E v u:=by
 unfold iD at h
 split at h<;>try (cases h;done)
 rename_i hpl
 split at h<;>try (cases h;done)
 rename_i z hz
 split at h<;>try (cases h;done)
 rename_i cs xj;simp only[AR.val.injEq]at h;obtain⟨rfl,rfl⟩:=h;obtain⟨it,zv,hit,Q8,_,hzc⟩:=eV hz;unfold AI at hpl
 split at hpl<;>try (cases hpl;done)
 rename_i fs hu;obtain⟨wV,Ri⟩:=aDS.1 hpl;have C5:=aae Ri;have FB:∀(i:Nat) (q:Nat×Nat),(eR P t i).map (fun f=>(f.1,aB P f.2))=some q→wV.toArray[i]? = some q:=by
  intro i q hq;unfold eR at hq;rw[hu]at hq;simp only at hq;rw[aD9,C5 i,aDy];cases hf:fs[i]? with
  | none=>simp[hf]at hq
  | some fd=>
   cases hi:P.info? fd.type with
   | none=>simp[hf,hi]at hq
   | some ii=>
    simp only[hf,hi,aDd]at hq
    split at hq<;>try (cases hq;done)
    simp[aB,hi]at hq;simp[hi,hq]
 generalize hb:(!(parts.all (·.2.pure)))=b;have ND:∀(i:Nat) (q:Nat×V),parts[i]? = some q→∃u,cparts.toList[i]? = some (q.1,u)∧Cells E b q.2.cells u.cells.toList:=by
  intro i q hq;obtain⟨u,h1,h2⟩:=hp i q hq;refine⟨u,by simpa using h1,(Cells.Fm h2 (hpp q (aCC hq))).weaken b fun hbf=>?_⟩;rw[hbf]at hb;simp only[aEW,aCG]at hb;simp[hb q (aCC hq)]
 obtain⟨cI,g1,g2⟩:=tx (E:=E) (imp:=b) FB parts cparts.toList z cs zv.cells (by simpa using hl) ND ((hzc E).weaken b (fun _=>rfl)) xj;refine⟨.agg cI,run_build w t cparts cI ?_,by simpa using g2.rel⟩;unfold Program.built;simp only[hit,hu,Q8,Ri];exact g1
theorem QD{xs:List V}{u:Value}(h:Rel E (.kQ xs) u):∃vs,u=.tuple vs∧vs.size=xs.length∧∀(i:Nat) (x:V),xs[i]? = some x→∃u,vs[i]? = some u∧cH E x u:=h
theorem cH.rel{x:V}{u:Value}(h:cH E x u):Rel E x u:=by
 cases x<;>first | exact h | (cases h;done)
theorem M0{t:TypeId}{x:V}{lo hi:Option V}{u:Value}{clo chi:Option Value}{p:Prop}{v:V}(hx:Rel E x u)
  (UI:∀l,lo=some l→∃c,clo=some c∧Rel E l c) (awp:lo=none→clo=none) (hhi:∀l,hi=some l→∃c,chi=some c∧Rel E l c) (awB:hi=none→chi=none)
  (h:eH P t x lo hi=.val p v) (hp:p) (w:World):∃r,(Instr.sliceAt t u clo chi none).run P w=.ok r w∧Rel E v r:=by
 unfold eH at h
 split at h<;>try (cases h;done)
 rename_i e he
 split at h<;>try (cases h;done)
 rename_i hs;have dD:0<aB P e:=by omega
 split at h<;>try (cases h;done)
 ·rename_i k2 hh
  have hl:=awp rfl;obtain⟨c,hc,hr⟩:=hhi _ rfl;have NL:=fl hr;subst NL
  split at h<;>try (cases h;done)
  ·rename_i rows
   simp only[AR.val.injEq]at h;obtain⟨rfl,rfl⟩:=h;obtain⟨r,r1,r2⟩:=(eA hx).cut 0 hh.toNat (aDj _) (by omega) (.inl rfl) he rfl dD clo chi (.inl ⟨hl,rfl⟩) (.inr ⟨k2,by rw[hc];congr 2;omega⟩) w;exact⟨r,r1,oK (by simpa using r2)⟩
  ·rename_i rows
   simp only[AR.val.injEq]at h;obtain⟨rfl,rfl⟩:=h;have sG:gC E.w E.A E.M rows u:=hx;obtain⟨r,r1,r2⟩:=sG.cut 0 hh.toNat (aDj _) (by omega) (.inl rfl) he rfl dD clo chi (.inl ⟨hl,rfl⟩) (.inr ⟨k2,by rw[hc];congr 2;omega⟩) w;exact⟨r,r1,by have r3:=r2;simp at r3;exact r3⟩
  ·simp only[AR.val.injEq]at h
   obtain⟨rfl,rfl⟩:=h;have:u=.slice none 0 0:=by cases hx;rfl
   subst this;subst hp;exact⟨_,gU he rfl dD none 0 0 0 0 clo chi (.inl ⟨hl,rfl⟩) (.inr ⟨k2,by rw[hc];rfl⟩) (aCt _) (aCt _) w,by simpa using hx⟩
 ·rename_i k2 ll
  have hl:=awB rfl;obtain⟨c,hc,hr⟩:=UI _ rfl;have NL:=fl hr;subst NL
  split at h<;>try (cases h;done)
  ·rename_i rows
   simp only[AR.val.injEq]at h;obtain⟨rfl,rfl⟩:=h;obtain⟨r,r1,r2⟩:=(eA hx).cut ll.toNat rows.length (by omega) (aCt _) (.inr hp.2.2) he rfl dD clo chi (.inr ⟨k2,by rw[hc];congr 2;omega⟩) (.inl ⟨hl,rfl⟩) w;exact⟨r,r1,oK (by simpa using r2)⟩
  ·rename_i rows
   simp only[AR.val.injEq]at h;obtain⟨rfl,rfl⟩:=h;have sG:gC E.w E.A E.M rows u:=hx;obtain⟨r,r1,r2⟩:=sG.cut ll.toNat rows.length (by omega) (aCt _) (.inr hp.2.2) he rfl dD clo chi (.inr ⟨k2,by rw[hc];congr 2;omega⟩) (.inl ⟨hl,rfl⟩) w;exact⟨r,r1,by have r3:=r2;simp at r3;exact r3⟩
  ·simp only[AR.val.injEq]at h
   obtain⟨rfl,rfl⟩:=h;have:u=.slice none 0 0:=by cases hx;rfl
   subst this;subst hp;exact⟨_,gU he rfl dD none 0 0 0 0 clo chi (.inr ⟨k2,by rw[hc];rfl⟩) (.inl ⟨hl,rfl⟩) (aCt _) (aCt _) w,by simpa using hx⟩
 ·rename_i k1 ll k2 hh
  obtain⟨c,hc,hr⟩:=UI _ rfl;have NL:=fl hr;subst NL;obtain⟨d,hd,hr'⟩:=hhi _ rfl;have hd2:=fl hr';subst hd2
  split at h<;>try (cases h;done)
  ·rename_i rows
   simp only[AR.val.injEq]at h;obtain⟨rfl,rfl⟩:=h;obtain⟨r,r1,r2⟩:=(eA hx).cut ll.toNat hh.toNat (by omega) (by omega) (.inr hp.2.2.2) he rfl dD clo chi (.inr ⟨k1,by rw[hc];congr 2;omega⟩) (.inr ⟨k2,by rw[hd];congr 2;omega⟩) w;exact⟨r,r1,oK r2⟩
  ·rename_i rows
   simp only[AR.val.injEq]at h;obtain⟨rfl,rfl⟩:=h;have sG:gC E.w E.A E.M rows u:=hx;obtain⟨r,r1,r2⟩:=sG.cut ll.toNat hh.toNat (by omega) (by omega) (.inr hp.2.2.2) he rfl dD clo chi (.inr ⟨k1,by rw[hc];congr 2;omega⟩) (.inr ⟨k2,by rw[hd];congr 2;omega⟩) w;exact⟨r,r1,r2⟩
  ·simp only[AR.val.injEq]at h
   obtain⟨rfl,rfl⟩:=h;have:u=.slice none 0 0:=by cases hx;rfl
   subst this;obtain⟨rfl,rfl⟩:=hp;exact⟨_,gU he rfl dD none 0 0 0 0 clo chi (.inr ⟨k1,by rw[hc];rfl⟩) (.inr ⟨k2,by rw[hd];rfl⟩) (aCt _) (aCt _) w,by simpa using hx⟩
theorem ajZ(H:cz E)(a:Act)(ev:Operand→V)(bL:∀x,Rel E (ev x) (a.eval x))(o:Oper){p:Prop}{v:V}(h:gF P o ev E.h=.val p v)(hp:p):
  ∃u,(execOp a.eval o).run P E.w=.ok (.value u) E.w∧Rel E v u:=by
 obtain⟨dst,op,ty,pos,after,guard⟩:=o;unfold gF at h;simp only at h
 split at h
 ·
  simp only[AR.val.injEq]at h;obtain⟨rfl,rfl⟩:=h;exact⟨_,rfl,bL _⟩
 ·simp only[AR.val.injEq]at h
  obtain⟨rfl,rfl⟩:=h;exact⟨_,rfl,bL _⟩
 ·
  rename_i c x y
  split at h<;>try (cases h;done)
  rename_i b hb;simp only[AR.val.injEq]at h;obtain⟨rfl,rfl⟩:=h;have hc:=uy (hb▸bL c);refine⟨if b then a.eval x else a.eval y,?_,?_⟩
  ·simp[execOp,hc,asBool]
  ·cases b
   ·exact bL y
   ·exact bL x
 ·
  rename_i t;rcases iU P t with e | ⟨ob,e⟩<;>rw[e]at h<;>cases h
 ·
  cases h
 ·
  rename_i t parts;obtain⟨u,h1,h2⟩:=M1 (P:=P) (E:=E) (cparts:=parts.map fun q=>(q.1,a.eval q.2)) (by simp) (fun i q hq=>by
   rw[aDm]at hq;cases hi:parts.toList[i]? with
   | none=>simp[hi]at hq
   | some r=>
    simp[hi]at hq;subst hq;have kh:parts[i]? = some r:=by simpa using hi
    exact⟨a.eval r.2,by simp[kh],bL r.2⟩) h hp E.w
  exact⟨u,gT h1,h2⟩
 ·
  unfold cY at h
  split at h<;>try (cases h;done)
  split at h<;>cases h
 ·
  rename_i t x
  split at h<;>try (cases h;done)
  rename_i ht;obtain⟨r,h1,h2⟩:=Dn H (bL x) ht h hp;exact⟨r,gT h1,h2⟩
 ·
  split at h<;>try (cases h;done)
  unfold fg at h
  split at h<;>try (cases h;done)
  split at h<;>try (cases h;done)
  split at h<;>cases h
 ·
  rename_i op t x y yt
  split at h<;>try (cases h;done)
  rename_i q r hb;simp only[AR.val.injEq]at h;obtain⟨rfl,rfl⟩:=h;obtain⟨u,h1,h2⟩:=YM (P:=P) (E:=E) (X:=x) (Y:=y) (bL x) (bL y) hb hp E.w;exact⟨u,gT h1,Rel.aU h2⟩
 ·
  rename_i t x
  split at h<;>try (cases h;done)
  rename_i b hb;simp only[AR.val.injEq]at h;obtain⟨rfl,rfl⟩:=h;have hc:=uy (hb▸bL x);exact⟨.bool (!b),by simp[execOp,hc,Op.unary],.bool _⟩
 ·
  rename_i t x
  split at h<;>try (cases h;done)
  rename_i k n hb;simp only[AR.val.injEq]at h;obtain⟨rfl,rfl⟩:=h;have hc:=fl (hb▸bL x);exact⟨.int k (k.wrap (0-n)),by simp[execOp,hc,Op.unary,Op.intArith],.int _ _⟩
 ·
  rename_i src d x
  split at h<;>try (cases h;done)
  rename_i k n hb
  split at h<;>try (cases h;done)
  rename_i s1 k2 e1 e2;simp only[AR.val.injEq]at h;obtain⟨rfl,rfl⟩:=h;have hc:=fl (hb▸bL x);refine⟨.int k2 (k2.wrap n),?_,.int _ _⟩;have:(convert src d (.int k n)).run P E.w=.ok (.int k2 (k2.wrap n)) E.w:=by
   simp only[convert,Sem.run_bind,run_underlying e1,run_underlying e2,Result.andThen_ok];cases s1<;>simp[Conv.intToInt]
  simp only[execOp,hc];exact gT this
 ·
  rename_i t x lo hi;obtain⟨r,h1,h2⟩:=M0 (P:=P) (E:=E) (clo:=lo.map a.eval) (chi:=hi.map a.eval) (bL x)
   (fun l hl=>by cases lo with | none=>simp at hl | some z=>simp at hl;subst hl;exact⟨_,rfl,bL z⟩) (fun hl=>by cases lo with | none=>rfl | some z=>simp at hl)
   (fun l hl=>by cases hi with | none=>simp at hl | some z=>simp at hl;subst hl;exact⟨_,rfl,bL z⟩) (fun hl=>by cases hi with | none=>rfl | some z=>simp at hl) h hp E.w
  exact⟨r,gT h1,h2⟩
 ·
  rename_i t x f;unfold df at h;have hx:=bL x
  split at h
  ·rename_i o n i j gu
   split at h<;>try (cases h;done)
   rename_i ob ho
   split at h<;>try (cases h;done)
   rename_i off ft hf;simp only[AR.val.injEq]at h;obtain⟨rfl,rfl⟩:=h;rw[gu]at hx;obtain⟨b,hb,hv⟩:=(hx ob ho).2 hp;refine⟨.pointer (some ⟨b,i*ob.es+j+off,none⟩),?_,?_⟩
   ·have:=xL (P:=P) hf b (i*ob.es+j) E.w
    rw[← hv]at this;exact gT this
   ·intro ob' dW
    rw[ho]at dW;cases dW;exact⟨(hx ob ho).1,fun _=>⟨b,hb,by rw[Nat.add_assoc]⟩⟩
  ·rename_i row j gu
   split at h<;>try (cases h;done)
   rename_i off ft hf;simp only[AR.val.injEq]at h;obtain⟨rfl,rfl⟩:=h;rw[gu]at hx;obtain⟨b,anU,f',hv,h2,h3,h4,h5⟩:=hx;refine⟨.pointer (some ⟨b,anU+j+off,none⟩),?_,b,anU,f',by rw[Nat.add_assoc],h2,h3,h4,h5⟩;have:=xL (P:=P) hf b (anU+j) E.w;rw[← hv]at this;exact gT this
  ·cases h
 ·
  rename_i t x f;unfold kN at h
  split at h<;>try (cases h;done)
  rename_i cs gu;have hx:=bL x;rw[gu]at hx;obtain⟨vs,hv,pr⟩:=oD.Ns hx
  split at h<;>try (cases h;done)
  rename_i off ft hf
  split at h
  ·rename_i aO
   simp only[AR.val.injEq]at h;obtain⟨rfl,rfl⟩:=h;have hu:(P.underlying ft).isSome:=by
    unfold cK at aO
    split at aO<;>first | (rename_i h;rw[h];rfl) | cases aO
   have hl:vs.size=cs.length:=by simpa using pr.1
   have:=Dm (P:=P) hf hu vs (by rw[hl];exact hp) (fun h=>by rw[aO]at h;cases h) E.w;refine⟨valOf P ft ((vs.toList.drop off).take (aB P ft)),?_,?_⟩
   ·simp only[execOp,hv]
    exact gT this
   ·unfold valOf
    rw[aO];have p2:=(pr.drop off).take (aB P ft);exact⟨_,rfl,by simpa [cut]using p2.1,fun i x hx=>let ⟨u,h1,h2⟩:=p2.2 i x hx;⟨u,by simpa using h1,h2⟩⟩
  ·rename_i aO
   split at h<;>try (cases h;done)
   rename_i dC
   split at h<;>try (cases h;done)
   rename_i y hy;simp only[AR.val.injEq]at h;obtain⟨rfl,rfl⟩:=h;have hl:vs.size=cs.length:=by simpa using pr.1
   have cg:=(aCD.1 hy).1;obtain⟨u,u1,u2⟩:=pr.2 off y hy;have:=Dm (P:=P) hf dC.1 vs (by rw[dC.2,hl];omega) (fun _=>dC.2) E.w;refine⟨u,?_,Rel.aU u2⟩;simp only[execOp,hv];refine gT ?_;rw[this];unfold valOf;simp only[aO,aDt,aC4,dC.2];have:(vs.toList.drop off).take 1=[u]:=by
    have asZ:off<vs.toList.length:=by simpa [hl]using cg
    rw[aDW asZ];rw[aCF asZ]at u1;simp only[aCA]at u1;simp[u1]
   rw[this];rfl
 ·
  rename_i t x ix;have hx:=bL x
  split at h
  ·rename_i o n gu
   unfold dL at h
   split at h<;>try (cases h;done)
   rename_i e k i he hie;have hi:=fl (hie▸bL ix)
   split at h<;>try (cases h;done)
   rename_i hs;rw[gu]at h hx;simp only at h
   split at h<;>try (cases h;done)
   rename_i ob ho;simp only[AR.val.injEq]at h;obtain⟨rfl,rfl⟩:=h;obtain⟨p1,p2,p3,p4⟩:=hp;have h3:=(hx ob ho).2 p3;have aX:=H.ok o ob ho;cases hb:E.β o with
   | none=>rw[hb]at aX;have:ob.rows=[]:=aX;rw[this]at p3;simp at p3;omega
   | some b=>
    rw[hb]at h3;obtain⟨cap,cur,hv,_⟩:=h3;refine⟨.pointer (some ⟨b,i.toNat*ob.es+0,none⟩),?_,?_⟩
    ·have:=xK (P:=P) he (by omega) (k:=k) (i:=i) b 0 n cap p1 p2 E.w
     simp only[execOp,hv,hi];rw[p4];simpa using gT this
    ·intro ob' dW
     rw[ho]at dW;cases dW;exact⟨by omega,fun _=>⟨b,hb,rfl⟩⟩
  ·rename_i o n0 i0 j0 gu
   unfold eo at h
   split at h<;>try (cases h;done)
   rename_i m e k i he hie;have hi:=fl (hie▸bL ix)
   split at h<;>try (cases h;done)
   rename_i hs;rw[gu]at h hx
   split at h<;>try (cases h;done)
   rename_i o' n' av2;cases av2
   split at h<;>try (cases h;done)
   rename_i ob ho;simp only[AR.val.injEq]at h;obtain⟨rfl,rfl⟩:=h;obtain⟨p1,p2,p3,p4,p5⟩:=hp;obtain⟨b,hb,hv⟩:=(hx ob ho).2 p4;refine⟨.pointer (some ⟨b,i.toNat*ob.es+0,none⟩),?_,?_⟩
   ·have:=E4 (P:=P) he (by omega) (k:=k) (i:=i) b 0 p1 p2 E.w
    simp only[execOp,hv,hi];rw[p5];simpa using gT this
   ·intro ob' dW
    rw[ho]at dW;cases dW;exact⟨by omega,fun _=>⟨b,hb,rfl⟩⟩
  ·unfold dx at h
   split at h<;>try (cases h;done)
   rename_i e k i he hie;have hi:=fl (hie▸bL ix)
   split at h<;>try (cases h;done)
   rename_i hs
   split at h<;>try (cases h;done)
   ·rename_i rows gu
    split at h<;>try (cases h;done)
    rename_i row aO;simp only[AR.val.injEq]at h;obtain⟨rfl,rfl⟩:=h;rw[gu]at hx;obtain⟨b,off,f,c1,c2,c3,c4,c5⟩:=Ar (eA hx) aO he hp.2 (by omega) k E.w;refine⟨.pointer (some ⟨b,off,none⟩),?_,b,off,f,rfl,c2,fun hm=>c3 (H.mA hm),c4,c5⟩;simp only[execOp,hi];rw[show i=((i.toNat:Nat):Int)from by omega];exact gT c1
   ·rename_i rows gu
    split at h<;>try (cases h;done)
    rename_i row aO;simp only[AR.val.injEq]at h;obtain⟨rfl,rfl⟩:=h;rw[gu]at hx;obtain⟨b,off,f,c1,c2,c3,c4,c5⟩:=Ar hx aO he hp.2 (by omega) k E.w;refine⟨.pointer (some ⟨b,off,none⟩),?_,b,off,f,rfl,c2,c3,c4,c5⟩;simp only[execOp,hi];rw[show i=((i.toNat:Nat):Int)from by omega];exact gT c1
 ·
  rename_i x i
  split at h<;>try (cases h;done)
  rename_i xs gu
  split at h<;>try (cases h;done)
  rename_i y hy;simp only[AR.val.injEq]at h;obtain⟨rfl,rfl⟩:=h;have hx:=bL x;rw[gu]at hx;obtain⟨vs,hv,hs,hc⟩:=QD hx;obtain⟨u,u1,u2⟩:=hc i y hy;refine⟨u,?_,u2.rel⟩;simp only[execOp,hv];exact gT (by simp[Instr.extract,u1])
 ·
  rename_i f first bZ
  split at h<;>try (cases h;done)
  rename_i hf;simp only[AR.val.injEq]at h;obtain⟨rfl,rfl⟩:=h;obtain⟨hf1,hf2⟩:=hf;have aoQ:first=#[]:=by apply aDV;simpa using hf1
  subst aoQ;refine⟨.func (.func f) #[] (bZ.map a.eval),?_,bZ.map a.eval,rfl,by simp,fun i x hx=>?_⟩
  ·simp only[execOp]
   exact gT (by simp[Instr.makeFunc])
  ·rw[aDm]at hx
   cases hi:bZ.toList[i]? with
   | none=>simp[hi]at hx
   | some r=>
    simp[hi]at hx;subst hx;have kh:bZ[i]? = some r:=by simpa using hi
    refine⟨a.eval r,by simp[kh],?_⟩;have hr:=bL r;have hc:=aCG.1 hf2 (ev r) (aCN.2 ⟨r,aCC hi,rfl⟩);generalize ev r=x at hr hc;cases x<;>first | exact hr | (simp[V.K4]at hc)
 ·
  rename_i x
  split at h<;>try (cases h;done)
  rename_i o n i j gu;simp only[AR.val.injEq]at h;obtain⟨rfl,rfl⟩:=h;obtain⟨ob,ho,hn⟩:=hp;have hx:=bL x;rw[gu]at hx;obtain⟨b,hb,hv⟩:=(hx ob ho).2 hn;refine⟨_,?_,hx⟩;simp only[execOp,hv];rfl
 ·
  rename_i c;obtain⟨u,h1,h2⟩:=Vz H a ev bL c ty h hp;exact⟨u,by simpa [execOp]using h1,h2⟩
 ·unfold nY at h
  split at h<;>try (cases h;done)
  split at h<;>try (cases h;done)
  split at h<;>cases h
 ·cases h
end
end Go.AL
