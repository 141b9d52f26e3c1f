/- AI. -/
import Derived.Test.YtfggefeflojnkaaGreatAlSound
namespace Go.AL
section
variable {P:Program} {E:Env}
theorem ia{t e:TypeId}(ht:dC P t=some e){n:Nat}(hn:aq P e=n)(dr:0<n)(a:Option Addr)(len cap l h:Nat)(lo hi:Option Value)
  (TU:(lo=none∧l=0)∨∃k,lo=some (.int k l)) (hhi:(hi=none∧h=len)∨∃k,hi=some (.int k h)) (hl:l≤h) (hh:h≤cap) (w:World) :
  (Instr.sliceAt t (.slice a len cap) lo hi none).run P w=.ok (.slice (if cap=l then a else a.map (·.add (l*n))) (h-l) (cap-l)) w:=by
 have hu:=fS ht;obtain⟨ti,ra,dO⟩:=kf hn dr;have e1:(Instr.sliceAt t (.slice a len cap) lo hi none).run P w=(Instr.slice t (.slice a len cap) lo hi none).run P w:=by
  simp only[Instr.sliceAt,Sem.run_bind,run_underlying hu,Result.andThen_ok]
 rw[e1];have hb:(Instr.sliceBounds true len cap lo hi none).run P w=.ok (l,h,cap) w:=by
  rcases TU with⟨rfl,rfl⟩ | ⟨k,rfl⟩<;>rcases hhi with⟨rfl,rfl⟩ | ⟨k',rfl⟩
  ·simp[Instr.sliceBounds]
  ·simp[Instr.sliceBounds,Instr.sliceBound,asIntOf,hh]
  ·simp[Instr.sliceBounds,Instr.sliceBound,asIntOf,hl]
  ·simp[Instr.sliceBounds,Instr.sliceBound,asIntOf,hl,hh]
 simp only[Instr.slice,Sem.run_bind,run_underlying hu,Result.andThen_ok,hb,sizeOf,typeInfo];simp_all
theorem gF.cut{w:World}{A X:Nat→Prop}{rows:List (List V)}{n:Nat}{v:Value}(hv:gF w A X rows v)(l h:Nat)(hl:l≤h)(hh:h≤rows.length)(bI:l=0∨∀r∈rows,r.length=n)
  {P:Program} {t e:TypeId} (ht:dC P t=some e) (hn:aq P e=n) (dr:0<n) (lo hi:Option Value)
  (TU:(lo=none∧l=0)∨∃k,lo=some (.int k l)) (hhi:(hi=none∧h=rows.length)∨∃k,hi=some (.int k h)) (w':World) :
  ∃u,(Instr.sliceAt t v lo hi none).run P w'=.ok u w'∧gF w A X ((rows.take h).drop l) u:=by
 rcases hv with⟨⟨a,rfl⟩,rfl⟩ | ⟨b,off,cap,es,f,rfl,jM,hb,rW,hc,hr⟩
 ·have h0:h=0:=by grind
  subst h0;have l0:l=0:=by omega
  subst l0;refine⟨_,ia ht hn dr a 0 0 0 0 lo hi TU (by grind) (azJ _) (azJ _) w',.inl ⟨⟨a,by simp⟩,by simp⟩⟩
 ·refine⟨_,ia ht hn dr (some ⟨b,off,none⟩) rows.length cap l h lo hi TU hhi hl (by omega) w',?_⟩
  have hlen:((rows.take h).drop l).length=h-l:=by simp;omega
  have mem:∀(i:Nat) (row:List V),((rows.take h).drop l)[i]? = some row→rows[l+i]? = some row:=by
   grind
  by_cases rX:cap=l
  ·rw[azE rX]
   have he:(rows.take h).drop l=[]:=aAf (by omega);rw[he];refine .inr ⟨b,off,cap-l,es,f,by simp;omega,by simp,fun h=>absurd rfl h,by simp,fun i row hi=>by simp at hi,fun i row hi=>by simp at hi⟩
  ·rw[azD rX]
   refine .inr ⟨b,off+l*n,cap-l,es,fun i j=>f (l+i) j,?_,by rw[hlen];omega,?_,?_,?_,?_⟩
   ·simp[hlen,Addr.add_mid]
   ·grind
   ·grind
   ·intro i row hi j x hx
    have h1:=mem i row hi;have:=hc (l+i) row h1 j x hx;have hee:l*n=l*es:=by
     grind
    rw[← this]
    congr 2
    grind
   grind
theorem AU{w:World}{A X:Nat→Prop}{rows:List (List V)}{v:Value}(hv:gF w A X rows v){i:Nat}{row:List V}(hi:rows[i]? = some row)
  {P:Program} {t e:TypeId} (ht:dC P t=some e) (hlen:row.length=aq P e) (dr:0<aq P e) (k:IntKind) (w':World) :
  ∃(b off:Nat) (f:Nat→Value),(Instr.indexAt t v (.int k i)).run P w'=.ok (.pointer (some ⟨b,off,none⟩)) w'∧b<w.heap.size∧¬ X b∧
   (∀(j:Nat) (x:V),row[j]? = some x→w.cell? ⟨b,off+j,none⟩=some (f j))∧(∀(j:Nat) (x:V),row[j]? = some x→aY w A x (f j)):=by
 rcases hv with⟨⟨a,rfl⟩,rfl⟩ | ⟨b,off,cap,es,f,rfl,jM,hb,rW,hc,hr⟩
 ·simp at hi
 ·have bO:=(azR.1 hi).1
  have dU:rows ≠ []:=fun e=>by rw[e]at hi;simp at hi
  obtain⟨h1,h2⟩:=hb dU;have h3:=rW row (azO hi);refine⟨b,off+i*aq P e,f i,?_,h1,h2,fun j x hx=>?_,fun j x hx=>hr i row hi j x hx⟩
  ·have:=xI ht dr (k:=k) (i:=(i:Int)) b off rows.length cap (by omega) (by omega) w'
   grind
  grind
theorem ei{rows:List (List V)}{v:Value}(h:Rel E (.sl rows) v):gF E.w E.A E.A rows v:=me.1 h
theorem oo{rows:List (List V)}{v:Value}(h:gF E.w E.A E.A rows v):Rel E (.sl rows) v:=(me.2 h:aY E.w E.A _ _)
theorem S0(H:bU E){x:V}{u:Value}{n:Nat}(hx:Rel E x u)(h:lenOf x=some n)(hd:x.live E.h){t:TypeId}(ht:(dC P t).isSome)(ty:TypeId)(w:World):
  (Builtin.len_ #[t] ty #[u]).run P w=.ok (.int .i64 n) w:=by
 obtain⟨e,he⟩:=aA1.1 ht;have hu:=fS he;have key:∃a c,u=.slice a n c:=by
  unfold lenOf at h
  split at h<;>try trivial
  ·cases h;cases hx;grind
  ·cases h;rcases ei hx with⟨⟨a,rfl⟩,rfl⟩ | ⟨b,off,cap,es,f,rfl,_⟩<;>exact⟨_,_,rfl⟩
  ·cases h;rcases hx with⟨⟨a,rfl⟩,rfl⟩ | ⟨b,off,cap,es,f,rfl,_⟩<;>exact⟨_,_,rfl⟩
  ·cases h
   rename_i o;obtain⟨ob,ho,hm⟩:=hd;have aO:=H.ok o ob ho;have h2:=(hx ob ho).2 hm;cases hb:E.β o with
   | none=>rw[hb]at h2 aO;subst h2;have h0:ob.rows=[]:=aO;grind
   | some b=>grind
 obtain⟨a,c,rfl⟩:=key;simp[Builtin.len_,run_underlying hu,goInt]
theorem fm{k:IntKind}{n:Int}{u:Value}(h:Rel E (.int k n) u):u=.int k n:=by cases h;rfl
theorem ug{b:Bool}{u:Value}(h:Rel E (.bool b) u):u=.bool b:=by cases h;rfl
theorem ot(f:Value→Value→Sem Value)(x y:Value)(w:World):([y].foldlM f x:Sem Value).run P w=(f x y).run P w:=by
 simp_all
theorem UH(H:bU E)(a:Act)(ev:Operand→V)(bm:∀x,Rel E (ev x) (a.eval x))(c:Call)(ty:TypeId){p:Prop}{v:V}(h:fi P ev E.h c=.val p v)(hp:p):
  ∃u,((do let d ← resolve a.eval c ty;invoke d.target d.args):Sem Next).run P E.w=.ok (.value u) E.w∧Rel E v u:=by
 obtain⟨callee,args,argTypes⟩:=c;unfold fi at h;simp only at h
 split at h
 ·grind
 ·
  split at h<;>try trivial
  rename_i x cZ;have hx:=bm x;have hm:args.map a.eval=#[a.eval x]:=by
   apply aA3;simp[cZ]
  split at h
  ·rename_i s hs
   simp only[AR.val.injEq]at h;obtain⟨rfl,rfl⟩:=h;rw[hs]at hx;cases argTypes with | mk ts=>
   cases ts with
   | nil=>simp at hp
   | cons t ts=>
    simp at hp;obtain⟨hp,rfl⟩:=hp;have hu:a.eval x=.string s:=by generalize a.eval x=u at hx;cases hx;rfl
    refine⟨.int .i64 s.size,?_,.int _ _⟩;simp[resolve,invoke,builtin,Builtin.len_,run_underlying hp,hm,hu,goInt]
  ·split at h<;>try trivial
   rename_i n hn;simp only[AR.val.injEq]at h;obtain⟨rfl,rfl⟩:=h;obtain⟨hp1,Kj⟩:=hp;cases argTypes with | mk ts=>
   cases ts with
   | nil=>simp at Kj
   | cons t ts=>
    simp at Kj;obtain⟨Kj,rfl⟩:=Kj;refine⟨.int .i64 n,?_,.int _ _⟩;have:=S0 (P:=P) H hx hn hp1 Kj ty E.w;simp only[resolve,invoke,builtin,hm,Sem.run_bind,Sem.run_pure,Result.andThen_ok,this]
 ·
  split at h<;>try trivial
  grind[dM]
 ·
  split at h<;>try trivial
  rename_i r hr;simp only[AR.val.injEq]at h;obtain⟨rfl,rfl⟩:=h;unfold ahq at hr
  split at hr<;>try (cases hr;done)
  rename_i k x k' y hl
  split at hr<;>try (cases hr;done)
  rename_i hk;subst hk;cases hr;have cZ:∃X Y,args.toList=[X,Y]∧ev X=.int k x∧ev Y=.int k y:=by
   cases lA:args.toList with
   | nil=>grind
   | cons X l=>cases l with
    | nil=>simp[lA]at hl
    | cons Y l=>cases l with
     | nil=>simp[lA]at hl;exact⟨X,Y,rfl,hl.1,hl.2⟩
     | cons Z l=>simp[lA]at hl
  obtain⟨X,Y,lA,hX,hY⟩:=cZ;have h1:=fm (hX▸bm X);have h2:=fm (hY▸bm Y);have hm:args.map a.eval=#[.int k x,.int k y]:=by
   apply aA3;simp_all
  refine⟨_,?_,.int k _⟩;simp only[resolve,invoke,builtin,hm,Sem.run_bind,Sem.run_pure,Result.andThen_ok,Builtin.max_,ot,Builtin.max2]
 ·
  split at h<;>try trivial
  rename_i r hr;simp only[AR.val.injEq]at h;obtain⟨rfl,rfl⟩:=h;unfold ahp at hr
  split at hr<;>try (cases hr;done)
  rename_i k x k' y hl
  split at hr<;>try (cases hr;done)
  rename_i hk;subst hk;cases hr;have cZ:∃X Y,args.toList=[X,Y]∧ev X=.int k x∧ev Y=.int k y:=by
   cases lA:args.toList with
   | nil=>grind
   | cons X l=>cases l with
    | nil=>simp[lA]at hl
    | cons Y l=>cases l with
     | nil=>simp[lA]at hl;exact⟨X,Y,rfl,hl.1,hl.2⟩
     | cons Z l=>simp[lA]at hl
  obtain⟨X,Y,lA,hX,hY⟩:=cZ;have h1:=fm (hX▸bm X);have h2:=fm (hY▸bm Y);have hm:args.map a.eval=#[.int k x,.int k y]:=by
   apply aA3;simp_all
  refine⟨_,?_,.int k _⟩;simp only[resolve,invoke,builtin,hm,Sem.run_bind,Sem.run_pure,Result.andThen_ok,Builtin.min_,ot,Builtin.min2]
 ·cases h
theorem eW{t:TypeId}{z:List V}(h:eX P t=some z):∃i v,P.info? t=some i∧i.zero=some v∧v.cells.size=aq P t∧∀(E:Env),Cells E false z v.cells.toList:=by
 unfold eX at h;cases hi:P.info? t with
 | none=>grind
 | some i=>
  cases hz:i.zero with
  | none=>grind
  | some v=>
   simp only[hi,hz,aAC]at h
   split at h<;>try trivial
   rename_i hc;simp only[azF,aAO]at hc;cases h;refine⟨i,v,rfl,hz,hc.2,fun E=>⟨by simp,fun n x hx=>?_⟩⟩;rw[aAv]at hx;cases hn:v.cells.toList[n]? with
   | none=>grind
   | some u=>
    simp[hn]at hx;subst hx;have h1:=azU.1 hc.1 u (azO hn);grind[bw.aN,ic]
theorem Cells.weaken{E:Env}{b:Bool}{cs:List V}{vs:List Value}(b':Bool)(hb:b'=false→b=false)(h:Cells E b cs vs):Cells E b' cs vs:=
 ⟨h.1,fun i x hx=>let ⟨u,h1,h2,h3,h4⟩:=h.2 i x hx;⟨u,h1,h2,h3,fun hh=>h4 (hb hh)⟩⟩
theorem YA{fs:List Field}{f:Field→Option (Nat×Nat)}:∀{wI:List (Nat×Nat)},fs.mapM f=some wI→∀(i:Nat),wI[i]? = (fs[i]?).bind f:=by
 induction fs with
 | nil=>grind
 | cons x fs ih=>
  intro wI h i;simp only[List.mapM_cons,Option.bind_eq_bind,Option.pure_def]at h;cases hx:f x with
  | none=>grind
  | some p=>
   cases hr:fs.mapM f with
   | none=>grind
   | some ps=>
    grind
theorem Mz{t:TypeId}{parts:List (Nat×V)}{cparts:Array (Nat×Value)}{p:Prop}{v:V}
  (hl:cparts.size=parts.length) (hp:∀(i:Nat) (q:Nat×V),parts[i]? = some q→∃u,cparts[i]? = some (q.1,u)∧Rel E q.2 u)
  (h:iL P E.h t parts=.val p v) (VW:p) (w:World):∃u,(Instr.build t cparts).run P w=.ok u w∧Rel E v u:=by
 unfold iL at h
 split at h<;>try trivial
 rename_i Qf
 split at h<;>try trivial
 rename_i z hz
 split at h<;>try trivial
 rename_i cs uR;simp only[AR.val.injEq]at h;obtain⟨rfl,rfl⟩:=h;obtain⟨it,zv,hit,P6,_,hzc⟩:=eW hz;unfold Be at Qf
 split at Qf<;>try (cases Qf;done)
 rename_i fs hu;obtain⟨wI,Qe⟩:=aA1.1 Qf;have Dx:=YA Qe;have oL:∀(i:Nat) (q:Nat×Nat),(eQ P t i).map (fun f=>(f.1,aq P f.2))=some q→wI.toArray[i]? = some q:=by
  intro i q hq;unfold eQ at hq;rw[hu]at hq;simp only at hq;rw[aBj,Dx i,aAG];cases hf:fs[i]? with
  | none=>grind
  | some fd=>
   cases hi:P.info? fd.type with
   | none=>grind
   | some ii=>
    simp only[hf,hi,aAC]at hq
    grind[aq]
 generalize hb:(!(parts.all (·.2.pure)))=b;have Nj:∀(i:Nat) (q:Nat×V),parts[i]? = some q→∃u,cparts.toList[i]? = some (q.1,u)∧Cells E b q.2.cells u.cells.toList:=by
  intro i q hq;obtain⟨u,h1,h2⟩:=hp i q hq;refine⟨u,by simpa using h1,(Cells.FO h2 (VW q (azO hq))).weaken b fun hbf=>?_⟩;grind
 obtain⟨bS,g1,g2⟩:=s9 (E:=E) (imp:=b) oL parts cparts.toList z cs zv.cells (by grind) Nj ((hzc E).weaken b (fun _=>rfl)) uR;refine⟨.agg bS,run_build w t cparts bS ?_,by simpa using g2.rel⟩;unfold Program.built;grind
theorem PC{xs:List V}{u:Value}(h:Rel E (.kI xs) u):∃vs,u=.tuple vs∧vs.size=xs.length∧∀(i:Nat) (x:V),xs[i]? = some x→∃u,vs[i]? = some u∧cD E x u:=h
theorem cD.rel{x:V}{u:Value}(h:cD E x u):Rel E x u:=by
 cases x<;>first | exact h | (cases h;done)
theorem My{t:TypeId}{x:V}{lo hi:Option V}{u:Value}{clo chi:Option Value}{p:Prop}{v:V}(hx:Rel E x u)
  (TU:∀l,lo=some l→∃c,clo=some c∧Rel E l c) (atL:lo=none→clo=none) (hhi:∀l,hi=some l→∃c,chi=some c∧Rel E l c) (at3:hi=none→chi=none)
  (h:ez P t x lo hi=.val p v) (hp:p) (w:World):∃r,(Instr.sliceAt t u clo chi none).run P w=.ok r w∧Rel E v r:=by
 unfold ez at h
 split at h<;>try trivial
 rename_i e he
 split at h<;>try trivial
 rename_i hs;have dr:0<aq P e:=by omega
 split at h<;>try trivial
 ·rename_i k2 hh
  have hl:=atL rfl;obtain⟨c,hc,hr⟩:=hhi _ rfl;have Ia:=fm hr;subst Ia
  split at h<;>try trivial
  ·rename_i rows
   simp only[AR.val.injEq]at h;obtain⟨rfl,rfl⟩:=h;obtain⟨r,r1,r2⟩:=(ei hx).cut 0 hh.toNat (aAu _) (by omega) (.inl rfl) he rfl dr clo chi (.inl ⟨hl,rfl⟩) (.inr ⟨k2,by rw[hc];congr 2;omega⟩) w;grind[oo]
  ·rename_i rows
   simp only[AR.val.injEq]at h;obtain⟨rfl,rfl⟩:=h;have hx':gF E.w E.A E.M rows u:=hx;obtain⟨r,r1,r2⟩:=hx'.cut 0 hh.toNat (aAu _) (by omega) (.inl rfl) he rfl dr clo chi (.inl ⟨hl,rfl⟩) (.inr ⟨k2,by rw[hc];congr 2;omega⟩) w;exact⟨r,r1,by have r3:=r2;simp at r3;exact r3⟩
  ·simp only[AR.val.injEq]at h
   obtain⟨rfl,rfl⟩:=h;have:u=.slice none 0 0:=by cases hx;rfl
   subst this;subst hp;exact⟨_,ia he rfl dr none 0 0 0 0 clo chi (.inl ⟨hl,rfl⟩) (.inr ⟨k2,by rw[hc];rfl⟩) (azJ _) (azJ _) w,by simpa using hx⟩
 ·rename_i k2 ll
  have hl:=at3 rfl;obtain⟨c,hc,hr⟩:=TU _ rfl;have Ia:=fm hr;subst Ia
  split at h<;>try trivial
  ·rename_i rows
   simp only[AR.val.injEq]at h;obtain⟨rfl,rfl⟩:=h;obtain⟨r,r1,r2⟩:=(ei hx).cut ll.toNat rows.length (by omega) (azJ _) (.inr hp.2.2) he rfl dr clo chi (.inr ⟨k2,by rw[hc];congr 2;omega⟩) (.inl ⟨hl,rfl⟩) w;grind[oo]
  ·rename_i rows
   simp only[AR.val.injEq]at h;obtain⟨rfl,rfl⟩:=h;have hx':gF E.w E.A E.M rows u:=hx;obtain⟨r,r1,r2⟩:=hx'.cut ll.toNat rows.length (by omega) (azJ _) (.inr hp.2.2) he rfl dr clo chi (.inr ⟨k2,by rw[hc];congr 2;omega⟩) (.inl ⟨hl,rfl⟩) w;exact⟨r,r1,by have r3:=r2;simp at r3;exact r3⟩
  ·simp only[AR.val.injEq]at h
   obtain⟨rfl,rfl⟩:=h;have:u=.slice none 0 0:=by cases hx;rfl
   subst this;subst hp;exact⟨_,ia he rfl dr none 0 0 0 0 clo chi (.inr ⟨k2,by rw[hc];rfl⟩) (.inl ⟨hl,rfl⟩) (azJ _) (azJ _) w,by simpa using hx⟩
 ·rename_i k1 ll k2 hh
  obtain⟨c,hc,hr⟩:=TU _ rfl;have Ia:=fm hr;subst Ia;obtain⟨d,hd,hr'⟩:=hhi _ rfl;have Zv:=fm hr';subst Zv
  split at h<;>try trivial
  ·rename_i rows
   simp only[AR.val.injEq]at h;obtain⟨rfl,rfl⟩:=h;obtain⟨r,r1,r2⟩:=(ei hx).cut ll.toNat hh.toNat (by omega) (by omega) (.inr hp.2.2.2) he rfl dr clo chi (.inr ⟨k1,by rw[hc];congr 2;omega⟩) (.inr ⟨k2,by rw[hd];congr 2;omega⟩) w;grind[oo]
  ·rename_i rows
   simp only[AR.val.injEq]at h;obtain⟨rfl,rfl⟩:=h;have hx':gF E.w E.A E.M rows u:=hx;obtain⟨r,r1,r2⟩:=hx'.cut ll.toNat hh.toNat (by omega) (by omega) (.inr hp.2.2.2) he rfl dr clo chi (.inr ⟨k1,by rw[hc];congr 2;omega⟩) (.inr ⟨k2,by rw[hd];congr 2;omega⟩) w;exact⟨r,r1,r2⟩
  ·simp only[AR.val.injEq]at h
   obtain⟨rfl,rfl⟩:=h;have:u=.slice none 0 0:=by cases hx;rfl
   subst this;obtain⟨rfl,rfl⟩:=hp;exact⟨_,ia he rfl dr none 0 0 0 0 clo chi (.inr ⟨k1,by rw[hc];rfl⟩) (.inr ⟨k2,by rw[hd];rfl⟩) (azJ _) (azJ _) w,by simpa using hx⟩
theorem ahj(H:bU E)(a:Act)(ev:Operand→V)(bm:∀x,Rel E (ev x) (a.eval x))(o:Oper){p:Prop}{v:V}(h:gH P o ev E.h=.val p v)(hp:p):
  ∃u,(execOp a.eval o).run P E.w=.ok (.value u) E.w∧Rel E v u:=by
 obtain⟨dst,op,ty,pos,after,guard⟩:=o;unfold gH at h;simp only at h
 split at h
 ·
  simp only[AR.val.injEq]at h;obtain⟨rfl,rfl⟩:=h;exact⟨_,rfl,bm _⟩
 ·simp only[AR.val.injEq]at h
  obtain⟨rfl,rfl⟩:=h;exact⟨_,rfl,bm _⟩
 ·
  rename_i c x y
  split at h<;>try trivial
  rename_i b hb;simp only[AR.val.injEq]at h;obtain⟨rfl,rfl⟩:=h;have hc:=ug (hb▸bm c);refine⟨if b then a.eval x else a.eval y,?_,?_⟩
  ·simp[execOp,hc,asBool]
  grind
 ·
  grind[jd]
 ·
  cases h
 ·
  rename_i t parts;obtain⟨u,h1,h2⟩:=Mz (P:=P) (E:=E) (cparts:=parts.map fun q=>(q.1,a.eval q.2)) (by simp) (fun i q hq=>by
   grind) h hp E.w
  exact⟨u,hT h1,h2⟩
 ·
  grind[cW]
 ·
  rename_i t x
  split at h<;>try trivial
  rename_i ht;obtain⟨r,h1,h2⟩:=DT H (bm x) ht h hp;exact⟨r,hT h1,h2⟩
 ·
  split at h<;>try trivial
  unfold fh at h
  grind
 ·
  rename_i op t x y yt
  split at h<;>try trivial
  rename_i q r hb;simp only[AR.val.injEq]at h;obtain⟨rfl,rfl⟩:=h;obtain⟨u,h1,h2⟩:=Xj (P:=P) (E:=E) (X:=x) (Y:=y) (bm x) (bm y) hb hp E.w;exact⟨u,hT h1,Rel.aN h2⟩
 ·
  rename_i t x
  split at h<;>try trivial
  rename_i b hb;simp only[AR.val.injEq]at h;obtain⟨rfl,rfl⟩:=h;have hc:=ug (hb▸bm x);exact⟨.bool (!b),by simp[execOp,hc,Op.unary],.bool _⟩
 ·
  rename_i t x
  split at h<;>try trivial
  rename_i k n hb;simp only[AR.val.injEq]at h;obtain⟨rfl,rfl⟩:=h;have hc:=fm (hb▸bm x);exact⟨.int k (k.wrap (0-n)),by simp[execOp,hc,Op.unary,Op.intArith],.int _ _⟩
 ·
  rename_i src d x
  split at h<;>try trivial
  rename_i k n hb
  split at h<;>try trivial
  rename_i s1 k2 e1 e2;simp only[AR.val.injEq]at h;obtain⟨rfl,rfl⟩:=h;have hc:=fm (hb▸bm x);refine⟨.int k2 (k2.wrap n),?_,.int _ _⟩;have:(convert src d (.int k n)).run P E.w=.ok (.int k2 (k2.wrap n)) E.w:=by
   simp only[convert,Sem.run_bind,run_underlying e1,run_underlying e2,Result.andThen_ok];cases s1<;>simp[Conv.intToInt]
  simp only[execOp,hc];grind[hT]
 ·
  rename_i t x lo hi;obtain⟨r,h1,h2⟩:=My (P:=P) (E:=E) (clo:=lo.map a.eval) (chi:=hi.map a.eval) (bm x)
   (fun l hl=>by cases lo with | none=>simp at hl | some z=>simp at hl;subst hl;exact⟨_,rfl,bm z⟩) (fun hl=>by cases lo with | none=>rfl | some z=>simp at hl)
   (fun l hl=>by cases hi with | none=>simp at hl | some z=>simp at hl;subst hl;exact⟨_,rfl,bm z⟩) (fun hl=>by cases hi with | none=>rfl | some z=>simp at hl) h hp E.w
  exact⟨r,hT h1,h2⟩
 ·
  rename_i t x f;unfold dd at h;have hx:=bm x
  split at h
  ·rename_i o n i j gp
   split at h<;>try trivial
   rename_i ob ho
   split at h<;>try trivial
   rename_i off ft hf;simp only[AR.val.injEq]at h;obtain⟨rfl,rfl⟩:=h;rw[gp]at hx;obtain⟨b,hb,hv⟩:=(hx ob ho).2 hp;refine⟨.pointer (some ⟨b,i*ob.es+j+off,none⟩),?_,?_⟩
   ·have:=xJ (P:=P) hf b (i*ob.es+j) E.w
    rw[← hv]at this;exact hT this
   ·intro ob' dT
    rw[ho]at dT;cases dT;exact⟨(hx ob ho).1,fun _=>⟨b,hb,by rw[Nat.add_assoc]⟩⟩
  ·rename_i row j gp
   split at h<;>try trivial
   rename_i off ft hf;simp only[AR.val.injEq]at h;obtain⟨rfl,rfl⟩:=h;rw[gp]at hx;obtain⟨b,ak8,f',hv,h2,h3,h4,h5⟩:=hx;refine⟨.pointer (some ⟨b,ak8+j+off,none⟩),?_,b,ak8,f',by rw[Nat.add_assoc],h2,h3,h4,h5⟩;have:=xJ (P:=P) hf b (ak8+j) E.w;rw[← hv]at this;exact hT this
  ·cases h
 ·
  rename_i t x f;unfold kH at h
  split at h<;>try trivial
  rename_i cs gp;have hx:=bm x;rw[gp]at hx;obtain⟨vs,hv,pr⟩:=nT.MX hx
  split at h<;>try trivial
  rename_i off ft hf
  split at h
  ·rename_i aK
   simp only[AR.val.injEq]at h;obtain⟨rfl,rfl⟩:=h;have hu:(P.underlying ft).isSome:=by
    grind[cE]
   have hl:vs.size=cs.length:=by simpa using pr.1
   have:=DS (P:=P) hf hu vs (by grind) (fun h=>by rw[aK]at h;cases h) E.w;refine⟨valOf P ft ((vs.toList.drop off).take (aq P ft)),?_,?_⟩
   ·simp only[execOp,hv]
    grind[hT]
   ·unfold valOf
    rw[aK];have p2:=(pr.drop off).take (aq P ft);exact⟨_,rfl,by simpa [cut]using p2.1,fun i x hx=>let ⟨u,h1,h2⟩:=p2.2 i x hx;⟨u,by simpa using h1,h2⟩⟩
  ·rename_i aK
   split at h<;>try trivial
   rename_i dO
   split at h<;>try trivial
   rename_i y hy;simp only[AR.val.injEq]at h;obtain⟨rfl,rfl⟩:=h;have hl:vs.size=cs.length:=by simpa using pr.1
   have bO:=(azR.1 hy).1;obtain⟨u,u1,u2⟩:=pr.2 off y hy;have:=DS (P:=P) hf dO.1 vs (by grind) (fun _=>dO.2) E.w;refine⟨u,?_,Rel.aN u2⟩;simp only[execOp,hv];refine hT ?_;rw[this];unfold valOf;simp only[aK,aAE,aAd,dO.2];have:(vs.toList.drop off).take 1=[u]:=by
    have ap6:off<vs.toList.length:=by grind
    rw[aA4 ap6];grind
   grind
 ·
  rename_i t x ix;have hx:=bm x
  split at h
  ·rename_i o n gp
   unfold dG at h
   split at h<;>try trivial
   rename_i e k i he Zo;have hi:=fm (Zo▸bm ix)
   split at h<;>try trivial
   rename_i hs;rw[gp]at h hx;simp only at h
   split at h<;>try trivial
   rename_i ob ho;simp only[AR.val.injEq]at h;obtain⟨rfl,rfl⟩:=h;obtain⟨p1,p2,p3,p4⟩:=hp;have h3:=(hx ob ho).2 p3;have aO:=H.ok o ob ho;cases hb:E.β o with
   | none=>rw[hb]at aO;have:ob.rows=[]:=aO;grind
   | some b=>
    rw[hb]at h3;obtain⟨cap,cur,hv,_⟩:=h3;refine⟨.pointer (some ⟨b,i.toNat*ob.es+0,none⟩),?_,?_⟩
    ·have:=xI (P:=P) he (by omega) (k:=k) (i:=i) b 0 n cap p1 p2 E.w
     simp only[execOp,hv,hi];grind[hT]
    ·intro ob' dT
     rw[ho]at dT;cases dT;exact⟨by omega,fun _=>⟨b,hb,rfl⟩⟩
  ·rename_i o n0 i0 j0 gp
   unfold dZ at h
   split at h<;>try trivial
   rename_i m e k i he Zo;have hi:=fm (Zo▸bm ix)
   split at h<;>try trivial
   rename_i hs;rw[gp]at h hx
   split at h<;>try trivial
   rename_i o' n' atk;cases atk
   split at h<;>try trivial
   rename_i ob ho;simp only[AR.val.injEq]at h;obtain⟨rfl,rfl⟩:=h;obtain⟨p1,p2,p3,p4,p5⟩:=hp;obtain⟨b,hb,hv⟩:=(hx ob ho).2 p4;refine⟨.pointer (some ⟨b,i.toNat*ob.es+0,none⟩),?_,?_⟩
   ·have:=FC (P:=P) he (by omega) (k:=k) (i:=i) b 0 p1 p2 E.w
    simp only[execOp,hv,hi];grind[hT]
   ·intro ob' dT
    rw[ho]at dT;cases dT;exact⟨by omega,fun _=>⟨b,hb,rfl⟩⟩
  ·unfold dy at h
   split at h<;>try trivial
   rename_i e k i he Zo;have hi:=fm (Zo▸bm ix)
   split at h<;>try trivial
   rename_i hs
   split at h<;>try trivial
   ·rename_i rows gp
    split at h<;>try trivial
    rename_i row aK;simp only[AR.val.injEq]at h;obtain⟨rfl,rfl⟩:=h;rw[gp]at hx;obtain⟨b,off,f,c1,c2,c3,c4,c5⟩:=AU (ei hx) aK he hp.2 (by omega) k E.w;refine⟨.pointer (some ⟨b,off,none⟩),?_,b,off,f,rfl,c2,fun hm=>c3 (H.mA hm),c4,c5⟩;simp only[execOp,hi];grind[hT]
   ·rename_i rows gp
    split at h<;>try trivial
    rename_i row aK;simp only[AR.val.injEq]at h;obtain⟨rfl,rfl⟩:=h;rw[gp]at hx;obtain⟨b,off,f,c1,c2,c3,c4,c5⟩:=AU hx aK he hp.2 (by omega) k E.w;refine⟨.pointer (some ⟨b,off,none⟩),?_,b,off,f,rfl,c2,c3,c4,c5⟩;simp only[execOp,hi];grind[hT]
 ·
  rename_i x i
  split at h<;>try trivial
  rename_i xs gp
  split at h<;>try trivial
  rename_i y hy;simp only[AR.val.injEq]at h;obtain⟨rfl,rfl⟩:=h;have hx:=bm x;rw[gp]at hx;obtain⟨vs,hv,hs,hc⟩:=PC hx;obtain⟨u,u1,u2⟩:=hc i y hy;refine⟨u,?_,u2.rel⟩;simp only[execOp,hv];exact hT (by simp[Instr.extract,u1])
 ·
  rename_i f first aw
  split at h<;>try trivial
  rename_i hf;simp only[AR.val.injEq]at h;obtain⟨rfl,rfl⟩:=h;obtain⟨hf1,hf2⟩:=hf;have al6:first=#[]:=by grind
  subst al6;refine⟨.func (.func f) #[] (aw.map a.eval),?_,aw.map a.eval,rfl,by simp,fun i x hx=>?_⟩
  ·simp only[execOp]
   exact hT (by simp[Instr.makeFunc])
  ·rw[aAv]at hx
   cases hi:aw.toList[i]? with
   | none=>grind
   | some r=>
    simp[hi]at hx;subst hx;have j5:aw[i]? = some r:=by grind
    refine⟨a.eval r,by simp[j5],?_⟩;have hr:=bm r;have hc:=azU.1 hf2 (ev r) (az4.2 ⟨r,azO hi,rfl⟩);generalize ev r=x at hr hc;cases x<;>first | exact hr | (simp[V.KU]at hc)
 ·
  rename_i x
  split at h<;>try trivial
  rename_i o n i j gp;simp only[AR.val.injEq]at h;obtain⟨rfl,rfl⟩:=h;obtain⟨ob,ho,hn⟩:=hp;have hx:=bm x;rw[gp]at hx;obtain⟨b,hb,hv⟩:=(hx ob ho).2 hn;refine⟨_,?_,hx⟩;simp only[execOp,hv];rfl
 ·
  rename_i c;obtain⟨u,h1,h2⟩:=UH H a ev bm c ty h hp;exact⟨u,by simpa [execOp]using h1,h2⟩
 ·unfold nu at h
  grind
 ·cases h
end
end Go.AL
