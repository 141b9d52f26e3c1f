/- By an AI agent. -/
import Derived.Test.YtfggefeflojnkaaGreatAlOps
namespace Go.AL
def St.ev(s:St):Operand→V
 | .tmp i=>if i<100000 then s.t i else .dead
 | .const v=>.oT v
 | .func f=>.fn f []
 | .global _=>.dead
theorem bB.aU{E:Env}{x:V}{v:Value}(h:bh E.w E.A x v):bB E x v:=by cases h<;>first | exact .int _ _ | exact .bool _ | exact .str _ | exact .nil | exact .slnil _ | (exact .raw _ ‹_›) | (exact .sl _ _ _ _ _ _ ‹_› ‹_› ‹_› ‹_› ‹_›)
theorem cH.aU{E:Env}{x:V}{v:Value}(h:bh E.w E.A x v):cH E x v:=by cases h<;>first | exact .int _ _ | exact .bool _ | exact .str _ | exact .nil | exact .slnil _ | (exact .raw _ ‹_›) | (exact .sl _ _ _ _ _ _ ‹_› ‹_› ‹_› ‹_› ‹_›)
theorem Rel.aU{E:Env}{x:V}{v:Value}(h:bh E.w E.A x v):Rel E x v:=by cases h<;>first | exact .int _ _ | exact .bool _ | exact .str _ | exact .nil | exact .slnil _ | (exact .raw _ ‹_›) | (exact .sl _ _ _ _ _ _ ‹_› ‹_› ‹_› ‹_› ‹_›)
theorem Rel.Fl{E:Env}{x:V}{v:Value}(h:bB E x v):Rel E x v:=by
 cases x<;>first | exact h | (cases h;done)
theorem gW{w:World}{A:Nat→Prop}(v:Value)(h:v.oneCell'=true):bh w A (.de v) v:=by
 unfold V.de
 split<;>first | exact .int _ _ | exact .bool _ | exact .str _ | exact .nil | (rw[aCr h];exact .raw _ h)
def Cells(E:Env)(imp:Bool)(cs:List V)(vs:List Value):Prop:=
 vs.length=cs.length∧∀(i:Nat) (x:V),cs[i]? = some x→∃u,vs[i]? = some u∧u.oneCell'=true∧bB E x u∧(imp=false→bh E.w E.A x u)
theorem Cells.rel{E:Env}{imp:Bool}{cs:List V}{vs:List Value}(h:Cells E imp cs vs):Rel E (ke imp cs) (.agg vs.toArray):=by
 cases imp
 ·exact⟨vs.toArray,rfl,by simpa using h.1,fun i x hx=>let ⟨u,h1,_,_,h4⟩:=h.2 i x hx;⟨u,by simpa using h1,h4 rfl⟩⟩
 ·exact⟨vs.toArray,rfl,by simpa using h.1,fun i x hx=>let ⟨u,h1,h2,h3,_⟩:=h.2 i x hx;⟨u,by simpa using h1,h2,h3⟩⟩
theorem Cells.Fm{E:Env}{x:V}{v:Value}(h:Rel E x v)(hs:x.fB E.h):Cells E (!x.pure) x.cells v.cells.toList:=by
 have single:∀(y:V),x.cells=[y]→v.cells=#[v]→v.oneCell'=true→bB E y v→(x.pure=true→bh E.w E.A y v)→Cells E (!x.pure) x.cells v.cells.toList:=by
  intro y hx hv h1 hr hp;rw[hx,hv];refine⟨rfl,fun i z hz=>?_⟩;cases i with
  | zero=>
   simp at hz;subst hz;exact⟨v,rfl,h1,hr,fun hh=>hp (by simpa using hh)⟩
  | succ i=>simp at hz
 cases x with
 | agg cs=>
  obtain⟨vs,rfl,hs,hc⟩:=h;refine⟨by simpa [Value.cells,V.cells]using hs,fun i x hx=>?_⟩;obtain⟨u,c1,c2⟩:=hc i x hx;exact⟨u,by simpa [Value.cells]using c1,c2.fH,bB.aU c2,fun _=>c2⟩
 | dP cs=>
  obtain⟨vs,rfl,hs,hc⟩:=h;refine⟨by simpa [Value.cells,V.cells]using hs,fun i x hx=>?_⟩;obtain⟨u,c1,c2,c3⟩:=hc i x hx;exact⟨u,by simpa [Value.cells]using c1,c2,c3,fun h=>by simp[V.pure]at h⟩
 | int k n=>cases h;exact single _ rfl rfl rfl (.int k n) (fun _=>.int k n)
 | bool b=>cases h;exact single _ rfl rfl rfl (.bool b) (fun _=>.bool b)
 | str s=>cases h;exact single _ rfl rfl rfl (.str s) (fun _=>.str s)
 | nil=>cases h;exact single _ rfl rfl rfl .nil (fun _=>.nil)
 | raw u=>
  have h':bh E.w E.A (.raw u) v:=h;cases h' with
  | raw _ h2=>exact single (.raw v) rfl (by cases v<;>first | rfl | (simp[Value.oneCell']at h2)) h2 (.raw v h2) (fun _=>.raw v h2)
 | sl rows=>
  have h':bh E.w E.A (.sl rows) v:=h;exact single (.sl rows) rfl (by cases h'<;>rfl) h'.fH h (fun _=>h)
 | rd rows=>
  have hv:v.cells=#[v]∧v.oneCell'=true:=by rcases h with⟨⟨_,rfl⟩,_⟩ | ⟨_,_,_,_,_,rfl,_⟩<;>exact⟨rfl,rfl⟩
  exact single (.rd rows) rfl hv.1 hv.2 h (fun h=>by simp[V.pure]at h)
 | ref o n=>
  obtain⟨ob,ho,hn⟩:=hs;have h2:=(h ob ho).2 hn;have hv:v.cells=#[v]∧v.oneCell'=true:=by
   cases hb:E.β o with
   | none=>rw[hb]at h2;subst h2;exact⟨rfl,rfl⟩
   | some b=>rw[hb]at h2;obtain⟨_,_,rfl,_⟩:=h2;exact⟨rfl,rfl⟩
  exact single (.ref o n) rfl hv.1 hv.2 h (fun h=>by simp[V.pure]at h)
 | ptr o n i j=>
  obtain⟨ob,ho,hn⟩:=hs;obtain⟨b,_,rfl⟩:=(h ob ho).2 hn;exact single (.ptr o n i j) rfl rfl rfl h (fun h=>by simp[V.pure]at h)
 | kQ xs=>exact hs.elim
 | fn f cs=>exact hs.elim
 | cp row j=>exact hs.elim
 | dead=>exact hs.elim
theorem T9{E:Env}(v:Value):Rel E (.oT v) v:=by
 unfold V.oT
 split
 ·rename_i cs
  split
  ·rename_i fS
   refine⟨cs,rfl,by simp,fun i x hx=>?_⟩;rw[aDm]at hx;cases hi:cs.toList[i]? with
   | none=>simp[hi]at hx
   | some u=>
    simp[hi]at hx;subst hx;exact⟨u,by simpa using hi,gW u (aCG.1 fS u (aCC hi))⟩
  ·trivial
 ·by_cases h:v.oneCell'=true
  ·exact Rel.aU (gW v h)
  ·cases v<;>simp_all [Value.oneCell',V.de,Rel,cH,bB]
def nU(sv:Nat→Value)(a:Act)(i:Nat):Value:=if 100000≤i∧a.tmps.size≤i then sv (i-100000)else a.tmps.getD i undef
theorem JQ{sv:Nat→Value}{a:Act}{i:Nat}(h:i<100000∨i<a.tmps.size):nU sv a i=a.tmps.getD i undef:=aCo (by omega)
theorem oJ(a:Act)(i:Nat):nU (fun _=>undef) a i=a.tmps.getD i undef:=by
 unfold nU
 split
 ·rename_i h
  rw[aDr,aD1 h.2];rfl
 ·rfl
theorem kK{E:Env}{s:St}{sv:Nat→Value}{a:Act}(h:∀i,Rel E (s.t i) (nU sv a i))(x:Operand):Rel E (s.ev x) (a.eval x):=by
 cases x with
 | tmp i=>
  show Rel E (if i<100000 then s.t i else .dead) (a.tmps.getD i undef)
  split
  ·rename_i hi
   have:=h i
   rwa [JQ (.inl hi)]at this
  ·trivial
 | const v=>exact T9 v
 | func f=>exact⟨#[],rfl,rfl,fun i x hx=>by simp at hx⟩
 | global g=>trivial
section
variable {P:Program} {E:Env}
theorem j7{t:TypeId}{n:Nat}(h:aB P t=n)(hn:0<n):∃i,P.info? t=some i∧i.size=n:=by
 unfold aB at h;cases hi:P.info? t with
 | none=>simp[hi]at h;omega
 | some i=>exact⟨i,rfl,by simpa [hi]using h⟩
theorem xo{ob:Ob}{b:Nat}(h:sR E ob (some b)){i:Nat}{row:List V}(hi:ob.rows[i]? = some row):
  ∃f:Nat→Value,row.length=ob.es∧∀(j:Nat) (x:V),row[j]? = some x→E.w.cell? ⟨b,i*ob.es+j,none⟩=some (f j)∧(f j).oneCell'=true∧bB E x (f j)∧(ob.imp=false→bh E.w E.A x (f j)):=by
 obtain⟨_,cur,hh,bQ,hlen,hc⟩:=h;refine⟨fun j=>(cur[i*ob.es+j]?).getD undef,bQ row (aCC hi),fun j x hx=>?_⟩;obtain⟨v,c1,c2,c3,c4⟩:=hc i row hi j x hx;refine⟨?_,by simpa [c1]using c2,by simpa [c1]using c3,fun h=>by simpa [c1]using c4 h⟩;rw[cell_of_row E.w b _ cur ob.ty (0,0) hh,c1];simp[c1]
theorem Dl{t:TypeId}{p:Prop}{imp:Bool}{row:List V}{j:Nat}{q:Prop}{v:V}{b off:Nat}(f:Nat→Value)
  (hc:∀(k:Nat) (x:V),row[k]? = some x→E.w.cell? ⟨b,off+k,none⟩=some (f k)∧(f k).oneCell'=true∧bB E x (f k)∧(imp=false→bh E.w E.A x (f k)))
  (ht:0<aB P t) (hr:fD P t p imp row j=.val q v) (hq:q) :
  ∃u,(Instr.loadAt t (.pointer (some ⟨b,off+j,none⟩))).run P E.w=.ok u E.w∧Rel E v u:=by
 obtain⟨ti,rT,dC⟩:=j7 (P:=P) (t:=t) rfl ht;unfold fD at hr
 split at hr
 ·rename_i aO
  simp only[AR.val.injEq]at hr;obtain⟨rfl,rfl⟩:=hr;obtain⟨_,hle⟩:=hq;have hd:∃d,P.underlying t=some d∧d.isRow=true:=by
   unfold cK at aO
   split at aO
   ·exact⟨_,‹_›,rfl⟩
   ·exact⟨_,‹_›,rfl⟩
   ·cases aO
  obtain⟨d,hu,hd⟩:=hd;have hlen:(cut row j (aB P t)).length=aB P t:=by simp[cut];omega
  have xj:Cells E imp (cut row j (aB P t)) ((List.range (aB P t)).map fun k=>f (j+k)):=by
   refine⟨by simp[hlen],fun i x hx=>?_⟩;have hi:i<aB P t:=by
    have:=(aCD.1 hx).1;omega
   have sG:row[j+i]? = some x:=by
    simp only[cut,aDs,aDQ]at hx;rw[aCr hi]at hx;exact hx
   obtain⟨c1,c2,c3,c4⟩:=hc (j+i) x sG;exact⟨f (j+i),by simp[hi],c2,c3,c4⟩
  refine⟨_,run_loadAt_mid E.w b (off+j) t _ d (fun k u hk=>?_) hu hd (by simp[rT,dC]),xj.rel⟩;have oY:k<aB P t:=by
   have:=(aCD.1 hk).1;simpa using this
  obtain⟨x,hx⟩:∃x,row[j+k]? = some x:=⟨row[j+k]'(by omega),aCF _⟩;have c1:=(hc (j+k) x hx).1;simp[oY]at hk;subst hk;rw[← c1]
  congr 2
  omega
 ·rename_i aO
  split at hr<;>try (cases hr;done)
  split at hr
  ·rename_i x hx
   split at hr<;>try (cases hr;done)
   simp only[AR.val.injEq]at hr;obtain⟨rfl,rfl⟩:=hr;obtain⟨c1,c2,c3,c4⟩:=hc j x hx;refine⟨f j,?_,Rel.Fl c3⟩;have awU:(isAgg t).run P E.w=.ok false E.w:=by
    unfold cK at aO;obtain⟨d,hu⟩:=aDS.1 (show(P.underlying t).isSome=true by assumption);unfold isAgg;rw[Sem.run_bind,run_underlying hu E.w];cases d<;>simp_all
   simp[Instr.loadAt,Instr.sureAddr,loadVar,awU,load,Sem.run,c1]
  ·cases hr
theorem Dn{t:TypeId}(H:cz E){x:V}{u:Value}{p:Prop}{v:V}(hx:Rel E x u)(ht:0<aB P t)(hr:ic P E.h t x=.val p v)(hp:p):
  ∃r,(Instr.loadAt t u).run P E.w=.ok r E.w∧Rel E v r:=by
 unfold ic at hr
 split at hr
 ·rename_i o n i j
  split at hr<;>try (cases hr;done)
  rename_i ob ho
  split at hr<;>try (cases hr;done)
  rename_i row aO;have hpp:n=ob.rows.length:=by
   unfold fD at hr
   split at hr
   ·simp only[AR.val.injEq]at hr;rw[← hr.1]at hp;exact hp.1
   ·split at hr<;>try (cases hr;done)
    split at hr<;>try (cases hr;done)
    split at hr<;>try (cases hr;done)
    simp only[AR.val.injEq]at hr;rw[← hr.1]at hp;exact hp
  obtain⟨b,hb,rfl⟩:=(hx ob ho).2 hpp;have aX:=H.ok o ob ho;rw[hb]at aX;obtain⟨f,_,hc⟩:=xo aX aO;exact Dl f hc ht hr hp
 ·rename_i row j
  obtain⟨b,off,f,rfl,_,_,hc,hrel⟩:=hx;exact Dl f (fun k x hk=>⟨hc k x hk,(hrel k x hk).fH,bB.aU (hrel k x hk),fun _=>hrel k x hk⟩) ht hr hp
 ·cases hr
theorem o4:∀{xs ys:List V} {b:Bool},eT xs ys=some b→xs.length=ys.length
 | [],[],_,_=>rfl
 | .int k a::xs,.int k' c::ys,b,h=>by
  simp only[eT]at h
  split at h<;>try (cases h;done)
  cases hr:eT xs ys with
  | none=>simp[hr]at h
  | some r=>simp[o4 hr]
 | .bool a::xs,.bool c::ys,b,h=>by
  simp only[eT]at h;cases hr:eT xs ys with
  | none=>simp[hr]at h
  | some r=>simp[o4 hr]
theorem o5:∀{xs gR ys ys':List V} {b:Bool},xs.length=ys.length→eT (xs++gR) (ys++ys')=some b→
  ∃c d,eT xs ys=some c∧eT gR ys'=some d∧b=(c&&d)
 | [],gR,[],ys',b,_,h=>⟨true,b,rfl,h,by simp⟩
 | x::xs,gR,y::ys,ys',b,hl,h=>by
  have DR:xs.length=ys.length:=by simpa using hl
  cases x<;>cases y<;>simp only[aDC,eT]at h<;>try (cases h;done)
  case int.int k a k' c=>
   split at h<;>try (cases h;done)
   rename_i hk;cases hr:eT (xs++gR) (ys++ys')with
   | none=>simp[hr]at h
   | some r=>
    simp[hr]at h;obtain⟨e,d,h1,h2,h3⟩:=o5 DR hr;exact⟨a == c&&e,d,by simp[eT,hk,h1],h2,by rw[← h,h3,Bool.and_assoc]⟩
  case bool.bool a c=>
   cases hr:eT (xs++gR) (ys++ys')with
   | none=>simp[hr]at h
   | some r=>
    simp[hr]at h;obtain⟨e,d,h1,h2,h3⟩:=o5 DR hr;exact⟨a == c&&e,d,by simp[eT,h1],h2,by rw[← h,h3,Bool.and_assoc]⟩
theorem jA:∀{xs ys:List V} {b:Bool},eT xs ys=some b→(xs.filterMap fE).length=xs.length
 | [],[],_,_=>rfl
 | .int k a::xs,.int k' c::ys,b,h=>by
  simp only[eT]at h
  split at h<;>try (cases h;done)
  cases hr:eT xs ys with
  | none=>simp[hr]at h
  | some r=>simp[fE,jA hr]
 | .bool a::xs,.bool c::ys,b,h=>by
  simp only[eT]at h;cases hr:eT xs ys with
  | none=>simp[hr]at h
  | some r=>simp[fE,jA hr]
def valOf(P:Program)(t:TypeId)(cs:List Value):Value:=if cK P t then .agg cs.toArray else cs.headD undef
def oD(w:World)(A:Nat→Prop)(xs:List V)(vs:List Value):Prop:=vs.length=xs.length∧∀(i:Nat) (x:V),xs[i]? = some x→∃u,vs[i]? = some u∧bh w A x u
theorem oD.take{w:World}{A:Nat→Prop}{xs:List V}{vs:List Value}(h:oD w A xs vs)(n:Nat):oD w A (xs.take n) (vs.take n):=by
 refine⟨by simp[h.1],fun i x hx=>?_⟩;rw[aDs]at hx
 split at hx<;>try (cases hx;done)
 rename_i hi;obtain⟨u,h1,h2⟩:=h.2 i x hx;exact⟨u,by rw[aDs,aCr hi];exact h1,h2⟩
theorem oD.drop{w:World}{A:Nat→Prop}{xs:List V}{vs:List Value}(h:oD w A xs vs)(n:Nat):oD w A (xs.drop n) (vs.drop n):=by
 refine⟨by simp[h.1],fun i x hx=>?_⟩;rw[aDQ]at hx;obtain⟨u,h1,h2⟩:=h.2 _ x hx;exact⟨u,by rw[aDQ];exact h1,h2⟩
theorem Ux{t:TypeId}{d:TypeDesc}(hu:P.underlying t=some d)(w:World):(isAgg t).run P w=.ok (cK P t) w:=by
 unfold isAgg cK;rw[Sem.run_bind,run_underlying hu w,hu];cases d<;>simp
theorem Av{t:TypeId}{w:World}{cs:List Value}{off n:Nat}(hu:(P.underlying t).isSome)(hn:aB P t=n)(dD:0<n)(hle:off+n≤cs.length)(h1:cK P t=false→n=1):
  (part t cs.toArray off).run P w=.ok (valOf P t ((cs.drop off).take n)) w:=by
 obtain⟨d,hd⟩:=aDS.1 hu;obtain⟨i,hi,hs⟩:=j7 hn dD;unfold part valOf;rw[Sem.run_bind,Ux hd];cases hr:cK P t with
 | true=>
  simp[sizeOf,typeInfo,hi,hs]
 | false=>
  have hn1:=h1 hr;subst hn1;have cg:off<cs.length:=by omega
  simp[cg];cases hdr:cs.drop off with
  | nil=>simp at hdr;omega
  | cons a l=>
   have:=aCL (·[0]?) hdr;simp[cg]at this;simp[this]
theorem ajC:∀{d:Nat} {t:TypeId} {m:List Bool},eqN P d t=some m→cK P t=false→m.length=1
 | d+1,t,m,h,hr=>by
  unfold eqN at h;unfold cK at hr
  split at h
  ·cases h;rfl
  ·cases h;rfl
  ·rename_i hu;rw[hu]at hr;cases hr
  ·cases h
theorem abx:∀{d:Nat} {t:TypeId} {m:List Bool},eqN P d t=some m→(P.underlying t).isSome
 | d+1,t,m,h=>by
  unfold eqN at h
  split at h<;>first | (rename_i hu;rw[hu];rfl) | cases h
theorem yY{xs:List V}{m rest:List Bool}(hl:(xs.filterMap fE).length=xs.length)(h:xs.filterMap fE=m++rest):(xs.take m.length).filterMap fE=m∧(xs.drop m.length).filterMap fE=rest:=by
 induction m generalizing xs with
 | nil=>simpa using h
 | cons b m ih=>
  cases xs with
  | nil=>simp at h
  | cons x xs=>
   cases hk:fE x with
   | none=>
    simp[hk]at hl;have:=List.length_filterMap_le fE xs;omega
   | some c=>
    simp only[aEg,hk,aCv,Nat.add_right_cancel_iff]at hl;simp[hk]at h;obtain⟨h1,h2⟩:=h;obtain⟨i1,i2⟩:=ih hl h2;refine⟨?_,by simpa using i2⟩;simp[hk,i1,h1]
theorem uw(A:Nat→Prop)(w0:World)(d D:Nat)(asJ:∀(t:TypeId) (m:List Bool),eqN P d t=some m→∀(xs ys:List V) (cx cy:List Value) (b:Bool),oD w0 A xs cx→oD w0 A ys cy→xs.filterMap fE=m→eT xs ys=some b→
   ∀w,(Op.equalIn D t (valOf P t cx) (valOf P t cy)).run P w=.ok b w) :
  ∀(fs:List Field) (off:Nat) (m:List Bool),UZ P (eqN P d) fs off=some m→∀(xs ys:List V) (cx cy:List Value) (b:Bool),oD w0 A xs cx→oD w0 A ys cy→(xs.drop off).filterMap fE=m→eT (xs.drop off) (ys.drop off)=some b→
   ∀w,(Op.eqFields D cx.toArray cy.toArray fs).run P w=.ok b w
 | [],off,m,h,xs,ys,cx,cy,b,_,_,hk,he,w=>by
  simp only[UZ,aCA]at h;subst h;have hl:=jA he;rw[hk]at hl;have h0:xs.drop off=[]:=aCX (by simpa using hl.symm);have h1:ys.drop off=[]:=aCX (by have:=o4 he;rw[h0]at this;simpa using this.symm);rw[h0,h1]at he;simp[eT]at he;subst he;simp[Op.eqFields]
 | f::fs,off,m,h,xs,ys,cx,cy,b,hx,hy,hk,he,w=>by
  simp only[UZ]at h
  split at h<;>try (cases h;done)
  rename_i asV
  split at h<;>try (cases h;done)
  rename_i mf hmf
  split at h<;>try (cases h;done)
  rename_i dC;cases Bf:UZ P (eqN P d) fs (off+mf.length)with
  | none=>simp[Bf]at h
  | some mr=>
   simp[Bf]at h;subst h;have wK:=jA he;have hlen:=o4 he;obtain⟨k1,k2⟩:=yY wK hk;have hle:off+mf.length≤xs.length:=by
    have h2:=aCL List.length hk;rw[wK]at h2;simp at h2;omega
   have awr:off+mf.length≤ys.length:=by simp at hlen;omega
   obtain⟨oe,Rf⟩:=dC;have hu:=abx hmf;have h1:cK P f.type=false→mf.length=1:=ajC hmf;have px:=Av (P:=P) (w:=w) hu oe Rf (cs:=cx) (off:=off) (by rw[hx.1];exact hle) h1;have py:=Av (P:=P) (w:=w) hu oe Rf (cs:=cy) (off:=off) (by rw[hy.1];exact awr) h1;have he':eT (((xs.drop off).take mf.length)++((xs.drop off).drop mf.length)) (((ys.drop off).take mf.length)++((ys.drop off).drop mf.length))=some b:=by
    rw[aDx,aDx];exact he
   obtain⟨c,e,e1,e2,rfl⟩:=o5 (by simp;omega) he';have hr:=asJ f.type mf hmf _ _ _ _ c ((hx.drop off).take mf.length) ((hy.drop off).take mf.length) k1 e1 w;simp only[aEr]at e2 k2;have ht:=uw A w0 d D asJ fs (off+mf.length) mr Bf xs ys cx cy e hx hy k2 e2 w;obtain⟨hn1,rfl⟩:=asV;simp only[Op.eqFields,hn1,ne_eq,not_false_eq_true,aC5,Sem.run_bind,px,py,Result.andThen_ok,hr];cases c
   ·simp
   ·simpa using ht
theorem te(A:Nat→Prop)(w0:World):∀(d:Nat) (t:TypeId) (m:List Bool),eqN P d t=some m→∀(D:Nat),d≤D→∀(xs ys:List V) (cx cy:List Value) (b:Bool),oD w0 A xs cx→oD w0 A ys cy→xs.filterMap fE=m→eT xs ys=some b→
   ∀w,(Op.equalIn D t (valOf P t cx) (valOf P t cy)).run P w=.ok b w
 | d+1,t,m,h,D,hD,xs,ys,cx,cy,b,hx,hy,hk,he,w=>by
  obtain⟨D,rfl⟩:∃D',D=D'+1:=⟨D-1,by omega⟩;have wK:=jA he;have hlen:=o4 he;unfold eqN at h
  split at h
  ·rename_i hu
   cases h
   have hr:cK P t=false:=by unfold cK;rw[hu]
   rw[hk]at wK;cases xs with
   | nil=>simp at wK
   | cons x xs=>
    cases ys with
    | nil=>simp at hlen
    | cons y ys=>
     have hxs:xs=[]:=by simpa using wK
     have hys:ys=[]:=by simpa [hxs]using hlen
     subst hxs hys;obtain⟨u,u1,u2⟩:=hx.2 0 x rfl;obtain⟨v,v1,v2⟩:=hy.2 0 y rfl;have ex:cx.headD undef=u:=by cases cx<;>simp_all
     have ey:cy.headD undef=v:=by cases cy<;>simp_all
     unfold valOf;rw[hr];simp only[aDt,aC4,ex,ey];cases x<;>cases y<;>simp only[eT]at he<;>try (cases he;done)
     ·simp[fE]at hk
     ·cases u2;cases v2
      simp at he;rw[run_equalIn_bool' w D t _ _ hu,he]
  ·rename_i k hu
   cases h
   have hr:cK P t=false:=by unfold cK;rw[hu]
   rw[hk]at wK;cases xs with
   | nil=>simp at wK
   | cons x xs=>
    cases ys with
    | nil=>simp at hlen
    | cons y ys=>
     have hxs:xs=[]:=by simpa using wK
     have hys:ys=[]:=by simpa [hxs]using hlen
     subst hxs hys;obtain⟨u,u1,u2⟩:=hx.2 0 x rfl;obtain⟨v,v1,v2⟩:=hy.2 0 y rfl;have ex:cx.headD undef=u:=by cases cx<;>simp_all
     have ey:cy.headD undef=v:=by cases cy<;>simp_all
     unfold valOf;rw[hr];simp only[aDt,aC4,ex,ey];cases x<;>cases y<;>simp only[eT]at he<;>try (cases he;done)
     ·cases u2;cases v2
      split at he<;>try (cases he;done)
      rename_i hkk;subst hkk;simp at he;rw[run_equalIn_int w D t _ k _ _ hu,he]
     ·simp[fE]at hk
  ·rename_i fs hu
   split at h<;>try (cases h;done)
   rename_i atb;have hr:cK P t=true:=by unfold cK;rw[hu]
   unfold valOf;rw[hr];simp only[aC5];have hfs:P.fieldsOf t=fs:=by unfold Program.fieldsOf;rw[hu]
   rw[run_equalIn_struct w D t _ _ (by rw[hfs];exact hu) (by simpa using atb),hfs];exact uw A w0 d D (fun t m hm xs ys cx cy b h1 h2 h3 h4 w=>te A w0 d t m hm D (by omega) xs ys cx cy b h1 h2 h3 h4 w) fs.toList 0 m h xs ys cx cy b hx hy (by simpa using hk) (by simpa using he) w
  ·cases h
theorem oD.Ns{xs:List V}{v:Value}(h:Rel E (.agg xs) v):∃vs:Array Value,v=.agg vs∧oD E.w E.A xs vs.toList:=by
 obtain⟨vs,rfl,hs,hc⟩:=h;exact⟨vs,rfl,by simpa using hs,fun i x hx=>let ⟨u,h1,h2⟩:=hc i x hx;⟨u,by simpa using h1,h2⟩⟩
theorem MZ{op:BinOp}{k yk:IntKind}{a b:Int}{p:Prop}{v:V}(h:E0 op k a b=some (p,v))(hp:p)(w:World):∃u,(Op.shift op k a yk b).run P w=.ok u w∧bh E.w E.A v u:=by
 cases op<;>simp only[E0]at h<;>try (cases h;done)
 all_goals
  simp only[aCA,aCH]at h;obtain⟨rfl,rfl⟩:=h;have hb:¬ b<0:=by omega
  refine⟨_,?_,.int _ _⟩;simp[Op.shift,hb]
theorem YL{op:BinOp}{k:IntKind}{a b:Int}{p:Prop}{v:V}(h:ah1 op k a b=some (p,v))(hp:p)(t:TypeId)(w:World):∃u,(binOp op t (.int k a) (.int k b)).run P w=.ok u w∧bh E.w E.A v u:=by
 cases op<;>simp only[ah1]at h<;>try (cases h;done)
 all_goals
  simp only[aCA,aCH]at h;obtain⟨rfl,rfl⟩:=h
  first
  | (refine⟨_,?_,.int _ _⟩;first | (simp[binOp,Op.intArith];done) | (simp[binOp,Op.intBits];done) | (simp[binOp,Op.intDiv,hp];done))
  | (refine⟨_,?_,.bool _⟩;simp[binOp,Op.intCmp];done)
theorem nV{op:BinOp}{t:TypeId}{X Y:Operand}{a b:Value}(h:(∃k n k' m,a=.int k n∧b=.int k' m)∨∃c d,a=.bool c∧b=.bool d)(w:World):(eqGuard op t X Y a b).run P w=.ok () w:=by
 rcases h with⟨k,n,k',m,rfl,rfl⟩ | ⟨c,d,rfl,rfl⟩<;>cases op<;>simp[eqGuard]
theorem xU{t e:TypeId}(h:dH P t=some e):P.underlying t=some (.slice e):=by
 unfold dH at h
 split at h<;>first | (cases h;done) | (cases h;assumption)
theorem uv{op:BinOp}{t:TypeId}{X Y:Operand}{a:Option Addr}{l c:Nat}{q:Prop}{p:Prop}{b:Bool}{v:V}(hb:a.isNone=b)(h:uF P op t q b=some (p,v))(hp:p)(w:World):
  ∃u,((do eqGuard op t X Y (.slice a l c) (.slice none 0 0);binOp op t (.slice a l c) (.slice none 0 0)):Sem Value).run P w=.ok u w∧bh E.w E.A v u:=by
 have hg:(eqGuard op t X Y (.slice a l c) (.slice none 0 0)).run P w=.ok () w:=by cases op<;>simp[eqGuard]
 rw[Sem.run_bind,hg,Result.andThen_ok];unfold uF at h
 split at h<;>try (cases h;done)
 ·simp only[aCA,aCH]at h
  obtain⟨rfl,rfl⟩:=h;obtain⟨e,he⟩:=aDS.1 hp.2;refine⟨_,?_,.bool _⟩;simp only[binOp,Sem.run_bind,run_equal_slice_nil w t e a l c (xU he),Result.andThen_ok,Sem.run_pure,hb]
 ·simp only[aCA,aCH]at h
  obtain⟨rfl,rfl⟩:=h;obtain⟨e,he⟩:=aDS.1 hp.2;refine⟨_,?_,.bool _⟩;rw[run_neq_slice_nil w t e a l c (xU he),hb]
theorem DI{op:BinOp}{t:TypeId}{q p:Prop}{b:Bool}{v:V}(h:uF P op t q b=some (p,v))(hp:p):q:=by
 unfold uF at h
 split at h<;>first | cases h;done | (simp only[aCA,aCH]at h;rw[← h.1]at hp;exact hp.1)
theorem YM{op:BinOp}{t:TypeId}{x y:V}{X Y:Operand}{cx cy:Value}{p:Prop}{v:V}(hx:Rel E x cx)(hy:Rel E y cy)(h:Gn P op t x y=some (p,v))(hp:p)(w:World):
  ∃u,((do eqGuard op t X Y cx cy;binOp op t cx cy):Sem Value).run P w=.ok u w∧bh E.w E.A v u:=by
 unfold Gn at h
 split at h
 ·rename_i k a k' b
  cases hx;cases hy
  rw[Sem.run_bind,nV (.inl ⟨_,_,_,_,rfl,rfl⟩),Result.andThen_ok]
  split at h
  ·rename_i hs
   obtain⟨u,h1,h2⟩:=MZ (P:=P) (E:=E) (yk:=k') h hp w;refine⟨u,?_,h2⟩;rw[← h1];cases op<;>simp_all [Fw,binOp]
  ·split at h<;>try (cases h;done)
   rename_i hk;subst hk;exact YL h hp t w
 ·rename_i a b
  cases hx;cases hy
  rw[Sem.run_bind,nV (.inr ⟨_,_,rfl,rfl⟩),Result.andThen_ok]
  split at h<;>try (cases h;done)
  ·simp only[aCA,aCH]at h
   obtain⟨rfl,rfl⟩:=h;refine⟨_,?_,.bool _⟩;simp only[binOp,Op.equal,Op.maxDepth,Sem.run_bind,run_equalIn_bool' w 9999 t a b hp,Result.andThen_ok,Sem.run_pure]
  ·simp only[aCA,aCH]at h
   obtain⟨rfl,rfl⟩:=h;refine⟨_,?_,.bool _⟩;simp only[binOp,Op.equal,Op.maxDepth,Sem.run_bind,run_equalIn_bool' w 9999 t a b hp,Result.andThen_ok,Sem.run_pure];rfl
 ·rename_i xs ys
  obtain⟨vx,rfl,px⟩:=oD.Ns hx;obtain⟨vy,rfl,py⟩:=oD.Ns hy;have key:∀b,eT xs ys=some b→cK P t=true→UY P t=some (xs.filterMap fE)→P.eqGuardType P.depth t=false∧(Op.equalIn 10000 t (.agg vx) (.agg vy)).run P w=.ok b w:=by
   intro b hb aO hsh;unfold UY at hsh
   split at hsh<;>try (cases hsh;done)
   rename_i hg;refine⟨by simpa using hg,?_⟩;have:=te E.A E.w 8 t _ hsh 10000 (by omega) xs ys vx.toList vy.toList b px py rfl hb w;simpa [valOf,aO]using this
  split at h<;>try (cases h;done)
  ·cases hb:eT xs ys with
   | none=>simp[hb]at h
   | some b=>
    simp only[hb,aCU,aCA,aCH]at h;obtain⟨rfl,rfl⟩:=h;obtain⟨k1,k2⟩:=key b hb hp.1 hp.2;refine⟨_,?_,.bool _⟩;rw[Sem.run_bind,run_eqGuard_agg w _ t X Y vx vy k1,Result.andThen_ok,run_eql_struct,k2,Result.andThen_ok]
  ·cases hb:eT xs ys with
   | none=>simp[hb]at h
   | some b=>
    simp only[hb,aCU,aCA,aCH]at h;obtain⟨rfl,rfl⟩:=h;obtain⟨k1,k2⟩:=key b hb hp.1 hp.2;refine⟨_,?_,.bool _⟩;rw[Sem.run_bind,run_eqGuard_agg w _ t X Y vx vy k1,Result.andThen_ok,run_neq_struct,k2,Result.andThen_ok]
 ·cases hx;cases hy
  exact uv rfl h hp w
 ·cases hy
  rename_i rows;have ec:=DI h hp;cases hx with
  | slnil a=>exact absurd rfl ec
  | sl _ b off cap es f jy hb bQ hc hr=>exact uv rfl h hp w
 ·cases hy
  rename_i rows;have ec:=DI h hp;rcases hx with⟨_,rfl⟩ | ⟨b,off,cap,es,f,rfl,_⟩
  ·exact absurd rfl ec
  ·exact uv rfl h hp w
 ·cases hy
  cases hx
  exact uv rfl h hp w
 ·cases h
theorem KQ(f:Array Value→Value×Nat→Array Value)(off:Nat)(hf:∀cs c j,f cs (c,j)=cs.setIfInBounds (off+j) c):∀(vs:List Value) (k:Nat) (cells:Array Value),off+k+vs.length≤cells.size→
  ((vs.zipIdx k).foldl f cells).size=cells.size∧∀i,((vs.zipIdx k).foldl f cells)[i]? = if off+k≤i∧i<off+k+vs.length then vs[i-(off+k)]? else cells[i]?
 | [],k,cells,_=>⟨rfl,fun i=>by simp only[List.zipIdx_nil,List.foldl_nil,aCB];rw[aCo (by omega)]⟩
 | v::vs,k,cells,h=>by
  simp only[List.zipIdx_cons,aDH,hf,aCv]at h ⊢;obtain⟨h1,h2⟩:=KQ f off hf vs (k+1) (cells.setIfInBounds (off+k) v) (by simp;omega);refine⟨by rw[h1];simp,fun i=>?_⟩;rw[h2 i];by_cases c1:off+(k+1)≤i∧i<off+(k+1)+vs.length
  ·rw[aCr c1,aCr (by omega),show i-(off+k)=(i-(off+(k+1)))+1 from by omega]
   simp
  ·rw[aCo c1]
   by_cases c2:i=off+k
   ·subst c2
    rw[aCr (by omega)];simp only[aD2,List.getElem?_cons_zero];rw[Array.getElem?_setIfInBounds_self_of_lt (by omega)]
   ·rw[aCo (by omega),Array.getElem?_setIfInBounds_ne (by omega)]
theorem tx{E:Env}{imp:Bool}{place place':Nat→Option (Nat×Nat)}(hpp:∀i q,place i=some q→place' i=some q):∀(parts:List (Nat×V)) (cparts:List (Nat×Value)) (cs fj:List V) (vs:Array Value),
  cparts.length=parts.length→(∀(i:Nat) (q:Nat×V),parts[i]? = some q→∃u,cparts[i]? = some (q.1,u)∧Cells E imp q.2.cells u.cells.toList)→
  Cells E imp cs vs.toList→lK place cs parts=some fj→∃cI:Array Value,Instr.fill place' vs cparts=some cI∧Cells E imp fj cI.toList
 | [],cparts,cs,fj,vs,hl,_,hc,h=>by
  have:cparts=[]:=aCX (by simpa using hl);subst this;simp only[lK,aCA]at h;subst h;exact⟨vs,rfl,hc⟩
 | (i,x)::parts,[],cs,fj,vs,hl,_,_,_=>by simp at hl
 | (i,x)::parts,(i',u)::cparts,cs,fj,vs,hl,hp,hc,h=>by
  obtain⟨u',h1,h2⟩:=hp 0 (i,x) rfl;simp only[List.getElem?_cons_zero,aCA,aCH]at h1;obtain⟨rfl,rfl⟩:=h1;simp only[lK]at h
  split at h
  ·cases h
  rename_i off size hpl
  split at h<;>try (cases h;done)
  rename_i dC;obtain⟨z1,z2⟩:=dC;have ja:u.cells.size=x.cells.length:=by simpa using h2.1
  have xg:vs.size=cs.length:=by simpa using hc.1
  have fs:=KQ (fun cs (c,j)=>cs.setIfInBounds (off+j) c) off (fun _ _ _=>rfl) u.cells.toList 0 vs (by simp[ja];omega);have aoB:Cells E imp (putAt cs off x.cells) (((u.cells.toList.zipIdx 0).foldl (fun cs (c,j)=>cs.setIfInBounds (off+j) c) vs)).toList:=by
   refine⟨?_,fun n z hz=>?_⟩
   ·have:=fs.1
    simp only[aDM,this,putAt,aCp,aCV,aC2];omega
   ·have g:=fs.2 n
    simp only[aEs,aDM]at g;rw[aDy,g];simp only[putAt,aDg]at hz;by_cases c1:n<off
    ·rw[aC6 (by simp;omega),aDs,aCr c1]at hz
     rw[aCo (by omega)];simpa using hc.2 n z hz
    ·rw[aCY (by simp;omega)]at hz
     simp only[aCV,show min off cs.length=off from by omega]at hz;by_cases c2:n-off<x.cells.length
     ·rw[aC6 c2]at hz
      rw[aCr (by omega)];exact h2.2 _ z hz
     ·rw[aCY (by omega),aDQ]at hz
      rw[aCo (by omega)];have:=hc.2 _ z hz;rw[show off+x.cells.length+(n-off-x.cells.length)=n from by omega]at this;simpa using this
  obtain⟨cI,g1,g2⟩:=tx hpp parts cparts _ fj _ (by simpa using hl) (fun n q hq=>hp (n+1) q hq) aoB h;refine⟨cI,?_,g2⟩;simp only[Instr.fill,hpp _ _ hpl];rw[aCo (by simp[ja];omega)];rw[← g1]
  congr 1
  rw[← Array.foldl_toList];simp
theorem fT{t e:TypeId}(h:dH P t=some e):P.underlying t=some (.slice e):=by
 unfold dH at h
 split at h<;>simp_all
theorem gT{P:Program}{s:Sem Value}{w w':World}{u:Value}(h:s.run P w=.ok u w'):((do pure (Next.value (← s))):Sem Next).run P w=.ok (.value u) w':=by
 rw[Sem.run_bind,h];rfl
theorem xL{t:TypeId}{f off:Nat}{ft:TypeId}(h:eR P t f=some (off,ft))(b o:Nat)(w:World):
  (Instr.fieldAt t (.pointer (some ⟨b,o,none⟩)) f).run P w=.ok (.pointer (some ⟨b,o+off,none⟩)) w:=by
 unfold eR at h
 split at h<;>try (cases h;done)
 rename_i fs hu;cases hf:fs[f]? with
 | none=>simp[hf]at h
 | some fd=>
  cases hi:P.info? fd.type with
  | none=>simp[hf,hi]at h
  | some i=>
   simp only[hf,hi,aDd]at h
   split at h<;>try (cases h;done)
   rename_i hs;simp only[aCA,aCH]at h;obtain⟨rfl,rfl⟩:=h;simp only[Instr.fieldAt,Sem.run_bind,run_underlying hu,Result.andThen_ok,hf,Instr.sureAddr,Sem.run_pure,fieldPlace,sizeOf,typeInfo];simp[hi,hs,Addr.add_mid]
theorem Dm{t:TypeId}{f off:Nat}{ft:TypeId}(h:eR P t f=some (off,ft))(hu2:(P.underlying ft).isSome)(cs:Array Value)(hle:off+aB P ft≤cs.size)(h1:cK P ft=false→aB P ft=1)(w:World):
  (Instr.field t (.agg cs) f).run P w=.ok (valOf P ft ((cs.toList.drop off).take (aB P ft))) w:=by
 unfold eR at h
 split at h<;>try (cases h;done)
 rename_i fs hu;cases hf:fs[f]? with
 | none=>simp[hf]at h
 | some fd=>
  cases hi:P.info? fd.type with
  | none=>simp[hf,hi]at h
  | some i=>
   simp only[hf,hi,aDd]at h
   split at h<;>try (cases h;done)
   rename_i hs;simp only[aCA,aCH]at h;obtain⟨rfl,rfl⟩:=h;have hp:=Av (P:=P) (w:=w) (cs:=cs.toList) (off:=fd.offset) hu2 rfl (by unfold aB;simp[hi];omega) (by simpa using hle) h1;simp only[Instr.field,Sem.run_bind,run_underlying hu,Result.andThen_ok,hf,asAgg,Sem.run_pure];simpa using hp
theorem E4{t e:TypeId}{m:Nat}(ht:Em P t=some (m,e))(hs:0<aB P e){k:IntKind}{i:Int}(b off:Nat)(h0:0≤i)(h1:i<m)(w:World):
  (Instr.indexAt t (.pointer (some ⟨b,off,none⟩)) (.int k i)).run P w=.ok (.pointer (some ⟨b,off+i.toNat*aB P e,none⟩)) w:=by
 obtain⟨ti,rT,dC⟩:=j7 (P:=P) (t:=e) rfl hs;have hu:P.underlying t=some (.array m e):=by
  unfold Em at ht
  split at ht<;>cases ht
  assumption
 simp only[Instr.indexAt,Sem.run_bind,asIntOf,Sem.run_pure,Result.andThen_ok,run_underlying hu];simp[h0,h1,sizeOf,typeInfo,rT,dC,Addr.add_mid,Instr.sureAddr]
theorem xK{t e:TypeId}(ht:dH P t=some e)(hs:0<aB P e){k:IntKind}{i:Int}(b off len cap:Nat)(h0:0≤i)(h1:i<len)(w:World):
  (Instr.indexAt t (.slice (some ⟨b,off,none⟩) len cap) (.int k i)).run P w=.ok (.pointer (some ⟨b,off+i.toNat*aB P e,none⟩)) w:=by
 obtain⟨ti,rT,dC⟩:=j7 (P:=P) (t:=e) rfl hs;have hu:=fT ht;simp only[Instr.indexAt,Sem.run_bind,asIntOf,Sem.run_pure,Result.andThen_ok,run_underlying hu];simp[h0,h1,sizeOf,typeInfo,rT,dC,Addr.add_mid]
end
end Go.AL
