/- AI. -/
import Derived.Test.YtfggefeflojnkaaGreatAlOps
namespace Go.AL
def St.ev(s:St):Operand→V
 | .tmp i=>if i<100000 then s.t i else .dead
 | .const v=>.oD v
 | .func f=>.fn f []
 | .global _=>.dead
theorem bw.aN{E:Env}{x:V}{v:Value}(h:aY E.w E.A x v):bw E x v:=by cases h<;>first | exact .int _ _ | exact .bool _ | exact .str _ | exact .nil | exact .slnil _ | (exact .raw _ ‹_›) | (exact .sl _ _ _ _ _ _ ‹_› ‹_› ‹_› ‹_› ‹_›)
theorem cD.aN{E:Env}{x:V}{v:Value}(h:aY E.w E.A x v):cD E x v:=by cases h<;>first | exact .int _ _ | exact .bool _ | exact .str _ | exact .nil | exact .slnil _ | (exact .raw _ ‹_›) | (exact .sl _ _ _ _ _ _ ‹_› ‹_› ‹_› ‹_› ‹_›)
theorem Rel.aN{E:Env}{x:V}{v:Value}(h:aY E.w E.A x v):Rel E x v:=by cases h<;>first | exact .int _ _ | exact .bool _ | exact .str _ | exact .nil | exact .slnil _ | (exact .raw _ ‹_›) | (exact .sl _ _ _ _ _ _ ‹_› ‹_› ‹_› ‹_› ‹_›)
theorem Rel.FN{E:Env}{x:V}{v:Value}(h:bw E x v):Rel E x v:=by
 cases x<;>first | exact h | (cases h;done)
theorem ic{w:World}{A:Nat→Prop}(v:Value)(h:v.oneCell'=true):aY w A (.db v) v:=by
 unfold V.db
 split<;>first | exact .int _ _ | exact .bool _ | exact .str _ | exact .nil | (rw[azE h];exact .raw _ h)
def Cells(E:Env)(imp:Bool)(cs:List V)(vs:List Value):Prop:=
 vs.length=cs.length∧∀(i:Nat) (x:V),cs[i]? = some x→∃u,vs[i]? = some u∧u.oneCell'=true∧bw E x u∧(imp=false→aY E.w E.A x u)
theorem Cells.rel{E:Env}{imp:Bool}{cs:List V}{vs:List Value}(h:Cells E imp cs vs):Rel E (np imp cs) (.agg vs.toArray):=by
 cases imp
 ·exact⟨vs.toArray,rfl,by simpa using h.1,fun i x hx=>let ⟨u,h1,_,_,h4⟩:=h.2 i x hx;⟨u,by simpa using h1,h4 rfl⟩⟩
 ·exact⟨vs.toArray,rfl,by simpa using h.1,fun i x hx=>let ⟨u,h1,h2,h3,_⟩:=h.2 i x hx;⟨u,by simpa using h1,h2,h3⟩⟩
theorem Cells.FO{E:Env}{x:V}{v:Value}(h:Rel E x v)(hs:x.fC E.h):Cells E (!x.pure) x.cells v.cells.toList:=by
 have single:∀(y:V),x.cells=[y]→v.cells=#[v]→v.oneCell'=true→bw E y v→(x.pure=true→aY E.w E.A y v)→Cells E (!x.pure) x.cells v.cells.toList:=by
  intro y hx hv h1 hr hp;rw[hx,hv];refine⟨rfl,fun i z hz=>?_⟩;grind
 cases x with
 | agg cs=>
  obtain⟨vs,rfl,hs,hc⟩:=h;refine⟨by simpa [Value.cells,V.cells]using hs,fun i x hx=>?_⟩;obtain⟨u,c1,c2⟩:=hc i x hx;exact⟨u,by simpa [Value.cells]using c1,c2.gT,bw.aN c2,fun _=>c2⟩
 | eA cs=>
  obtain⟨vs,rfl,hs,hc⟩:=h;refine⟨by simpa [Value.cells,V.cells]using hs,fun i x hx=>?_⟩;obtain⟨u,c1,c2,c3⟩:=hc i x hx;exact⟨u,by simpa [Value.cells]using c1,c2,c3,fun h=>by simp[V.pure]at h⟩
 | int k n=>cases h;exact single _ rfl rfl rfl (.int k n) (fun _=>.int k n)
 | bool b=>cases h;exact single _ rfl rfl rfl (.bool b) (fun _=>.bool b)
 | str s=>cases h;exact single _ rfl rfl rfl (.str s) (fun _=>.str s)
 | nil=>cases h;exact single _ rfl rfl rfl .nil (fun _=>.nil)
 | raw u=>
  have h':aY E.w E.A (.raw u) v:=h;cases h' with
  | raw _ h2=>exact single (.raw v) rfl (by cases v<;>first | rfl | (simp[Value.oneCell']at h2)) h2 (.raw v h2) (fun _=>.raw v h2)
 | sl rows=>
  have h':aY E.w E.A (.sl rows) v:=h;exact single (.sl rows) rfl (by cases h'<;>rfl) h'.gT h (fun _=>h)
 | rd rows=>
  have hv:v.cells=#[v]∧v.oneCell'=true:=by rcases h with⟨⟨_,rfl⟩,_⟩ | ⟨_,_,_,_,_,rfl,_⟩<;>exact⟨rfl,rfl⟩
  exact single (.rd rows) rfl hv.1 hv.2 h (fun h=>by simp[V.pure]at h)
 | ref o n=>
  obtain⟨ob,ho,hn⟩:=hs;have h2:=(h ob ho).2 hn;have hv:v.cells=#[v]∧v.oneCell'=true:=by
   cases hb:E.β o with
   | none=>rw[hb]at h2;subst h2;exact⟨rfl,rfl⟩
   | some b=>rw[hb]at h2;obtain⟨_,_,rfl,_⟩:=h2;exact⟨rfl,rfl⟩
  exact single (.ref o n) rfl hv.1 hv.2 h (fun h=>by simp[V.pure]at h)
 | ptr o n i j=>
  obtain⟨ob,ho,hn⟩:=hs;obtain⟨b,_,rfl⟩:=(h ob ho).2 hn;exact single (.ptr o n i j) rfl rfl rfl h (fun h=>by simp[V.pure]at h)
 | kI xs=>exact hs.elim
 | fn f cs=>exact hs.elim
 | cp row j=>exact hs.elim
 | dead=>exact hs.elim
theorem Tf{E:Env}(v:Value):Rel E (.oD v) v:=by
 unfold V.oD
 split
 ·rename_i cs
  split
  ·rename_i fQ
   refine⟨cs,rfl,by simp,fun i x hx=>?_⟩;rw[aAv]at hx;cases hi:cs.toList[i]? with
   | none=>grind
   | some u=>
    simp[hi]at hx;subst hx;exact⟨u,by simpa using hi,ic u (azU.1 fQ u (azO hi))⟩
  ·trivial
 ·by_cases h:v.oneCell'=true
  ·grind[Rel.aN,ic]
  ·cases v<;>simp_all [Value.oneCell',V.db,Rel,cD,bw]
def nk(sv:Nat→Value)(a:Act)(i:Nat):Value:=if 100000≤i∧a.tmps.size≤i then sv (i-100000)else a.tmps.getD i undef
theorem Jw{sv:Nat→Value}{a:Act}{i:Nat}(h:i<100000∨i<a.tmps.size):nk sv a i=a.tmps.getD i undef:=azD (by omega)
theorem kS(a:Act)(i:Nat):nk (fun _=>undef) a i=a.tmps.getD i undef:=by
 grind[nk]
theorem kB{E:Env}{s:St}{sv:Nat→Value}{a:Act}(h:∀i,Rel E (s.t i) (nk sv a i))(x:Operand):Rel E (s.ev x) (a.eval x):=by
 cases x with
 | tmp i=>
  show Rel E (if i<100000 then s.t i else .dead) (a.tmps.getD i undef)
  split
  ·grind[Jw]
  ·trivial
 | const v=>exact Tf v
 | func f=>exact⟨#[],rfl,rfl,fun i x hx=>by simp at hx⟩
 | global g=>trivial
section
variable {P:Program} {E:Env}
theorem kf{t:TypeId}{n:Nat}(h:aq P t=n)(hn:0<n):∃i,P.info? t=some i∧i.size=n:=by
 unfold aq at h;cases hi:P.info? t with
 | none=>grind
 | some i=>grind
theorem xi{ob:Ob}{b:Nat}(h:si E ob (some b)){i:Nat}{row:List V}(hi:ob.rows[i]? = some row):
  ∃f:Nat→Value,row.length=ob.es∧∀(j:Nat) (x:V),row[j]? = some x→E.w.cell? ⟨b,i*ob.es+j,none⟩=some (f j)∧(f j).oneCell'=true∧bw E x (f j)∧(ob.imp=false→aY E.w E.A x (f j)):=by
 obtain⟨_,cur,hh,bI,hlen,hc⟩:=h;refine⟨fun j=>(cur[i*ob.es+j]?).getD undef,bI row (azO hi),fun j x hx=>?_⟩;obtain⟨v,c1,c2,c3,c4⟩:=hc i row hi j x hx;refine⟨?_,by simpa [c1]using c2,by simpa [c1]using c3,fun h=>by simpa [c1]using c4 h⟩;rw[cell_of_row E.w b _ cur ob.ty (0,0) hh,c1];simp[c1]
theorem DR{t:TypeId}{p:Prop}{imp:Bool}{row:List V}{j:Nat}{q:Prop}{v:V}{b off:Nat}(f:Nat→Value)
  (hc:∀(k:Nat) (x:V),row[k]? = some x→E.w.cell? ⟨b,off+k,none⟩=some (f k)∧(f k).oneCell'=true∧bw E x (f k)∧(imp=false→aY E.w E.A x (f k)))
  (ht:0<aq P t) (hr:fF P t p imp row j=.val q v) (hq:q) :
  ∃u,(Instr.loadAt t (.pointer (some ⟨b,off+j,none⟩))).run P E.w=.ok u E.w∧Rel E v u:=by
 obtain⟨ti,ra,dO⟩:=kf (P:=P) (t:=t) rfl ht;unfold fF at hr
 split at hr
 ·rename_i aK
  simp only[AR.val.injEq]at hr;obtain⟨rfl,rfl⟩:=hr;obtain⟨_,hle⟩:=hq;have hd:∃d,P.underlying t=some d∧d.isRow=true:=by
   grind[cE]
  obtain⟨d,hu,hd⟩:=hd;have hlen:(cut row j (aq P t)).length=aq P t:=by grind[cut]
  have uR:Cells E imp (cut row j (aq P t)) ((List.range (aq P t)).map fun k=>f (j+k)):=by
   refine⟨by simp[hlen],fun i x hx=>?_⟩;have hi:i<aq P t:=by
    grind
   have hx':row[j+i]? = some x:=by
    simp only[cut,aAx,aAM]at hx;grind
   grind
  refine⟨_,run_loadAt_mid E.w b (off+j) t _ d (fun k u hk=>?_) hu hd (by grind),uR.rel⟩;have wv:k<aq P t:=by
   grind
  obtain⟨x,hx⟩:∃x,row[j+k]? = some x:=⟨row[j+k]'(by omega),azS _⟩;grind
 ·rename_i aK
  split at hr<;>try (cases hr;done)
  split at hr
  ·rename_i x hx
   split at hr<;>try (cases hr;done)
   simp only[AR.val.injEq]at hr;obtain⟨rfl,rfl⟩:=hr;obtain⟨c1,c2,c3,c4⟩:=hc j x hx;refine⟨f j,?_,Rel.FN c3⟩;have aup:(isAgg t).run P E.w=.ok false E.w:=by
    unfold cE at aK;obtain⟨d,hu⟩:=aA1.1 (show(P.underlying t).isSome=true by assumption);unfold isAgg;rw[Sem.run_bind,run_underlying hu E.w];cases d<;>simp_all
   simp[Instr.loadAt,Instr.sureAddr,loadVar,aup,load,Sem.run,c1]
  ·cases hr
theorem DT{t:TypeId}(H:bU E){x:V}{u:Value}{p:Prop}{v:V}(hx:Rel E x u)(ht:0<aq P t)(hr:iy P E.h t x=.val p v)(hp:p):
  ∃r,(Instr.loadAt t u).run P E.w=.ok r E.w∧Rel E v r:=by
 unfold iy at hr
 split at hr
 ·rename_i o n i j
  split at hr<;>try (cases hr;done)
  rename_i ob ho
  split at hr<;>try (cases hr;done)
  rename_i row aK;have VW:n=ob.rows.length:=by
   grind[fF]
  obtain⟨b,hb,rfl⟩:=(hx ob ho).2 VW;have aO:=H.ok o ob ho;rw[hb]at aO;obtain⟨f,_,hc⟩:=xi aO aK;exact DR f hc ht hr hp
 ·rename_i row j
  obtain⟨b,off,f,rfl,_,_,hc,hrel⟩:=hx;exact DR f (fun k x hk=>⟨hc k x hk,(hrel k x hk).gT,bw.aN (hrel k x hk),fun _=>hrel k x hk⟩) ht hr hp
 ·cases hr
theorem oP:∀{xs ys:List V} {b:Bool},eV xs ys=some b→xs.length=ys.length
 | [],[],_,_=>rfl
 | .int k a::xs,.int k' c::ys,b,h=>by
  simp only[eV]at h
  split at h<;>try trivial
  cases hr:eV xs ys with
  | none=>grind
  | some r=>simp[oP hr]
 | .bool a::xs,.bool c::ys,b,h=>by
  simp only[eV]at h;cases hr:eV xs ys with
  | none=>grind
  | some r=>simp[oP hr]
theorem oQ:∀{xs gZ ys ys':List V} {b:Bool},xs.length=ys.length→eV (xs++gZ) (ys++ys')=some b→
  ∃c d,eV xs ys=some c∧eV gZ ys'=some d∧b=(c&&d)
 | [],gZ,[],ys',b,_,h=>⟨true,b,rfl,h,by simp⟩
 | x::xs,gZ,y::ys,ys',b,hl,h=>by
  have Du:xs.length=ys.length:=by grind
  cases x<;>cases y<;>simp only[aAS,eV]at h<;>try trivial
  case int.int k a k' c=>
   split at h<;>try trivial
   rename_i hk;cases hr:eV (xs++gZ) (ys++ys')with
   | none=>grind
   | some r=>
    simp[hr]at h;obtain⟨e,d,h1,h2,h3⟩:=oQ Du hr;grind[eV]
  case bool.bool a c=>
   cases hr:eV (xs++gZ) (ys++ys')with
   | none=>grind
   | some r=>
    simp[hr]at h;obtain⟨e,d,h1,h2,h3⟩:=oQ Du hr;grind[eV]
theorem jP:∀{xs ys:List V} {b:Bool},eV xs ys=some b→(xs.filterMap fG).length=xs.length
 | [],[],_,_=>rfl
 | .int k a::xs,.int k' c::ys,b,h=>by
  simp only[eV]at h
  split at h<;>try trivial
  cases hr:eV xs ys with
  | none=>grind
  | some r=>simp[fG,jP hr]
 | .bool a::xs,.bool c::ys,b,h=>by
  simp only[eV]at h;cases hr:eV xs ys with
  | none=>grind
  | some r=>simp[fG,jP hr]
def valOf(P:Program)(t:TypeId)(cs:List Value):Value:=if cE P t then .agg cs.toArray else cs.headD undef
def nT(w:World)(A:Nat→Prop)(xs:List V)(vs:List Value):Prop:=vs.length=xs.length∧∀(i:Nat) (x:V),xs[i]? = some x→∃u,vs[i]? = some u∧aY w A x u
theorem nT.take{w:World}{A:Nat→Prop}{xs:List V}{vs:List Value}(h:nT w A xs vs)(n:Nat):nT w A (xs.take n) (vs.take n):=by
 refine⟨by simp[h.1],fun i x hx=>?_⟩;rw[aAx]at hx
 split at hx<;>try (cases hx;done)
 rename_i hi;obtain⟨u,h1,h2⟩:=h.2 i x hx;grind
theorem nT.drop{w:World}{A:Nat→Prop}{xs:List V}{vs:List Value}(h:nT w A xs vs)(n:Nat):nT w A (xs.drop n) (vs.drop n):=by
 refine⟨by simp[h.1],fun i x hx=>?_⟩;rw[aAM]at hx;obtain⟨u,h1,h2⟩:=h.2 _ x hx;grind
theorem TI{t:TypeId}{d:TypeDesc}(hu:P.underlying t=some d)(w:World):(isAgg t).run P w=.ok (cE P t) w:=by
 unfold isAgg cE;rw[Sem.run_bind,run_underlying hu w,hu];cases d<;>simp
theorem AY{t:TypeId}{w:World}{cs:List Value}{off n:Nat}(hu:(P.underlying t).isSome)(hn:aq P t=n)(dr:0<n)(hle:off+n≤cs.length)(h1:cE P t=false→n=1):
  (part t cs.toArray off).run P w=.ok (valOf P t ((cs.drop off).take n)) w:=by
 obtain⟨d,hd⟩:=aA1.1 hu;obtain⟨i,hi,hs⟩:=kf hn dr;unfold part valOf;rw[Sem.run_bind,TI hd];cases hr:cE P t with
 | true=>
  simp[sizeOf,typeInfo,hi,hs]
 | false=>
  have hn1:=h1 hr;subst hn1;have bO:off<cs.length:=by omega
  simp[bO];cases hdr:cs.drop off with
  | nil=>simp at hdr;omega
  | cons a l=>
   have:=azT (·[0]?) hdr;grind
theorem agZ:∀{d:Nat} {t:TypeId} {m:List Bool},ZQ P d t=some m→cE P t=false→m.length=1
 | d+1,t,m,h,hr=>by
  grind[ZQ,cE]
theorem ZP:∀{d:Nat} {t:TypeId} {m:List Bool},ZQ P d t=some m→(P.underlying t).isSome
 | d+1,t,m,h=>by
  grind[ZQ]
theorem yO{xs:List V}{m rest:List Bool}(hl:(xs.filterMap fG).length=xs.length)(h:xs.filterMap fG=m++rest):(xs.take m.length).filterMap fG=m∧(xs.drop m.length).filterMap fG=rest:=by
 induction m generalizing xs with
 | nil=>grind
 | cons b m ih=>
  cases xs with
  | nil=>simp at h
  | cons x xs=>
   cases hk:fG x with
   | none=>
    grind
   | some c=>
    grind
theorem tY(A:Nat→Prop)(w0:World)(d D:Nat)(apP:∀(t:TypeId) (m:List Bool),ZQ P d t=some m→∀(xs ys:List V) (cx cy:List Value) (b:Bool),nT w0 A xs cx→nT w0 A ys cy→xs.filterMap fG=m→eV xs ys=some b→
   ∀w,(Op.equalIn D t (valOf P t cx) (valOf P t cy)).run P w=.ok b w) :
  ∀(fs:List Field) (off:Nat) (m:List Bool),T8 P (ZQ P d) fs off=some m→∀(xs ys:List V) (cx cy:List Value) (b:Bool),nT w0 A xs cx→nT w0 A ys cy→(xs.drop off).filterMap fG=m→eV (xs.drop off) (ys.drop off)=some b→
   ∀w,(Op.eqFields D cx.toArray cy.toArray fs).run P w=.ok b w
 | [],off,m,h,xs,ys,cx,cy,b,_,_,hk,he,w=>by
  simp only[T8,azN]at h;subst h;have hl:=jP he;rw[hk]at hl;have h0:xs.drop off=[]:=aAf (by grind);have h1:ys.drop off=[]:=aAf (by grind[oP]);rw[h0,h1]at he;simp[eV]at he;subst he;simp[Op.eqFields]
 | f::fs,off,m,h,xs,ys,cx,cy,b,hx,hy,hk,he,w=>by
  simp only[T8]at h
  split at h<;>try trivial
  rename_i ap2
  split at h<;>try trivial
  rename_i mf hmf
  split at h<;>try trivial
  rename_i dO;cases BL:T8 P (ZQ P d) fs (off+mf.length)with
  | none=>grind
  | some mr=>
   simp[BL]at h;subst h;have Dv:=jP he;have hlen:=oP he;obtain⟨k1,k2⟩:=yO Dv hk;have hle:off+mf.length≤xs.length:=by
    grind
   have atN:off+mf.length≤ys.length:=by grind
   obtain⟨nz,Qc⟩:=dO;have hu:=ZP hmf;have h1:cE P f.type=false→mf.length=1:=agZ hmf;have px:=AY (P:=P) (w:=w) hu nz Qc (cs:=cx) (off:=off) (by rw[hx.1];exact hle) h1;have py:=AY (P:=P) (w:=w) hu nz Qc (cs:=cy) (off:=off) (by rw[hy.1];exact atN) h1;have he':eV (((xs.drop off).take mf.length)++((xs.drop off).drop mf.length)) (((ys.drop off).take mf.length)++((ys.drop off).drop mf.length))=some b:=by
    rw[aAT,aAT];exact he
   obtain⟨c,e,e1,e2,rfl⟩:=oQ (by simp;omega) he';have hr:=apP f.type mf hmf _ _ _ _ c ((hx.drop off).take mf.length) ((hy.drop off).take mf.length) k1 e1 w;simp only[aBE]at e2 k2;have ht:=tY A w0 d D apP fs (off+mf.length) mr BL xs ys cx cy e hx hy k2 e2 w;obtain⟨hn1,rfl⟩:=ap2;simp only[Op.eqFields,hn1,ne_eq,not_false_eq_true,aAo,Sem.run_bind,px,py,Result.andThen_ok,hr];cases c
   all_goals simp_all
theorem sM(A:Nat→Prop)(w0:World):∀(d:Nat) (t:TypeId) (m:List Bool),ZQ P d t=some m→∀(D:Nat),d≤D→∀(xs ys:List V) (cx cy:List Value) (b:Bool),nT w0 A xs cx→nT w0 A ys cy→xs.filterMap fG=m→eV xs ys=some b→
   ∀w,(Op.equalIn D t (valOf P t cx) (valOf P t cy)).run P w=.ok b w
 | d+1,t,m,h,D,hD,xs,ys,cx,cy,b,hx,hy,hk,he,w=>by
  obtain⟨D,rfl⟩:∃D',D=D'+1:=⟨D-1,by omega⟩;have Dv:=jP he;have hlen:=oP he;unfold ZQ at h
  split at h
  ·rename_i hu
   cases h
   have hr:cE P t=false:=by grind[cE]
   rw[hk]at Dv;cases xs with
   | nil=>simp at Dv
   | cons x xs=>
    cases ys with
    | nil=>grind
    | cons y ys=>
     have hxs:xs=[]:=by grind
     have hys:ys=[]:=by grind
     subst hxs hys;obtain⟨u,u1,u2⟩:=hx.2 0 x rfl;obtain⟨v,v1,v2⟩:=hy.2 0 y rfl;have ex:cx.headD undef=u:=by cases cx<;>simp_all
     have ey:cy.headD undef=v:=by cases cy<;>simp_all
     unfold valOf;rw[hr];simp only[aAE,aAd,ex,ey];cases x<;>cases y<;>simp only[eV]at he<;>try (cases he;done)
     ·grind[fG]
     ·cases u2;cases v2
      simp at he;rw[run_equalIn_bool' w D t _ _ hu,he]
  ·rename_i k hu
   cases h
   have hr:cE P t=false:=by grind[cE]
   rw[hk]at Dv;cases xs with
   | nil=>simp at Dv
   | cons x xs=>
    cases ys with
    | nil=>grind
    | cons y ys=>
     have hxs:xs=[]:=by grind
     have hys:ys=[]:=by grind
     subst hxs hys;obtain⟨u,u1,u2⟩:=hx.2 0 x rfl;obtain⟨v,v1,v2⟩:=hy.2 0 y rfl;have ex:cx.headD undef=u:=by cases cx<;>simp_all
     have ey:cy.headD undef=v:=by cases cy<;>simp_all
     unfold valOf;rw[hr];simp only[aAE,aAd,ex,ey];cases x<;>cases y<;>simp only[eV]at he<;>try (cases he;done)
     ·cases u2;cases v2
      split at he<;>try (cases he;done)
      rename_i hkk;subst hkk;simp at he;rw[run_equalIn_int w D t _ k _ _ hu,he]
     grind[fG]
  ·rename_i fs hu
   split at h<;>try trivial
   rename_i aqj;have hr:cE P t=true:=by grind[cE]
   unfold valOf;rw[hr];simp only[aAo];have hfs:P.fieldsOf t=fs:=by unfold Program.fieldsOf;rw[hu]
   rw[run_equalIn_struct w D t _ _ (by grind) (by grind),hfs];exact tY A w0 d D (fun t m hm xs ys cx cy b h1 h2 h3 h4 w=>sM A w0 d t m hm D (by omega) xs ys cx cy b h1 h2 h3 h4 w) fs.toList 0 m h xs ys cx cy b hx hy (by grind) (by grind) w
  ·cases h
theorem nT.MX{xs:List V}{v:Value}(h:Rel E (.agg xs) v):∃vs:Array Value,v=.agg vs∧nT E.w E.A xs vs.toList:=by
 obtain⟨vs,rfl,hs,hc⟩:=h;exact⟨vs,rfl,by simpa using hs,fun i x hx=>let ⟨u,h1,h2⟩:=hc i x hx;⟨u,by simpa using h1,h2⟩⟩
theorem Mx{op:BinOp}{k yk:IntKind}{a b:Int}{p:Prop}{v:V}(h:Fy op k a b=some (p,v))(hp:p)(w:World):∃u,(Op.shift op k a yk b).run P w=.ok u w∧aY E.w E.A v u:=by
 cases op<;>simp only[Fy]at h<;>try trivial
 all_goals
  simp only[azN,azY]at h;obtain⟨rfl,rfl⟩:=h;have hb:¬ b<0:=by omega
  refine⟨_,?_,.int _ _⟩;simp[Op.shift,hb]
theorem Xi{op:BinOp}{k:IntKind}{a b:Int}{p:Prop}{v:V}(h:age op k a b=some (p,v))(hp:p)(t:TypeId)(w:World):∃u,(binOp op t (.int k a) (.int k b)).run P w=.ok u w∧aY E.w E.A v u:=by
 cases op<;>simp only[age]at h<;>try trivial
 all_goals
  simp only[azN,azY]at h;obtain⟨rfl,rfl⟩:=h
  first
  | (refine⟨_,?_,.int _ _⟩;first | (simp[binOp,Op.intArith];done) | (simp[binOp,Op.intBits];done) | (simp[binOp,Op.intDiv,hp];done))
  | (refine⟨_,?_,.bool _⟩;simp[binOp,Op.intCmp];done)
theorem nm{op:BinOp}{t:TypeId}{X Y:Operand}{a b:Value}(h:(∃k n k' m,a=.int k n∧b=.int k' m)∨∃c d,a=.bool c∧b=.bool d)(w:World):(eqGuard op t X Y a b).run P w=.ok () w:=by
 rcases h with⟨k,n,k',m,rfl,rfl⟩ | ⟨c,d,rfl,rfl⟩<;>cases op<;>simp[eqGuard]
theorem xT{t e:TypeId}(h:dC P t=some e):P.underlying t=some (.slice e):=by
 grind[dC]
theorem tX{op:BinOp}{t:TypeId}{X Y:Operand}{a:Option Addr}{l c:Nat}{q:Prop}{p:Prop}{b:Bool}{v:V}(hb:a.isNone=b)(h:uw P op t q b=some (p,v))(hp:p)(w:World):
  ∃u,((do eqGuard op t X Y (.slice a l c) (.slice none 0 0);binOp op t (.slice a l c) (.slice none 0 0)):Sem Value).run P w=.ok u w∧aY E.w E.A v u:=by
 have hg:(eqGuard op t X Y (.slice a l c) (.slice none 0 0)).run P w=.ok () w:=by cases op<;>simp[eqGuard]
 rw[Sem.run_bind,hg,Result.andThen_ok];unfold uw at h
 split at h<;>try trivial
 ·simp only[azN,azY]at h
  obtain⟨rfl,rfl⟩:=h;obtain⟨e,he⟩:=aA1.1 hp.2;refine⟨_,?_,.bool _⟩;simp only[binOp,Sem.run_bind,run_equal_slice_nil w t e a l c (xT he),Result.andThen_ok,Sem.run_pure,hb]
 ·simp only[azN,azY]at h
  obtain⟨rfl,rfl⟩:=h;obtain⟨e,he⟩:=aA1.1 hp.2;refine⟨_,?_,.bool _⟩;rw[run_neq_slice_nil w t e a l c (xT he),hb]
theorem Ed{op:BinOp}{t:TypeId}{q p:Prop}{b:Bool}{v:V}(h:uw P op t q b=some (p,v))(hp:p):q:=by
 unfold uw at h
 grind
theorem Xj{op:BinOp}{t:TypeId}{x y:V}{X Y:Operand}{cx cy:Value}{p:Prop}{v:V}(hx:Rel E x cx)(hy:Rel E y cy)(h:GA P op t x y=some (p,v))(hp:p)(w:World):
  ∃u,((do eqGuard op t X Y cx cy;binOp op t cx cy):Sem Value).run P w=.ok u w∧aY E.w E.A v u:=by
 unfold GA at h
 split at h
 ·rename_i k a k' b
  cases hx;cases hy
  rw[Sem.run_bind,nm (.inl ⟨_,_,_,_,rfl,rfl⟩),Result.andThen_ok]
  split at h
  ·rename_i hs
   obtain⟨u,h1,h2⟩:=Mx (P:=P) (E:=E) (yk:=k') h hp w;refine⟨u,?_,h2⟩;rw[← h1];cases op<;>simp_all [FY,binOp]
  ·split at h<;>try trivial
   rename_i hk;subst hk;exact Xi h hp t w
 ·rename_i a b
  cases hx;cases hy
  rw[Sem.run_bind,nm (.inr ⟨_,_,rfl,rfl⟩),Result.andThen_ok]
  split at h<;>try trivial
  ·simp only[azN,azY]at h
   obtain⟨rfl,rfl⟩:=h;refine⟨_,?_,.bool _⟩;simp only[binOp,Op.equal,Op.maxDepth,Sem.run_bind,run_equalIn_bool' w 9999 t a b hp,Result.andThen_ok,Sem.run_pure]
  ·simp only[azN,azY]at h
   obtain⟨rfl,rfl⟩:=h;refine⟨_,?_,.bool _⟩;simp only[binOp,Op.equal,Op.maxDepth,Sem.run_bind,run_equalIn_bool' w 9999 t a b hp,Result.andThen_ok,Sem.run_pure];rfl
 ·rename_i xs ys
  obtain⟨vx,rfl,px⟩:=nT.MX hx;obtain⟨vy,rfl,py⟩:=nT.MX hy;have key:∀b,eV xs ys=some b→cE P t=true→T7 P t=some (xs.filterMap fG)→P.eqGuardType P.depth t=false∧(Op.equalIn 10000 t (.agg vx) (.agg vy)).run P w=.ok b w:=by
   intro b hb aK hsh;unfold T7 at hsh
   split at hsh<;>try (cases hsh;done)
   rename_i hg;refine⟨by simpa using hg,?_⟩;have:=sM E.A E.w 8 t _ hsh 10000 (by omega) xs ys vx.toList vy.toList b px py rfl hb w;simpa [valOf,aK]using this
  split at h<;>try trivial
  ·cases hb:eV xs ys with
   | none=>grind
   | some b=>
    simp only[hb,az7,azN,azY]at h;obtain⟨rfl,rfl⟩:=h;obtain⟨k1,k2⟩:=key b hb hp.1 hp.2;refine⟨_,?_,.bool _⟩;rw[Sem.run_bind,run_eqGuard_agg w _ t X Y vx vy k1,Result.andThen_ok,run_eql_struct,k2,Result.andThen_ok]
  ·cases hb:eV xs ys with
   | none=>grind
   | some b=>
    simp only[hb,az7,azN,azY]at h;obtain⟨rfl,rfl⟩:=h;obtain⟨k1,k2⟩:=key b hb hp.1 hp.2;refine⟨_,?_,.bool _⟩;rw[Sem.run_bind,run_eqGuard_agg w _ t X Y vx vy k1,Result.andThen_ok,run_neq_struct,k2,Result.andThen_ok]
 ·cases hx;cases hy
  exact tX rfl h hp w
 ·cases hy
  rename_i rows;have dU:=Ed h hp;cases hx with
  | slnil a=>grind
  | sl _ b off cap es f jM hb bI hc hr=>exact tX rfl h hp w
 ·cases hy
  rename_i rows;have dU:=Ed h hp;rcases hx with⟨_,rfl⟩ | ⟨b,off,cap,es,f,rfl,_⟩
  ·grind
  ·exact tX rfl h hp w
 ·cases hy
  cases hx
  exact tX rfl h hp w
 ·cases h
theorem KC(f:Array Value→Value×Nat→Array Value)(off:Nat)(hf:∀cs c j,f cs (c,j)=cs.setIfInBounds (off+j) c):∀(vs:List Value) (k:Nat) (cells:Array Value),off+k+vs.length≤cells.size→
  ((vs.zipIdx k).foldl f cells).size=cells.size∧∀i,((vs.zipIdx k).foldl f cells)[i]? = if off+k≤i∧i<off+k+vs.length then vs[i-(off+k)]? else cells[i]?
 | [],k,cells,_=>⟨rfl,fun i=>by simp only[List.zipIdx_nil,List.foldl_nil,az2];rw[azD (by omega)]⟩
 | v::vs,k,cells,h=>by
  simp only[List.zipIdx_cons,aAN,hf,azL]at h ⊢;obtain⟨h1,h2⟩:=KC f off hf vs (k+1) (cells.setIfInBounds (off+k) v) (by simp;omega);grind
theorem s9{E:Env}{imp:Bool}{place place':Nat→Option (Nat×Nat)}(VW:∀i q,place i=some q→place' i=some q):∀(parts:List (Nat×V)) (cparts:List (Nat×Value)) (cs eL:List V) (vs:Array Value),
  cparts.length=parts.length→(∀(i:Nat) (q:Nat×V),parts[i]? = some q→∃u,cparts[i]? = some (q.1,u)∧Cells E imp q.2.cells u.cells.toList)→
  Cells E imp cs vs.toList→lE place cs parts=some eL→∃bS:Array Value,Instr.fill place' vs cparts=some bS∧Cells E imp eL bS.toList
 | [],cparts,cs,eL,vs,hl,_,hc,h=>by
  have:cparts=[]:=aAf (by grind);subst this;simp only[lE,azN]at h;subst h;exact⟨vs,rfl,hc⟩
 | (i,x)::parts,[],cs,eL,vs,hl,_,_,_=>by simp at hl
 | (i,x)::parts,(i',u)::cparts,cs,eL,vs,hl,hp,hc,h=>by
  obtain⟨u',h1,h2⟩:=hp 0 (i,x) rfl;simp only[List.getElem?_cons_zero,azN,azY]at h1;obtain⟨rfl,rfl⟩:=h1;simp only[lE]at h
  split at h
  ·cases h
  rename_i off size Qf
  split at h<;>try trivial
  rename_i dO;obtain⟨z1,z2⟩:=dO;have gV:u.cells.size=x.cells.length:=by simpa using h2.1
  have tL:vs.size=cs.length:=by simpa using hc.1
  have fs:=KC (fun cs (c,j)=>cs.setIfInBounds (off+j) c) off (fun _ _ _=>rfl) u.cells.toList 0 vs (by grind);have alS:Cells E imp (putAt cs off x.cells) (((u.cells.toList.zipIdx 0).foldl (fun cs (c,j)=>cs.setIfInBounds (off+j) c) vs)).toList:=by
   refine⟨?_,fun n z hz=>?_⟩
   ·have:=fs.1
    simp only[aAU,this,putAt,azG,az5,aAe];omega
   ·have g:=fs.2 n
    simp only[aBF,aAU]at g;rw[aAG,g];simp only[putAt,aAB]at hz;by_cases c1:n<off
    ·rw[aAg (by simp;omega),aAx,azE c1]at hz
     rw[azD (by omega)];simpa using hc.2 n z hz
    ·rw[aAa (by simp;omega)]at hz
     simp only[az5,show min off cs.length=off from by omega]at hz;by_cases c2:n-off<x.cells.length
     ·rw[aAg c2]at hz
      rw[azE (by omega)];exact h2.2 _ z hz
     ·rw[aAa (by omega),aAM]at hz
      rw[azD (by omega)];have:=hc.2 _ z hz;grind
  obtain⟨bS,g1,g2⟩:=s9 VW parts cparts _ eL _ (by grind) (fun n q hq=>hp (n+1) q hq) alS h;refine⟨bS,?_,g2⟩;simp only[Instr.fill,VW _ _ Qf];rw[azD (by grind)];rw[← g1]
  congr 1
  rw[← Array.foldl_toList];simp
theorem fS{t e:TypeId}(h:dC P t=some e):P.underlying t=some (.slice e):=by
 grind[dC]
theorem hT{P:Program}{s:Sem Value}{w w':World}{u:Value}(h:s.run P w=.ok u w'):((do pure (Next.value (← s))):Sem Next).run P w=.ok (.value u) w':=by
 simp_all
theorem xJ{t:TypeId}{f off:Nat}{ft:TypeId}(h:eQ P t f=some (off,ft))(b o:Nat)(w:World):
  (Instr.fieldAt t (.pointer (some ⟨b,o,none⟩)) f).run P w=.ok (.pointer (some ⟨b,o+off,none⟩)) w:=by
 unfold eQ at h
 split at h<;>try trivial
 rename_i fs hu;cases hf:fs[f]? with
 | none=>grind
 | some fd=>
  cases hi:P.info? fd.type with
  | none=>grind
  | some i=>
   simp only[hf,hi,aAC]at h
   split at h<;>try trivial
   rename_i hs;simp only[azN,azY]at h;obtain⟨rfl,rfl⟩:=h;simp only[Instr.fieldAt,Sem.run_bind,run_underlying hu,Result.andThen_ok,hf,Instr.sureAddr,Sem.run_pure,fieldPlace,sizeOf,typeInfo];simp[hi,hs,Addr.add_mid]
theorem DS{t:TypeId}{f off:Nat}{ft:TypeId}(h:eQ P t f=some (off,ft))(hu2:(P.underlying ft).isSome)(cs:Array Value)(hle:off+aq P ft≤cs.size)(h1:cE P ft=false→aq P ft=1)(w:World):
  (Instr.field t (.agg cs) f).run P w=.ok (valOf P ft ((cs.toList.drop off).take (aq P ft))) w:=by
 unfold eQ at h
 split at h<;>try trivial
 rename_i fs hu;cases hf:fs[f]? with
 | none=>grind
 | some fd=>
  cases hi:P.info? fd.type with
  | none=>grind
  | some i=>
   simp only[hf,hi,aAC]at h
   split at h<;>try trivial
   rename_i hs;simp only[azN,azY]at h;obtain⟨rfl,rfl⟩:=h;have hp:=AY (P:=P) (w:=w) (cs:=cs.toList) (off:=fd.offset) hu2 rfl (by grind[aq]) (by grind) h1;simp only[Instr.field,Sem.run_bind,run_underlying hu,Result.andThen_ok,hf,asAgg,Sem.run_pure];simp_all
theorem FC{t e:TypeId}{m:Nat}(ht:EN P t=some (m,e))(hs:0<aq P e){k:IntKind}{i:Int}(b off:Nat)(h0:0≤i)(h1:i<m)(w:World):
  (Instr.indexAt t (.pointer (some ⟨b,off,none⟩)) (.int k i)).run P w=.ok (.pointer (some ⟨b,off+i.toNat*aq P e,none⟩)) w:=by
 obtain⟨ti,ra,dO⟩:=kf (P:=P) (t:=e) rfl hs;have hu:P.underlying t=some (.array m e):=by
  grind[EN]
 simp only[Instr.indexAt,Sem.run_bind,asIntOf,Sem.run_pure,Result.andThen_ok,run_underlying hu];simp[h0,h1,sizeOf,typeInfo,ra,dO,Addr.add_mid,Instr.sureAddr]
theorem xI{t e:TypeId}(ht:dC P t=some e)(hs:0<aq P e){k:IntKind}{i:Int}(b off len cap:Nat)(h0:0≤i)(h1:i<len)(w:World):
  (Instr.indexAt t (.slice (some ⟨b,off,none⟩) len cap) (.int k i)).run P w=.ok (.pointer (some ⟨b,off+i.toNat*aq P e,none⟩)) w:=by
 obtain⟨ti,ra,dO⟩:=kf (P:=P) (t:=e) rfl hs;have hu:=fS ht;simp only[Instr.indexAt,Sem.run_bind,asIntOf,Sem.run_pure,Result.andThen_ok,run_underlying hu];simp[h0,h1,sizeOf,typeInfo,ra,dO,Addr.add_mid]
end
end Go.AL
