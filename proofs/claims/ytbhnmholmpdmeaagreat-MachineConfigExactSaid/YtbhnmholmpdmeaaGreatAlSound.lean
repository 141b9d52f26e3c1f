/-
  THE ABSTRACT LAYER, THIRD PART: the model's operations do what the abstract ones say. By an AI agent.
-/
import Derived.Test.YtbhnmholmpdmeaaGreatAlOps
namespace Go.AL
set_option linter.unusedVariables false
set_option linter.unusedSimpArgs false
set_option linter.unusedSectionVars false

def St.ev (s : St) : Operand → V
  | .tmp i => if i < 100000 then s.t i else .dead
  | .const v => .ofVal v
  | .func f => .fn f []
  | .global _ => .dead

theorem Rel1.of_relP {E : Env} {x : V} {v : Value} (h : RelP E.w E.A x v) : Rel1 E x v := by cases h <;> first | exact .int _ _ | exact .bool _ | exact .str _ | exact .nil | exact .slnil _ | (exact .raw _ ‹_›) | (exact .sl _ _ _ _ _ _ ‹_› ‹_› ‹_› ‹_› ‹_›)
theorem RelA.of_relP {E : Env} {x : V} {v : Value} (h : RelP E.w E.A x v) : RelA E x v := by cases h <;> first | exact .int _ _ | exact .bool _ | exact .str _ | exact .nil | exact .slnil _ | (exact .raw _ ‹_›) | (exact .sl _ _ _ _ _ _ ‹_› ‹_› ‹_› ‹_› ‹_›)
theorem Rel.of_relP {E : Env} {x : V} {v : Value} (h : RelP E.w E.A x v) : Rel E x v := by cases h <;> first | exact .int _ _ | exact .bool _ | exact .str _ | exact .nil | exact .slnil _ | (exact .raw _ ‹_›) | (exact .sl _ _ _ _ _ _ ‹_› ‹_› ‹_› ‹_› ‹_›)

theorem Rel.of_rel1 {E : Env} {x : V} {v : Value} (h : Rel1 E x v) : Rel E x v := by
  cases x <;> first | exact h | (cases h; done)

theorem relP_ofCell {w : World} {A : Nat → Prop} (v : Value) (h : v.oneCell' = true) : RelP w A (.ofCell v) v := by
  unfold V.ofCell
  split <;> first | exact .int _ _ | exact .bool _ | exact .str _ | exact .nil | (rw [if_pos h]; exact .raw _ h)

def Cells (E : Env) (imp : Bool) (cs : List V) (vs : List Value) : Prop :=
  vs.length = cs.length ∧ ∀ (i : Nat) (x : V), cs[i]? = some x → ∃ u, vs[i]? = some u ∧ u.oneCell' = true ∧ Rel1 E x u ∧ (imp = false → RelP E.w E.A x u)

theorem Cells.rel {E : Env} {imp : Bool} {cs : List V} {vs : List Value} (h : Cells E imp cs vs) : Rel E (mkAgg imp cs) (.agg vs.toArray) := by
  cases imp
  · exact ⟨vs.toArray, rfl, by simpa using h.1, fun i x hx => let ⟨u, h1, _, _, h4⟩ := h.2 i x hx; ⟨u, by simpa using h1, h4 rfl⟩⟩
  · exact ⟨vs.toArray, rfl, by simpa using h.1, fun i x hx => let ⟨u, h1, h2, h3, _⟩ := h.2 i x hx; ⟨u, by simpa using h1, h2, h3⟩⟩

theorem Cells.imp {E : Env} {imp : Bool} {cs : List V} {vs : List Value} (h : Cells E imp cs vs) : Cells E true cs vs :=
  ⟨h.1, fun i x hx => let ⟨u, h1, h2, h3, _⟩ := h.2 i x hx; ⟨u, h1, h2, h3, fun h => by cases h⟩⟩

theorem Cells.of_rel {E : Env} {x : V} {v : Value} (h : Rel E x v) (hs : x.stor E.h) : Cells E (!x.pure) x.cells v.cells.toList := by
  have single : ∀ (y : V), x.cells = [y] → v.cells = #[v] → v.oneCell' = true → Rel1 E y v → (x.pure = true → RelP E.w E.A y v) → Cells E (!x.pure) x.cells v.cells.toList := by
    intro y hx hv h1 hr hp
    rw [hx, hv]
    refine ⟨rfl, fun i z hz => ?_⟩
    cases i with
    | zero =>
      simp at hz
      subst hz
      exact ⟨v, rfl, h1, hr, fun hh => hp (by simpa using hh)⟩
    | succ i => simp at hz
  cases x with
  | agg cs =>
    obtain ⟨vs, rfl, hs, hc⟩ := h
    refine ⟨by simpa [Value.cells, V.cells] using hs, fun i x hx => ?_⟩
    obtain ⟨u, c1, c2⟩ := hc i x hx
    exact ⟨u, by simpa [Value.cells] using c1, c2.oneCell, Rel1.of_relP c2, fun _ => c2⟩
  | aggi cs =>
    obtain ⟨vs, rfl, hs, hc⟩ := h
    refine ⟨by simpa [Value.cells, V.cells] using hs, fun i x hx => ?_⟩
    obtain ⟨u, c1, c2, c3⟩ := hc i x hx
    exact ⟨u, by simpa [Value.cells] using c1, c2, c3, fun h => by simp [V.pure] at h⟩
  | int k n => cases h; exact single _ rfl rfl rfl (.int k n) (fun _ => .int k n)
  | bool b => cases h; exact single _ rfl rfl rfl (.bool b) (fun _ => .bool b)
  | str s => cases h; exact single _ rfl rfl rfl (.str s) (fun _ => .str s)
  | nil => cases h; exact single _ rfl rfl rfl .nil (fun _ => .nil)
  | raw u =>
    have h' : RelP E.w E.A (.raw u) v := h
    cases h' with
    | raw _ h2 => exact single (.raw v) rfl (by cases v <;> first | rfl | (simp [Value.oneCell'] at h2)) h2 (.raw v h2) (fun _ => .raw v h2)
  | sl rows =>
    have h' : RelP E.w E.A (.sl rows) v := h
    exact single (.sl rows) rfl (by cases h' <;> rfl) h'.oneCell h (fun _ => h)
  | rd rows =>
    have hv : v.cells = #[v] ∧ v.oneCell' = true := by rcases h with ⟨⟨_, rfl⟩, _⟩ | ⟨_, _, _, _, _, rfl, _⟩ <;> exact ⟨rfl, rfl⟩
    exact single (.rd rows) rfl hv.1 hv.2 h (fun h => by simp [V.pure] at h)
  | ref o n =>
    obtain ⟨ob, ho, hn⟩ := hs
    have h2 := (h ob ho).2 hn
    have hv : v.cells = #[v] ∧ v.oneCell' = true := by
      cases hb : E.β o with
      | none => rw [hb] at h2; subst h2; exact ⟨rfl, rfl⟩
      | some b => rw [hb] at h2; obtain ⟨_, _, rfl, _⟩ := h2; exact ⟨rfl, rfl⟩
    exact single (.ref o n) rfl hv.1 hv.2 h (fun h => by simp [V.pure] at h)
  | ptr o n i j =>
    obtain ⟨ob, ho, hn⟩ := hs
    obtain ⟨b, _, rfl⟩ := (h ob ho).2 hn
    exact single (.ptr o n i j) rfl rfl rfl h (fun h => by simp [V.pure] at h)
  | tup xs => exact hs.elim
  | fn f cs => exact hs.elim
  | cp row j => exact hs.elim
  | dead => exact hs.elim

theorem rel_ofVal {E : Env} (v : Value) : Rel E (.ofVal v) v := by
  unfold V.ofVal
  split
  · rename_i cs
    split
    · rename_i hall
      refine ⟨cs, rfl, by simp, fun i x hx => ?_⟩
      rw [List.getElem?_map] at hx
      cases hi : cs.toList[i]? with
      | none => simp [hi] at hx
      | some u =>
        simp [hi] at hx
        subst hx
        exact ⟨u, by simpa using hi, relP_ofCell u (List.all_eq_true.1 hall u (List.mem_of_getElem? hi))⟩
    · trivial
  · by_cases h : v.oneCell' = true
    · exact Rel.of_relP (relP_ofCell v h)
    · cases v <;> simp_all [Value.oneCell', V.ofCell, Rel, RelA, Rel1]

def slotV (sv : Nat → Value) (a : Act) (i : Nat) : Value := if 100000 ≤ i ∧ a.tmps.size ≤ i then sv (i - 100000) else a.tmps.getD i undef
theorem slotV_lt {sv : Nat → Value} {a : Act} {i : Nat} (h : i < 100000 ∨ i < a.tmps.size) : slotV sv a i = a.tmps.getD i undef := if_neg (by omega)
theorem slotV_ge {sv : Nat → Value} {a : Act} {i : Nat} (h : 100000 ≤ i) (h2 : a.tmps.size ≤ i) : slotV sv a i = sv (i - 100000) := if_pos ⟨h, h2⟩
theorem slotV_un (a : Act) (i : Nat) : slotV (fun _ => undef) a i = a.tmps.getD i undef := by
  unfold slotV
  split
  · rename_i h
    rw [Array.getD_eq_getD_getElem?, Array.getElem?_eq_none h.2]; rfl
  · rfl
theorem rel_ev {E : Env} {s : St} {sv : Nat → Value} {a : Act} (h : ∀ i, Rel E (s.t i) (slotV sv a i)) (x : Operand) : Rel E (s.ev x) (a.eval x) := by
  cases x with
  | tmp i =>
    show Rel E (if i < 100000 then s.t i else .dead) (a.tmps.getD i undef)
    split
    · rename_i hi
      have := h i
      rwa [slotV_lt (.inl hi)] at this
    · trivial
  | const v => exact rel_ofVal v
  | func f => exact ⟨#[], rfl, rfl, fun i x hx => by simp at hx⟩
  | global g => trivial

/-! ### Running -/
section
variable {P : Program} {E : Env}

theorem szOf_eq {t : TypeId} {n : Nat} (h : szOf P t = n) (hn : 0 < n) : ∃ i, P.info? t = some i ∧ i.size = n := by
  unfold szOf at h
  cases hi : P.info? t with
  | none => simp [hi] at h; omega
  | some i => exact ⟨i, rfl, by simpa [hi] using h⟩

theorem cells_row {ob : Ob} {b : Nat} (h : ObOK E ob (some b)) {i : Nat} {row : List V} (hi : ob.rows[i]? = some row) :
    ∃ f : Nat → Value, row.length = ob.es ∧ ∀ (j : Nat) (x : V), row[j]? = some x → E.w.cell? ⟨b, i * ob.es + j, none⟩ = some (f j) ∧ (f j).oneCell' = true ∧ Rel1 E x (f j) ∧ (ob.imp = false → RelP E.w E.A x (f j)) := by
  obtain ⟨_, cur, hh, hes, hlen, hc⟩ := h
  refine ⟨fun j => (cur[i * ob.es + j]?).getD undef, hes row (List.mem_of_getElem? hi), fun j x hx => ?_⟩
  obtain ⟨v, c1, c2, c3, c4⟩ := hc i row hi j x hx
  refine ⟨?_, by simpa [c1] using c2, by simpa [c1] using c3, fun h => by simpa [c1] using c4 h⟩
  rw [cell_of_row E.w b _ cur ob.ty (0, 0) hh, c1]
  simp [c1]

theorem run_loadR {t : TypeId} {p : Prop} {imp : Bool} {row : List V} {j : Nat} {q : Prop} {v : V} {b off : Nat} (f : Nat → Value)
    (hc : ∀ (k : Nat) (x : V), row[k]? = some x → E.w.cell? ⟨b, off + k, none⟩ = some (f k) ∧ (f k).oneCell' = true ∧ Rel1 E x (f k) ∧ (imp = false → RelP E.w E.A x (f k)))
    (ht : 0 < szOf P t) (hr : loadR P t p imp row j = .val q v) (hq : q) :
    ∃ u, (Instr.loadAt t (.pointer (some ⟨b, off + j, none⟩))).run P E.w = .ok u E.w ∧ Rel E v u := by
  obtain ⟨ti, hti, hsz⟩ := szOf_eq (P := P) (t := t) rfl ht
  unfold loadR at hr
  split at hr
  · rename_i hrow
    simp only [AR.val.injEq] at hr
    obtain ⟨rfl, rfl⟩ := hr
    obtain ⟨_, hle⟩ := hq
    have hd : ∃ d, P.underlying t = some d ∧ d.isRow = true := by
      unfold isRowT at hrow
      split at hrow
      · exact ⟨_, ‹_›, rfl⟩
      · exact ⟨_, ‹_›, rfl⟩
      · cases hrow
    obtain ⟨d, hu, hd⟩ := hd
    have hlen : (cut row j (szOf P t)).length = szOf P t := by simp [cut]; omega
    have hcs : Cells E imp (cut row j (szOf P t)) ((List.range (szOf P t)).map fun k => f (j + k)) := by
      refine ⟨by simp [hlen], fun i x hx => ?_⟩
      have hi : i < szOf P t := by
        have := (List.getElem?_eq_some_iff.1 hx).1
        omega
      have hx' : row[j + i]? = some x := by
        simp only [cut, List.getElem?_take, List.getElem?_drop] at hx
        rw [if_pos hi] at hx
        exact hx
      obtain ⟨c1, c2, c3, c4⟩ := hc (j + i) x hx'
      exact ⟨f (j + i), by simp [hi], c2, c3, c4⟩
    refine ⟨_, run_loadAt_mid E.w b (off + j) t _ d (fun k u hk => ?_) hu hd (by simp [hti, hsz]), hcs.rel⟩
    have hk' : k < szOf P t := by
      have := (List.getElem?_eq_some_iff.1 hk).1
      simpa using this
    obtain ⟨x, hx⟩ : ∃ x, row[j + k]? = some x := ⟨row[j + k]'(by omega), List.getElem?_eq_getElem _⟩
    have c1 := (hc (j + k) x hx).1
    simp [hk'] at hk
    subst hk
    rw [← c1]
    congr 2
    omega
  · rename_i hrow
    split at hr <;> try (cases hr; done)
    split at hr
    · rename_i x hx
      split at hr <;> try (cases hr; done)
      simp only [AR.val.injEq] at hr
      obtain ⟨rfl, rfl⟩ := hr
      obtain ⟨c1, c2, c3, c4⟩ := hc j x hx
      refine ⟨f j, ?_, Rel.of_rel1 c3⟩
      have hagg : (isAgg t).run P E.w = .ok false E.w := by
        unfold isRowT at hrow
        obtain ⟨d, hu⟩ := Option.isSome_iff_exists.1 (show (P.underlying t).isSome = true by assumption)
        unfold isAgg
        rw [Sem.run_bind, run_underlying hu E.w]
        cases d <;> simp_all
      simp [Instr.loadAt, Instr.sureAddr, loadVar, hagg, load, Sem.run, c1]
    · cases hr


theorem run_aload {t : TypeId} (H : ObsOK E) {x : V} {u : Value} {p : Prop} {v : V} (hx : Rel E x u) (ht : 0 < szOf P t) (hr : aload P E.h t x = .val p v) (hp : p) :
    ∃ r, (Instr.loadAt t u).run P E.w = .ok r E.w ∧ Rel E v r := by
  unfold aload at hr
  split at hr
  · rename_i o n i j
    split at hr <;> try (cases hr; done)
    rename_i ob ho
    split at hr <;> try (cases hr; done)
    rename_i row hrow
    have hpp : n = ob.rows.length := by
      unfold loadR at hr
      split at hr
      · simp only [AR.val.injEq] at hr; rw [← hr.1] at hp; exact hp.1
      · split at hr <;> try (cases hr; done)
        split at hr <;> try (cases hr; done)
        split at hr <;> try (cases hr; done)
        simp only [AR.val.injEq] at hr; rw [← hr.1] at hp; exact hp
    obtain ⟨b, hb, rfl⟩ := (hx ob ho).2 hpp
    have hok := H.ok o ob ho
    rw [hb] at hok
    obtain ⟨f, _, hc⟩ := cells_row hok hrow
    exact run_loadR f hc ht hr hp
  · rename_i row j
    obtain ⟨b, off, f, rfl, _, _, hc, hrel⟩ := hx
    exact run_loadR f (fun k x hk => ⟨hc k x hk, (hrel k x hk).oneCell, Rel1.of_relP (hrel k x hk), fun _ => hrel k x hk⟩) ht hr hp
  · cases hr

/-! ### Equality, cell by cell -/
theorem eqCs_len : ∀ {xs ys : List V} {b : Bool}, eqCs xs ys = some b → xs.length = ys.length
  | [], [], _, _ => rfl
  | .int k a :: xs, .int k' c :: ys, b, h => by
    simp only [eqCs] at h
    split at h <;> try (cases h; done)
    cases hr : eqCs xs ys with
    | none => simp [hr] at h
    | some r => simp [eqCs_len hr]
  | .bool a :: xs, .bool c :: ys, b, h => by
    simp only [eqCs] at h
    cases hr : eqCs xs ys with
    | none => simp [hr] at h
    | some r => simp [eqCs_len hr]

theorem eqCs_append : ∀ {xs xs' ys ys' : List V} {b : Bool}, xs.length = ys.length → eqCs (xs ++ xs') (ys ++ ys') = some b →
    ∃ c d, eqCs xs ys = some c ∧ eqCs xs' ys' = some d ∧ b = (c && d)
  | [], xs', [], ys', b, _, h => ⟨true, b, rfl, h, by simp⟩
  | x :: xs, xs', y :: ys, ys', b, hl, h => by
    have hl' : xs.length = ys.length := by simpa using hl
    cases x <;> cases y <;> simp only [List.cons_append, eqCs] at h <;> try (cases h; done)
    case int.int k a k' c =>
      split at h <;> try (cases h; done)
      rename_i hk
      cases hr : eqCs (xs ++ xs') (ys ++ ys') with
      | none => simp [hr] at h
      | some r =>
        simp [hr] at h
        obtain ⟨e, d, h1, h2, h3⟩ := eqCs_append hl' hr
        exact ⟨a == c && e, d, by simp [eqCs, hk, h1], h2, by rw [← h, h3, Bool.and_assoc]⟩
    case bool.bool a c =>
      cases hr : eqCs (xs ++ xs') (ys ++ ys') with
      | none => simp [hr] at h
      | some r =>
        simp [hr] at h
        obtain ⟨e, d, h1, h2, h3⟩ := eqCs_append hl' hr
        exact ⟨a == c && e, d, by simp [eqCs, h1], h2, by rw [← h, h3, Bool.and_assoc]⟩


theorem eqCs_kinds : ∀ {xs ys : List V} {b : Bool}, eqCs xs ys = some b → (xs.filterMap kindV).length = xs.length
  | [], [], _, _ => rfl
  | .int k a :: xs, .int k' c :: ys, b, h => by
    simp only [eqCs] at h
    split at h <;> try (cases h; done)
    cases hr : eqCs xs ys with
    | none => simp [hr] at h
    | some r => simp [kindV, eqCs_kinds hr]
  | .bool a :: xs, .bool c :: ys, b, h => by
    simp only [eqCs] at h
    cases hr : eqCs xs ys with
    | none => simp [hr] at h
    | some r => simp [kindV, eqCs_kinds hr]

def valOf (P : Program) (t : TypeId) (cs : List Value) : Value := if isRowT P t then .agg cs.toArray else cs.headD undef

def PRel (w : World) (A : Nat → Prop) (xs : List V) (vs : List Value) : Prop := vs.length = xs.length ∧ ∀ (i : Nat) (x : V), xs[i]? = some x → ∃ u, vs[i]? = some u ∧ RelP w A x u

theorem PRel.take {w : World} {A : Nat → Prop} {xs : List V} {vs : List Value} (h : PRel w A xs vs) (n : Nat) : PRel w A (xs.take n) (vs.take n) := by
  refine ⟨by simp [h.1], fun i x hx => ?_⟩
  rw [List.getElem?_take] at hx
  split at hx <;> try (cases hx; done)
  rename_i hi
  obtain ⟨u, h1, h2⟩ := h.2 i x hx
  exact ⟨u, by rw [List.getElem?_take, if_pos hi]; exact h1, h2⟩

theorem PRel.drop {w : World} {A : Nat → Prop} {xs : List V} {vs : List Value} (h : PRel w A xs vs) (n : Nat) : PRel w A (xs.drop n) (vs.drop n) := by
  refine ⟨by simp [h.1], fun i x hx => ?_⟩
  rw [List.getElem?_drop] at hx
  obtain ⟨u, h1, h2⟩ := h.2 _ x hx
  exact ⟨u, by rw [List.getElem?_drop]; exact h1, h2⟩

theorem isAgg_run {t : TypeId} {d : TypeDesc} (hu : P.underlying t = some d) (w : World) : (isAgg t).run P w = .ok (isRowT P t) w := by
  unfold isAgg isRowT
  rw [Sem.run_bind, run_underlying hu w, hu]
  cases d <;> simp

theorem run_part {t : TypeId} {w : World} {cs : List Value} {off n : Nat} (hu : (P.underlying t).isSome) (hn : szOf P t = n) (hpos : 0 < n) (hle : off + n ≤ cs.length) (h1 : isRowT P t = false → n = 1) :
    (part t cs.toArray off).run P w = .ok (valOf P t ((cs.drop off).take n)) w := by
  obtain ⟨d, hd⟩ := Option.isSome_iff_exists.1 hu
  obtain ⟨i, hi, hs⟩ := szOf_eq hn hpos
  unfold part valOf
  rw [Sem.run_bind, isAgg_run hd]
  cases hr : isRowT P t with
  | true =>
    simp [sizeOf, typeInfo, hi, hs]
  | false =>
    have hn1 := h1 hr
    subst hn1
    have hlt : off < cs.length := by omega
    simp [hlt]
    cases hdr : cs.drop off with
    | nil => simp at hdr; omega
    | cons a l =>
      have := congrArg (·[0]?) hdr
      simp [hlt] at this
      simp [this]

theorem eqN_row : ∀ {d : Nat} {t : TypeId} {m : List Bool}, eqN P d t = some m → isRowT P t = false → m.length = 1
  | d + 1, t, m, h, hr => by
    unfold eqN at h
    unfold isRowT at hr
    split at h
    · cases h; rfl
    · cases h; rfl
    · rename_i hu; rw [hu] at hr; cases hr
    · cases h

theorem eqN_some : ∀ {d : Nat} {t : TypeId} {m : List Bool}, eqN P d t = some m → (P.underlying t).isSome
  | d + 1, t, m, h => by
    unfold eqN at h
    split at h <;> first | (rename_i hu; rw [hu]; rfl) | cases h

theorem filterMap_split {xs : List V} {m rest : List Bool} (hl : (xs.filterMap kindV).length = xs.length) (h : xs.filterMap kindV = m ++ rest) : (xs.take m.length).filterMap kindV = m ∧ (xs.drop m.length).filterMap kindV = rest := by
  induction m generalizing xs with
  | nil => simpa using h
  | cons b m ih =>
    cases xs with
    | nil => simp at h
    | cons x xs =>
      cases hk : kindV x with
      | none =>
        simp [hk] at hl
        have := List.length_filterMap_le kindV xs
        omega
      | some c =>
        simp only [List.filterMap_cons, hk, List.length_cons, Nat.add_right_cancel_iff] at hl
        simp [hk] at h
        obtain ⟨h1, h2⟩ := h
        obtain ⟨i1, i2⟩ := ih hl h2
        refine ⟨?_, by simpa using i2⟩
        simp [hk, i1, h1]

theorem run_eqFields (A : Nat → Prop) (w0 : World) (d D : Nat) (hrec : ∀ (t : TypeId) (m : List Bool), eqN P d t = some m → ∀ (xs ys : List V) (cx cy : List Value) (b : Bool), PRel w0 A xs cx → PRel w0 A ys cy → xs.filterMap kindV = m → eqCs xs ys = some b →
      ∀ w, (Op.equalIn D t (valOf P t cx) (valOf P t cy)).run P w = .ok b w) :
    ∀ (fs : List Field) (off : Nat) (m : List Bool), eqNF P (eqN P d) fs off = some m → ∀ (xs ys : List V) (cx cy : List Value) (b : Bool), PRel w0 A xs cx → PRel w0 A ys cy → (xs.drop off).filterMap kindV = m → eqCs (xs.drop off) (ys.drop off) = some b →
      ∀ w, (Op.eqFields D cx.toArray cy.toArray fs).run P w = .ok b w
  | [], off, m, h, xs, ys, cx, cy, b, _, _, hk, he, w => by
    simp only [eqNF, Option.some.injEq] at h
    subst h
    have hl := eqCs_kinds he
    rw [hk] at hl
    have h0 : xs.drop off = [] := List.eq_nil_of_length_eq_zero (by simpa using hl.symm)
    have h1 : ys.drop off = [] := List.eq_nil_of_length_eq_zero (by have := eqCs_len he; rw [h0] at this; simpa using this.symm)
    rw [h0, h1] at he
    simp [eqCs] at he
    subst he
    simp [Op.eqFields]
  | f :: fs, off, m, h, xs, ys, cx, cy, b, hx, hy, hk, he, w => by
    simp only [eqNF] at h
    split at h <;> try (cases h; done)
    rename_i hname
    split at h <;> try (cases h; done)
    rename_i mf hmf
    split at h <;> try (cases h; done)
    rename_i hsz
    cases hrest : eqNF P (eqN P d) fs (off + mf.length) with
    | none => simp [hrest] at h
    | some mr =>
      simp [hrest] at h
      subst h
      have hkl := eqCs_kinds he
      have hlen := eqCs_len he
      obtain ⟨k1, k2⟩ := filterMap_split hkl hk
      have hle : off + mf.length ≤ xs.length := by
        have h2 := congrArg List.length hk
        rw [hkl] at h2
        simp at h2
        omega
      have hley : off + mf.length ≤ ys.length := by simp at hlen; omega
      obtain ⟨hs1, hs2⟩ := hsz
      have hu := eqN_some hmf
      have h1 : isRowT P f.type = false → mf.length = 1 := eqN_row hmf
      have px := run_part (P := P) (w := w) hu hs1 hs2 (cs := cx) (off := off) (by rw [hx.1]; exact hle) h1
      have py := run_part (P := P) (w := w) hu hs1 hs2 (cs := cy) (off := off) (by rw [hy.1]; exact hley) h1
      have he' : eqCs (((xs.drop off).take mf.length) ++ ((xs.drop off).drop mf.length)) (((ys.drop off).take mf.length) ++ ((ys.drop off).drop mf.length)) = some b := by
        rw [List.take_append_drop, List.take_append_drop]; exact he
      obtain ⟨c, e, e1, e2, rfl⟩ := eqCs_append (by simp; omega) he'
      have hr := hrec f.type mf hmf _ _ _ _ c ((hx.drop off).take mf.length) ((hy.drop off).take mf.length) k1 e1 w
      simp only [List.drop_drop] at e2 k2
      have ht := run_eqFields A w0 d D hrec fs (off + mf.length) mr hrest xs ys cx cy e hx hy k2 e2 w
      obtain ⟨hn1, rfl⟩ := hname
      simp only [Op.eqFields, hn1, ne_eq, not_false_eq_true, if_true, Sem.run_bind, px, py, Result.andThen_ok, hr]
      cases c
      · simp
      · simpa using ht

theorem run_equalN (A : Nat → Prop) (w0 : World) : ∀ (d : Nat) (t : TypeId) (m : List Bool), eqN P d t = some m → ∀ (D : Nat), d ≤ D → ∀ (xs ys : List V) (cx cy : List Value) (b : Bool), PRel w0 A xs cx → PRel w0 A ys cy → xs.filterMap kindV = m → eqCs xs ys = some b →
      ∀ w, (Op.equalIn D t (valOf P t cx) (valOf P t cy)).run P w = .ok b w
  | d + 1, t, m, h, D, hD, xs, ys, cx, cy, b, hx, hy, hk, he, w => by
    obtain ⟨D, rfl⟩ : ∃ D', D = D' + 1 := ⟨D - 1, by omega⟩
    have hkl := eqCs_kinds he
    have hlen := eqCs_len he
    unfold eqN at h
    split at h
    · rename_i hu
      cases h
      have hr : isRowT P t = false := by unfold isRowT; rw [hu]
      rw [hk] at hkl
      cases xs with
      | nil => simp at hkl
      | cons x xs =>
        cases ys with
        | nil => simp at hlen
        | cons y ys =>
          have hxs : xs = [] := by simpa using hkl
          have hys : ys = [] := by simpa [hxs] using hlen
          subst hxs hys
          obtain ⟨u, u1, u2⟩ := hx.2 0 x rfl
          obtain ⟨v, v1, v2⟩ := hy.2 0 y rfl
          have ex : cx.headD undef = u := by cases cx <;> simp_all
          have ey : cy.headD undef = v := by cases cy <;> simp_all
          unfold valOf
          rw [hr]
          simp only [Bool.false_eq_true, if_false, ex, ey]
          cases x <;> cases y <;> simp only [eqCs] at he <;> try (cases he; done)
          · simp [kindV] at hk
          · cases u2; cases v2
            simp at he
            rw [run_equalIn_bool' w D t _ _ hu, he]
    · rename_i k hu
      cases h
      have hr : isRowT P t = false := by unfold isRowT; rw [hu]
      rw [hk] at hkl
      cases xs with
      | nil => simp at hkl
      | cons x xs =>
        cases ys with
        | nil => simp at hlen
        | cons y ys =>
          have hxs : xs = [] := by simpa using hkl
          have hys : ys = [] := by simpa [hxs] using hlen
          subst hxs hys
          obtain ⟨u, u1, u2⟩ := hx.2 0 x rfl
          obtain ⟨v, v1, v2⟩ := hy.2 0 y rfl
          have ex : cx.headD undef = u := by cases cx <;> simp_all
          have ey : cy.headD undef = v := by cases cy <;> simp_all
          unfold valOf
          rw [hr]
          simp only [Bool.false_eq_true, if_false, ex, ey]
          cases x <;> cases y <;> simp only [eqCs] at he <;> try (cases he; done)
          · cases u2; cases v2
            split at he <;> try (cases he; done)
            rename_i hkk
            subst hkk
            simp at he
            rw [run_equalIn_int w D t _ k _ _ hu, he]
          · simp [kindV] at hk
    · rename_i fs hu
      split at h <;> try (cases h; done)
      rename_i hheld
      have hr : isRowT P t = true := by unfold isRowT; rw [hu]
      unfold valOf
      rw [hr]
      simp only [if_true]
      have hfs : P.fieldsOf t = fs := by unfold Program.fieldsOf; rw [hu]
      rw [run_equalIn_struct w D t _ _ (by rw [hfs]; exact hu) (by simpa using hheld), hfs]
      exact run_eqFields A w0 d D (fun t m hm xs ys cx cy b h1 h2 h3 h4 w => run_equalN A w0 d t m hm D (by omega) xs ys cx cy b h1 h2 h3 h4 w) fs.toList 0 m h xs ys cx cy b hx hy (by simpa using hk) (by simpa using he) w
    · cases h


theorem PRel.of_agg {xs : List V} {v : Value} (h : Rel E (.agg xs) v) : ∃ vs : Array Value, v = .agg vs ∧ PRel E.w E.A xs vs.toList := by
  obtain ⟨vs, rfl, hs, hc⟩ := h
  exact ⟨vs, rfl, by simpa using hs, fun i x hx => let ⟨u, h1, h2⟩ := hc i x hx; ⟨u, by simpa using h1, h2⟩⟩

theorem run_shiftV {op : BinOp} {k yk : IntKind} {a b : Int} {p : Prop} {v : V} (h : shiftV op k a b = some (p, v)) (hp : p) (w : World) : ∃ u, (Op.shift op k a yk b).run P w = .ok u w ∧ RelP E.w E.A v u := by
  cases op <;> simp only [shiftV] at h <;> try (cases h; done)
  all_goals
    simp only [Option.some.injEq, Prod.mk.injEq] at h
    obtain ⟨rfl, rfl⟩ := h
    have hb : ¬ b < 0 := by omega
    refine ⟨_, ?_, .int _ _⟩
    simp [Op.shift, hb]

theorem run_intV {op : BinOp} {k : IntKind} {a b : Int} {p : Prop} {v : V} (h : intV op k a b = some (p, v)) (hp : p) (t : TypeId) (w : World) : ∃ u, (binOp op t (.int k a) (.int k b)).run P w = .ok u w ∧ RelP E.w E.A v u := by
  cases op <;> simp only [intV] at h <;> try (cases h; done)
  all_goals
    simp only [Option.some.injEq, Prod.mk.injEq] at h
    obtain ⟨rfl, rfl⟩ := h
    first
    | (refine ⟨_, ?_, .int _ _⟩; first | (simp [binOp, Op.intArith]; done) | (simp [binOp, Op.intBits]; done) | (simp [binOp, Op.intDiv, hp]; done))
    | (refine ⟨_, ?_, .bool _⟩; simp [binOp, Op.intCmp]; done)

theorem run_eqGuard_one {op : BinOp} {t : TypeId} {X Y : Operand} {a b : Value} (h : (∃ k n k' m, a = .int k n ∧ b = .int k' m) ∨ ∃ c d, a = .bool c ∧ b = .bool d) (w : World) : (eqGuard op t X Y a b).run P w = .ok () w := by
  rcases h with ⟨k, n, k', m, rfl, rfl⟩ | ⟨c, d, rfl, rfl⟩ <;> cases op <;> simp [eqGuard]

theorem elemT_some' {t e : TypeId} (h : elemT P t = some e) : P.underlying t = some (.slice e) := by
  unfold elemT at h
  split at h <;> first | (cases h; done) | (cases h; assumption)
theorem run_nilV {op : BinOp} {t : TypeId} {X Y : Operand} {a : Option Addr} {l c : Nat} {q : Prop} {p : Prop} {b : Bool} {v : V} (hb : a.isNone = b) (h : nilV P op t q b = some (p, v)) (hp : p) (w : World) :
    ∃ u, ((do eqGuard op t X Y (.slice a l c) (.slice none 0 0); binOp op t (.slice a l c) (.slice none 0 0)) : Sem Value).run P w = .ok u w ∧ RelP E.w E.A v u := by
  have hg : (eqGuard op t X Y (.slice a l c) (.slice none 0 0)).run P w = .ok () w := by cases op <;> simp [eqGuard]
  rw [Sem.run_bind, hg, Result.andThen_ok]
  unfold nilV at h
  split at h <;> try (cases h; done)
  · simp only [Option.some.injEq, Prod.mk.injEq] at h
    obtain ⟨rfl, rfl⟩ := h
    obtain ⟨e, he⟩ := Option.isSome_iff_exists.1 hp.2
    refine ⟨_, ?_, .bool _⟩
    simp only [binOp, Sem.run_bind, run_equal_slice_nil w t e a l c (elemT_some' he), Result.andThen_ok, Sem.run_pure, hb]
  · simp only [Option.some.injEq, Prod.mk.injEq] at h
    obtain ⟨rfl, rfl⟩ := h
    obtain ⟨e, he⟩ := Option.isSome_iff_exists.1 hp.2
    refine ⟨_, ?_, .bool _⟩
    rw [run_neq_slice_nil w t e a l c (elemT_some' he), hb]
theorem nilV_cond {op : BinOp} {t : TypeId} {q p : Prop} {b : Bool} {v : V} (h : nilV P op t q b = some (p, v)) (hp : p) : q := by
  unfold nilV at h
  split at h <;> first | cases h; done | (simp only [Option.some.injEq, Prod.mk.injEq] at h; rw [← h.1] at hp; exact hp.1)
theorem run_binV {op : BinOp} {t : TypeId} {x y : V} {X Y : Operand} {cx cy : Value} {p : Prop} {v : V} (hx : Rel E x cx) (hy : Rel E y cy) (h : binV P op t x y = some (p, v)) (hp : p) (w : World) :
    ∃ u, ((do eqGuard op t X Y cx cy; binOp op t cx cy) : Sem Value).run P w = .ok u w ∧ RelP E.w E.A v u := by
  unfold binV at h
  split at h
  · rename_i k a k' b
    cases hx; cases hy
    rw [Sem.run_bind, run_eqGuard_one (.inl ⟨_, _, _, _, rfl, rfl⟩), Result.andThen_ok]
    split at h
    · rename_i hs
      obtain ⟨u, h1, h2⟩ := run_shiftV (P := P) (E := E) (yk := k') h hp w
      refine ⟨u, ?_, h2⟩
      rw [← h1]
      cases op <;> simp_all [isShift, binOp]
    · split at h <;> try (cases h; done)
      rename_i hk
      subst hk
      exact run_intV h hp t w
  · rename_i a b
    cases hx; cases hy
    rw [Sem.run_bind, run_eqGuard_one (.inr ⟨_, _, rfl, rfl⟩), Result.andThen_ok]
    split at h <;> try (cases h; done)
    · simp only [Option.some.injEq, Prod.mk.injEq] at h
      obtain ⟨rfl, rfl⟩ := h
      refine ⟨_, ?_, .bool _⟩
      simp only [binOp, Op.equal, Op.maxDepth, Sem.run_bind, run_equalIn_bool' w 9999 t a b hp, Result.andThen_ok, Sem.run_pure]
    · simp only [Option.some.injEq, Prod.mk.injEq] at h
      obtain ⟨rfl, rfl⟩ := h
      refine ⟨_, ?_, .bool _⟩
      simp only [binOp, Op.equal, Op.maxDepth, Sem.run_bind, run_equalIn_bool' w 9999 t a b hp, Result.andThen_ok, Sem.run_pure]
      rfl
  · rename_i xs ys
    obtain ⟨vx, rfl, px⟩ := PRel.of_agg hx
    obtain ⟨vy, rfl, py⟩ := PRel.of_agg hy
    have key : ∀ b, eqCs xs ys = some b → isRowT P t = true → eqSh P t = some (xs.filterMap kindV) → P.eqGuardType P.depth t = false ∧ (Op.equalIn 10000 t (.agg vx) (.agg vy)).run P w = .ok b w := by
      intro b hb hrow hsh
      unfold eqSh at hsh
      split at hsh <;> try (cases hsh; done)
      rename_i hg
      refine ⟨by simpa using hg, ?_⟩
      have := run_equalN E.A E.w 8 t _ hsh 10000 (by omega) xs ys vx.toList vy.toList b px py rfl hb w
      simpa [valOf, hrow] using this
    split at h <;> try (cases h; done)
    · cases hb : eqCs xs ys with
      | none => simp [hb] at h
      | some b =>
        simp only [hb, Option.map_some, Option.some.injEq, Prod.mk.injEq] at h
        obtain ⟨rfl, rfl⟩ := h
        obtain ⟨k1, k2⟩ := key b hb hp.1 hp.2
        refine ⟨_, ?_, .bool _⟩
        rw [Sem.run_bind, run_eqGuard_agg w _ t X Y vx vy k1, Result.andThen_ok, run_eql_struct, k2, Result.andThen_ok]
    · cases hb : eqCs xs ys with
      | none => simp [hb] at h
      | some b =>
        simp only [hb, Option.map_some, Option.some.injEq, Prod.mk.injEq] at h
        obtain ⟨rfl, rfl⟩ := h
        obtain ⟨k1, k2⟩ := key b hb hp.1 hp.2
        refine ⟨_, ?_, .bool _⟩
        rw [Sem.run_bind, run_eqGuard_agg w _ t X Y vx vy k1, Result.andThen_ok, run_neq_struct, k2, Result.andThen_ok]
  · cases hx; cases hy
    exact run_nilV rfl h hp w
  · cases hy
    rename_i rows
    have hne := nilV_cond h hp
    cases hx with
    | slnil a => exact absurd rfl hne
    | sl _ b off cap es f hcap hb hes hc hr => exact run_nilV rfl h hp w
  · cases hy
    rename_i rows
    have hne := nilV_cond h hp
    rcases hx with ⟨_, rfl⟩ | ⟨b, off, cap, es, f, rfl, _⟩
    · exact absurd rfl hne
    · exact run_nilV rfl h hp w
  · cases hy
    cases hx
    exact run_nilV rfl h hp w
  · cases h

/-! ### Building -/
theorem fold_set (f : Array Value → Value × Nat → Array Value) (off : Nat) (hf : ∀ cs c j, f cs (c, j) = cs.setIfInBounds (off + j) c) : ∀ (vs : List Value) (k : Nat) (cells : Array Value), off + k + vs.length ≤ cells.size →
    ((vs.zipIdx k).foldl f cells).size = cells.size ∧ ∀ i, ((vs.zipIdx k).foldl f cells)[i]? = if off + k ≤ i ∧ i < off + k + vs.length then vs[i - (off + k)]? else cells[i]?
  | [], k, cells, _ => ⟨rfl, fun i => by simp only [List.zipIdx_nil, List.foldl_nil, List.length_nil]; rw [if_neg (by omega)]⟩
  | v :: vs, k, cells, h => by
    simp only [List.zipIdx_cons, List.foldl_cons, hf, List.length_cons] at h ⊢
    obtain ⟨h1, h2⟩ := fold_set f off hf vs (k + 1) (cells.setIfInBounds (off + k) v) (by simp; omega)
    refine ⟨by rw [h1]; simp, fun i => ?_⟩
    rw [h2 i]
    by_cases c1 : off + (k + 1) ≤ i ∧ i < off + (k + 1) + vs.length
    · rw [if_pos c1, if_pos (by omega), show i - (off + k) = (i - (off + (k + 1))) + 1 from by omega]
      simp
    · rw [if_neg c1]
      by_cases c2 : i = off + k
      · subst c2
        rw [if_pos (by omega)]
        simp only [Nat.sub_self, List.getElem?_cons_zero]
        rw [Array.getElem?_setIfInBounds_self_of_lt (by omega)]
      · rw [if_neg (by omega), Array.getElem?_setIfInBounds_ne (by omega)]

theorem fill_sound {E : Env} {imp : Bool} {place place' : Nat → Option (Nat × Nat)} (hpp : ∀ i q, place i = some q → place' i = some q) : ∀ (parts : List (Nat × V)) (cparts : List (Nat × Value)) (cs cs' : List V) (vs : Array Value),
    cparts.length = parts.length → (∀ (i : Nat) (q : Nat × V), parts[i]? = some q → ∃ u, cparts[i]? = some (q.1, u) ∧ Cells E imp q.2.cells u.cells.toList) →
    Cells E imp cs vs.toList → fillC place cs parts = some cs' → ∃ vs' : Array Value, Instr.fill place' vs cparts = some vs' ∧ Cells E imp cs' vs'.toList
  | [], cparts, cs, cs', vs, hl, _, hc, h => by
    have : cparts = [] := List.eq_nil_of_length_eq_zero (by simpa using hl)
    subst this
    simp only [fillC, Option.some.injEq] at h
    subst h
    exact ⟨vs, rfl, hc⟩
  | (i, x) :: parts, [], cs, cs', vs, hl, _, _, _ => by simp at hl
  | (i, x) :: parts, (i', u) :: cparts, cs, cs', vs, hl, hp, hc, h => by
    obtain ⟨u', h1, h2⟩ := hp 0 (i, x) rfl
    simp only [List.getElem?_cons_zero, Option.some.injEq, Prod.mk.injEq] at h1
    obtain ⟨rfl, rfl⟩ := h1
    simp only [fillC] at h
    split at h
    · cases h
    rename_i off size hpl
    split at h <;> try (cases h; done)
    rename_i hsz
    obtain ⟨z1, z2⟩ := hsz
    have hus : u.cells.size = x.cells.length := by simpa using h2.1
    have hvs : vs.size = cs.length := by simpa using hc.1
    have fs := fold_set (fun cs (c, j) => cs.setIfInBounds (off + j) c) off (fun _ _ _ => rfl) u.cells.toList 0 vs (by simp [hus]; omega)
    have hput : Cells E imp (putAt cs off x.cells) (((u.cells.toList.zipIdx 0).foldl (fun cs (c, j) => cs.setIfInBounds (off + j) c) vs)).toList := by
      refine ⟨?_, fun n z hz => ?_⟩
      · have := fs.1
        simp only [Array.length_toList, this, putAt, List.length_append, List.length_take, List.length_drop]
        omega
      · have g := fs.2 n
        simp only [Nat.add_zero, Array.length_toList] at g
        rw [Array.getElem?_toList, g]
        simp only [putAt, List.append_assoc] at hz
        by_cases c1 : n < off
        · rw [List.getElem?_append_left (by simp; omega), List.getElem?_take, if_pos c1] at hz
          rw [if_neg (by omega)]
          simpa using hc.2 n z hz
        · rw [List.getElem?_append_right (by simp; omega)] at hz
          simp only [List.length_take, show min off cs.length = off from by omega] at hz
          by_cases c2 : n - off < x.cells.length
          · rw [List.getElem?_append_left c2] at hz
            rw [if_pos (by omega)]
            exact h2.2 _ z hz
          · rw [List.getElem?_append_right (by omega), List.getElem?_drop] at hz
            rw [if_neg (by omega)]
            have := hc.2 _ z hz
            rw [show off + x.cells.length + (n - off - x.cells.length) = n from by omega] at this
            simpa using this
    obtain ⟨vs', g1, g2⟩ := fill_sound hpp parts cparts _ cs' _ (by simpa using hl) (fun n q hq => hp (n + 1) q hq) hput h
    refine ⟨vs', ?_, g2⟩
    simp only [Instr.fill, hpp _ _ hpl]
    rw [if_neg (by simp [hus]; omega)]
    rw [← g1]
    congr 1
    rw [← Array.foldl_toList]
    simp


theorem elemT_some {t e : TypeId} (h : elemT P t = some e) : P.underlying t = some (.slice e) := by
  unfold elemT at h
  split at h <;> simp_all

theorem run_v {P : Program} {s : Sem Value} {w w' : World} {u : Value} (h : s.run P w = .ok u w') : ((do pure (Next.value (← s))) : Sem Next).run P w = .ok (.value u) w' := by
  rw [Sem.run_bind, h]; rfl

theorem run_fieldAt {t : TypeId} {f off : Nat} {ft : TypeId} (h : fieldOf P t f = some (off, ft)) (b o : Nat) (w : World) :
    (Instr.fieldAt t (.pointer (some ⟨b, o, none⟩)) f).run P w = .ok (.pointer (some ⟨b, o + off, none⟩)) w := by
  unfold fieldOf at h
  split at h <;> try (cases h; done)
  rename_i fs hu
  cases hf : fs[f]? with
  | none => simp [hf] at h
  | some fd =>
    cases hi : P.info? fd.type with
    | none => simp [hf, hi] at h
    | some i =>
      simp only [hf, hi, Option.bind_some] at h
      split at h <;> try (cases h; done)
      rename_i hs
      simp only [Option.some.injEq, Prod.mk.injEq] at h
      obtain ⟨rfl, rfl⟩ := h
      simp only [Instr.fieldAt, Sem.run_bind, run_underlying hu, Result.andThen_ok, hf, Instr.sureAddr, Sem.run_pure, fieldPlace, sizeOf, typeInfo]
      simp [hi, hs, Addr.add_mid]

theorem run_field {t : TypeId} {f off : Nat} {ft : TypeId} (h : fieldOf P t f = some (off, ft)) (hu2 : (P.underlying ft).isSome) (cs : Array Value) (hle : off + szOf P ft ≤ cs.size) (h1 : isRowT P ft = false → szOf P ft = 1) (w : World) :
    (Instr.field t (.agg cs) f).run P w = .ok (valOf P ft ((cs.toList.drop off).take (szOf P ft))) w := by
  unfold fieldOf at h
  split at h <;> try (cases h; done)
  rename_i fs hu
  cases hf : fs[f]? with
  | none => simp [hf] at h
  | some fd =>
    cases hi : P.info? fd.type with
    | none => simp [hf, hi] at h
    | some i =>
      simp only [hf, hi, Option.bind_some] at h
      split at h <;> try (cases h; done)
      rename_i hs
      simp only [Option.some.injEq, Prod.mk.injEq] at h
      obtain ⟨rfl, rfl⟩ := h
      have hp := run_part (P := P) (w := w) (cs := cs.toList) (off := fd.offset) hu2 rfl (by unfold szOf; simp [hi]; omega) (by simpa using hle) h1
      simp only [Instr.field, Sem.run_bind, run_underlying hu, Result.andThen_ok, hf, asAgg, Sem.run_pure]
      simpa using hp

theorem run_indexArr {t e : TypeId} {m : Nat} (ht : arrOf P t = some (m, e)) (hs : 0 < szOf P e) {k : IntKind} {i : Int} (b off : Nat) (h0 : 0 ≤ i) (h1 : i < m) (w : World) :
    (Instr.indexAt t (.pointer (some ⟨b, off, none⟩)) (.int k i)).run P w = .ok (.pointer (some ⟨b, off + i.toNat * szOf P e, none⟩)) w := by
  obtain ⟨ti, hti, hsz⟩ := szOf_eq (P := P) (t := e) rfl hs
  have hu : P.underlying t = some (.array m e) := by
    unfold arrOf at ht
    split at ht <;> cases ht
    assumption
  simp only [Instr.indexAt, Sem.run_bind, asIntOf, Sem.run_pure, Result.andThen_ok, run_underlying hu]
  simp [h0, h1, sizeOf, typeInfo, hti, hsz, Addr.add_mid, Instr.sureAddr]

theorem run_indexAt {t e : TypeId} (ht : elemT P t = some e) (hs : 0 < szOf P e) {k : IntKind} {i : Int} (b off len cap : Nat) (h0 : 0 ≤ i) (h1 : i < len) (w : World) :
    (Instr.indexAt t (.slice (some ⟨b, off, none⟩) len cap) (.int k i)).run P w = .ok (.pointer (some ⟨b, off + i.toNat * szOf P e, none⟩)) w := by
  obtain ⟨ti, hti, hsz⟩ := szOf_eq (P := P) (t := e) rfl hs
  have hu := elemT_some ht
  simp only [Instr.indexAt, Sem.run_bind, asIntOf, Sem.run_pure, Result.andThen_ok, run_underlying hu]
  simp [h0, h1, sizeOf, typeInfo, hti, hsz, Addr.add_mid]

end
end Go.AL
