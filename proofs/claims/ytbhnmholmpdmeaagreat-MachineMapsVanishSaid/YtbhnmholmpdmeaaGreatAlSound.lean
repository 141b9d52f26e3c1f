/-
  THE ABSTRACT LAYER, THIRD PART: the model's operations do what the abstract ones say. By an AI agent.
-/
import Derived.Test.YtbhnmholmpdmeaaGreatAlOps
namespace Go.AL
set_option linter.unusedVariables false
set_option linter.unusedSimpArgs false
set_option linter.unusedSectionVars false

def St.ev (s : St) : Operand → V
  | .tmp i => if i < 100000 then s.t i else .dead
  | .const v => .ofVal v
  | .func f => .fn f []
  | .global _ => .dead

theorem Rel1.of_relP {E : Env} {x : V} {v : Value} (h : RelP E.w E.A x v) : Rel1 E x v := by cases h <;> first | exact .int _ _ | exact .bool _ | exact .str _ | exact .nil | exact .slnil _ | (exact .raw _ ‹_›) | (exact .sl _ _ _ _ _ _ ‹_› ‹_› ‹_› ‹_› ‹_›)
theorem RelA.of_relP {E : Env} {x : V} {v : Value} (h : RelP E.w E.A x v) : RelA E x v := by cases h <;> first | exact .int _ _ | exact .bool _ | exact .str _ | exact .nil | exact .slnil _ | (exact .raw _ ‹_›) | (exact .sl _ _ _ _ _ _ ‹_› ‹_› ‹_› ‹_› ‹_›)
theorem Rel.of_relP {E : Env} {x : V} {v : Value} (h : RelP E.w E.A x v) : Rel E x v := by cases h <;> first | exact .int _ _ | exact .bool _ | exact .str _ | exact .nil | exact .slnil _ | (exact .raw _ ‹_›) | (exact .sl _ _ _ _ _ _ ‹_› ‹_› ‹_› ‹_› ‹_›)

theorem relP_ofCell {w : World} {A : Nat → Prop} (v : Value) (h : v.oneCell' = true) : RelP w A (.ofCell v) v := by
  unfold V.ofCell
  split <;> first | exact .int _ _ | exact .bool _ | exact .str _ | exact .nil | (rw [if_pos h]; exact .raw _ h)

def Cells (E : Env) (imp : Bool) (cs : List V) (vs : List Value) : Prop :=
  vs.length = cs.length ∧ ∀ (i : Nat) (x : V), cs[i]? = some x → ∃ u, vs[i]? = some u ∧ u.oneCell' = true ∧ Rel1 E x u ∧ (imp = false → RelP E.w E.A x u)

theorem Cells.rel {E : Env} {imp : Bool} {cs : List V} {vs : List Value} (h : Cells E imp cs vs) : Rel E (mkAgg imp cs) (.agg vs.toArray) := by
  cases imp
  · exact ⟨vs.toArray, rfl, by simpa using h.1, fun i x hx => let ⟨u, h1, _, _, h4⟩ := h.2 i x hx; ⟨u, by simpa using h1, h4 rfl⟩⟩
  · exact ⟨vs.toArray, rfl, by simpa using h.1, fun i x hx => let ⟨u, h1, h2, h3, _⟩ := h.2 i x hx; ⟨u, by simpa using h1, h2, h3⟩⟩

theorem Cells.imp {E : Env} {imp : Bool} {cs : List V} {vs : List Value} (h : Cells E imp cs vs) : Cells E true cs vs :=
  ⟨h.1, fun i x hx => let ⟨u, h1, h2, h3, _⟩ := h.2 i x hx; ⟨u, h1, h2, h3, fun h => by cases h⟩⟩

theorem Cells.of_rel {E : Env} {x : V} {v : Value} (h : Rel E x v) (hs : x.stor E.h) : Cells E (!x.pure) x.cells v.cells.toList := by
  have single : ∀ (y : V), x.cells = [y] → v.cells = #[v] → v.oneCell' = true → Rel1 E y v → (x.pure = true → RelP E.w E.A y v) → Cells E (!x.pure) x.cells v.cells.toList := by
    intro y hx hv h1 hr hp
    rw [hx, hv]
    refine ⟨rfl, fun i z hz => ?_⟩
    cases i with
    | zero =>
      simp at hz
      subst hz
      exact ⟨v, rfl, h1, hr, fun hh => hp (by simpa using hh)⟩
    | succ i => simp at hz
  cases x with
  | agg cs =>
    obtain ⟨vs, rfl, hs, hc⟩ := h
    refine ⟨by simpa [Value.cells, V.cells] using hs, fun i x hx => ?_⟩
    obtain ⟨u, c1, c2⟩ := hc i x hx
    exact ⟨u, by simpa [Value.cells] using c1, c2.oneCell, Rel1.of_relP c2, fun _ => c2⟩
  | aggi cs =>
    obtain ⟨vs, rfl, hs, hc⟩ := h
    refine ⟨by simpa [Value.cells, V.cells] using hs, fun i x hx => ?_⟩
    obtain ⟨u, c1, c2, c3⟩ := hc i x hx
    exact ⟨u, by simpa [Value.cells] using c1, c2, c3, fun h => by simp [V.pure] at h⟩
  | int k n => cases h; exact single _ rfl rfl rfl (.int k n) (fun _ => .int k n)
  | bool b => cases h; exact single _ rfl rfl rfl (.bool b) (fun _ => .bool b)
  | str s => cases h; exact single _ rfl rfl rfl (.str s) (fun _ => .str s)
  | nil => cases h; exact single _ rfl rfl rfl .nil (fun _ => .nil)
  | raw u =>
    have h' : RelP E.w E.A (.raw u) v := h
    cases h' with
    | raw _ h2 => exact single (.raw v) rfl (by cases v <;> first | rfl | (simp [Value.oneCell'] at h2)) h2 (.raw v h2) (fun _ => .raw v h2)
  | sl rows =>
    have h' : RelP E.w E.A (.sl rows) v := h
    exact single (.sl rows) rfl (by cases h' <;> rfl) h'.oneCell h (fun _ => h)
  | rd rows =>
    have hv : v.cells = #[v] ∧ v.oneCell' = true := by rcases h with ⟨⟨_, rfl⟩, _⟩ | ⟨_, _, _, _, _, rfl, _⟩ <;> exact ⟨rfl, rfl⟩
    exact single (.rd rows) rfl hv.1 hv.2 h (fun h => by simp [V.pure] at h)
  | ref o n =>
    obtain ⟨ob, ho, hn⟩ := hs
    have h2 := (h ob ho).2 hn
    have hv : v.cells = #[v] ∧ v.oneCell' = true := by
      cases hb : E.β o with
      | none => rw [hb] at h2; subst h2; exact ⟨rfl, rfl⟩
      | some b => rw [hb] at h2; obtain ⟨_, _, rfl, _⟩ := h2; exact ⟨rfl, rfl⟩
    exact single (.ref o n) rfl hv.1 hv.2 h (fun h => by simp [V.pure] at h)
  | ptr o n i j =>
    obtain ⟨ob, ho, hn⟩ := hs
    obtain ⟨b, _, rfl⟩ := (h ob ho).2 hn
    exact single (.ptr o n i j) rfl rfl rfl h (fun h => by simp [V.pure] at h)
  | tup xs => exact hs.elim
  | fn f cs => exact hs.elim
  | cp row j => exact hs.elim
  | dead => exact hs.elim

def slotV (sv : Nat → Value) (a : Act) (i : Nat) : Value := if 100000 ≤ i ∧ a.tmps.size ≤ i then sv (i - 100000) else a.tmps.getD i undef
theorem slotV_lt {sv : Nat → Value} {a : Act} {i : Nat} (h : i < 100000 ∨ i < a.tmps.size) : slotV sv a i = a.tmps.getD i undef := if_neg (by omega)
/-! ### Running -/
section
variable {P : Program} {E : Env}

theorem szOf_eq {t : TypeId} {n : Nat} (h : szOf P t = n) (hn : 0 < n) : ∃ i, P.info? t = some i ∧ i.size = n := by
  unfold szOf at h
  cases hi : P.info? t with
  | none => simp [hi] at h; omega
  | some i => exact ⟨i, rfl, by simpa [hi] using h⟩

/-! ### Equality, cell by cell -/
theorem eqCs_len : ∀ {xs ys : List V} {b : Bool}, eqCs xs ys = some b → xs.length = ys.length
  | [], [], _, _ => rfl
  | .int k a :: xs, .int k' c :: ys, b, h => by
    simp only [eqCs] at h
    split at h <;> try (cases h; done)
    cases hr : eqCs xs ys with
    | none => simp [hr] at h
    | some r => simp [eqCs_len hr]
  | .bool a :: xs, .bool c :: ys, b, h => by
    simp only [eqCs] at h
    cases hr : eqCs xs ys with
    | none => simp [hr] at h
    | some r => simp [eqCs_len hr]

theorem eqCs_append : ∀ {xs xs' ys ys' : List V} {b : Bool}, xs.length = ys.length → eqCs (xs ++ xs') (ys ++ ys') = some b →
    ∃ c d, eqCs xs ys = some c ∧ eqCs xs' ys' = some d ∧ b = (c && d)
  | [], xs', [], ys', b, _, h => ⟨true, b, rfl, h, by simp⟩
  | x :: xs, xs', y :: ys, ys', b, hl, h => by
    have hl' : xs.length = ys.length := by simpa using hl
    cases x <;> cases y <;> simp only [List.cons_append, eqCs] at h <;> try (cases h; done)
    case int.int k a k' c =>
      split at h <;> try (cases h; done)
      rename_i hk
      cases hr : eqCs (xs ++ xs') (ys ++ ys') with
      | none => simp [hr] at h
      | some r =>
        simp [hr] at h
        obtain ⟨e, d, h1, h2, h3⟩ := eqCs_append hl' hr
        exact ⟨a == c && e, d, by simp [eqCs, hk, h1], h2, by rw [← h, h3, Bool.and_assoc]⟩
    case bool.bool a c =>
      cases hr : eqCs (xs ++ xs') (ys ++ ys') with
      | none => simp [hr] at h
      | some r =>
        simp [hr] at h
        obtain ⟨e, d, h1, h2, h3⟩ := eqCs_append hl' hr
        exact ⟨a == c && e, d, by simp [eqCs, h1], h2, by rw [← h, h3, Bool.and_assoc]⟩


theorem eqCs_kinds : ∀ {xs ys : List V} {b : Bool}, eqCs xs ys = some b → (xs.filterMap kindV).length = xs.length
  | [], [], _, _ => rfl
  | .int k a :: xs, .int k' c :: ys, b, h => by
    simp only [eqCs] at h
    split at h <;> try (cases h; done)
    cases hr : eqCs xs ys with
    | none => simp [hr] at h
    | some r => simp [kindV, eqCs_kinds hr]
  | .bool a :: xs, .bool c :: ys, b, h => by
    simp only [eqCs] at h
    cases hr : eqCs xs ys with
    | none => simp [hr] at h
    | some r => simp [kindV, eqCs_kinds hr]

def valOf (P : Program) (t : TypeId) (cs : List Value) : Value := if isRowT P t then .agg cs.toArray else cs.headD undef

def PRel (w : World) (A : Nat → Prop) (xs : List V) (vs : List Value) : Prop := vs.length = xs.length ∧ ∀ (i : Nat) (x : V), xs[i]? = some x → ∃ u, vs[i]? = some u ∧ RelP w A x u

theorem PRel.take {w : World} {A : Nat → Prop} {xs : List V} {vs : List Value} (h : PRel w A xs vs) (n : Nat) : PRel w A (xs.take n) (vs.take n) := by
  refine ⟨by simp [h.1], fun i x hx => ?_⟩
  rw [List.getElem?_take] at hx
  split at hx <;> try (cases hx; done)
  rename_i hi
  obtain ⟨u, h1, h2⟩ := h.2 i x hx
  exact ⟨u, by rw [List.getElem?_take, if_pos hi]; exact h1, h2⟩

theorem PRel.drop {w : World} {A : Nat → Prop} {xs : List V} {vs : List Value} (h : PRel w A xs vs) (n : Nat) : PRel w A (xs.drop n) (vs.drop n) := by
  refine ⟨by simp [h.1], fun i x hx => ?_⟩
  rw [List.getElem?_drop] at hx
  obtain ⟨u, h1, h2⟩ := h.2 _ x hx
  exact ⟨u, by rw [List.getElem?_drop]; exact h1, h2⟩

theorem isAgg_run {t : TypeId} {d : TypeDesc} (hu : P.underlying t = some d) (w : World) : (isAgg t).run P w = .ok (isRowT P t) w := by
  unfold isAgg isRowT
  rw [Sem.run_bind, run_underlying hu w, hu]
  cases d <;> simp

theorem run_part {t : TypeId} {w : World} {cs : List Value} {off n : Nat} (hu : (P.underlying t).isSome) (hn : szOf P t = n) (hpos : 0 < n) (hle : off + n ≤ cs.length) (h1 : isRowT P t = false → n = 1) :
    (part t cs.toArray off).run P w = .ok (valOf P t ((cs.drop off).take n)) w := by
  obtain ⟨d, hd⟩ := Option.isSome_iff_exists.1 hu
  obtain ⟨i, hi, hs⟩ := szOf_eq hn hpos
  unfold part valOf
  rw [Sem.run_bind, isAgg_run hd]
  cases hr : isRowT P t with
  | true =>
    simp [sizeOf, typeInfo, hi, hs]
  | false =>
    have hn1 := h1 hr
    subst hn1
    have hlt : off < cs.length := by omega
    simp [hlt]
    cases hdr : cs.drop off with
    | nil => simp at hdr; omega
    | cons a l =>
      have := congrArg (·[0]?) hdr
      simp [hlt] at this
      simp [this]

theorem eqN_row : ∀ {d : Nat} {t : TypeId} {m : List Bool}, eqN P d t = some m → isRowT P t = false → m.length = 1
  | d + 1, t, m, h, hr => by
    unfold eqN at h
    unfold isRowT at hr
    split at h
    · cases h; rfl
    · cases h; rfl
    · rename_i hu; rw [hu] at hr; cases hr
    · cases h

theorem eqN_some : ∀ {d : Nat} {t : TypeId} {m : List Bool}, eqN P d t = some m → (P.underlying t).isSome
  | d + 1, t, m, h => by
    unfold eqN at h
    split at h <;> first | (rename_i hu; rw [hu]; rfl) | cases h

theorem filterMap_split {xs : List V} {m rest : List Bool} (hl : (xs.filterMap kindV).length = xs.length) (h : xs.filterMap kindV = m ++ rest) : (xs.take m.length).filterMap kindV = m ∧ (xs.drop m.length).filterMap kindV = rest := by
  induction m generalizing xs with
  | nil => simpa using h
  | cons b m ih =>
    cases xs with
    | nil => simp at h
    | cons x xs =>
      cases hk : kindV x with
      | none =>
        simp [hk] at hl
        have := List.length_filterMap_le kindV xs
        omega
      | some c =>
        simp only [List.filterMap_cons, hk, List.length_cons, Nat.add_right_cancel_iff] at hl
        simp [hk] at h
        obtain ⟨h1, h2⟩ := h
        obtain ⟨i1, i2⟩ := ih hl h2
        refine ⟨?_, by simpa using i2⟩
        simp [hk, i1, h1]

theorem run_eqFields (A : Nat → Prop) (w0 : World) (d D : Nat) (hrec : ∀ (t : TypeId) (m : List Bool), eqN P d t = some m → ∀ (xs ys : List V) (cx cy : List Value) (b : Bool), PRel w0 A xs cx → PRel w0 A ys cy → xs.filterMap kindV = m → eqCs xs ys = some b →
      ∀ w, (Op.equalIn D t (valOf P t cx) (valOf P t cy)).run P w = .ok b w) :
    ∀ (fs : List Field) (off : Nat) (m : List Bool), eqNF P (eqN P d) fs off = some m → ∀ (xs ys : List V) (cx cy : List Value) (b : Bool), PRel w0 A xs cx → PRel w0 A ys cy → (xs.drop off).filterMap kindV = m → eqCs (xs.drop off) (ys.drop off) = some b →
      ∀ w, (Op.eqFields D cx.toArray cy.toArray fs).run P w = .ok b w
  | [], off, m, h, xs, ys, cx, cy, b, _, _, hk, he, w => by
    simp only [eqNF, Option.some.injEq] at h
    subst h
    have hl := eqCs_kinds he
    rw [hk] at hl
    have h0 : xs.drop off = [] := List.eq_nil_of_length_eq_zero (by simpa using hl.symm)
    have h1 : ys.drop off = [] := List.eq_nil_of_length_eq_zero (by have := eqCs_len he; rw [h0] at this; simpa using this.symm)
    rw [h0, h1] at he
    simp [eqCs] at he
    subst he
    simp [Op.eqFields]
  | f :: fs, off, m, h, xs, ys, cx, cy, b, hx, hy, hk, he, w => by
    simp only [eqNF] at h
    split at h <;> try (cases h; done)
    rename_i hname
    split at h <;> try (cases h; done)
    rename_i mf hmf
    split at h <;> try (cases h; done)
    rename_i hsz
    cases hrest : eqNF P (eqN P d) fs (off + mf.length) with
    | none => simp [hrest] at h
    | some mr =>
      simp [hrest] at h
      subst h
      have hkl := eqCs_kinds he
      have hlen := eqCs_len he
      obtain ⟨k1, k2⟩ := filterMap_split hkl hk
      have hle : off + mf.length ≤ xs.length := by
        have h2 := congrArg List.length hk
        rw [hkl] at h2
        simp at h2
        omega
      have hley : off + mf.length ≤ ys.length := by simp at hlen; omega
      obtain ⟨hs1, hs2⟩ := hsz
      have hu := eqN_some hmf
      have h1 : isRowT P f.type = false → mf.length = 1 := eqN_row hmf
      have px := run_part (P := P) (w := w) hu hs1 hs2 (cs := cx) (off := off) (by rw [hx.1]; exact hle) h1
      have py := run_part (P := P) (w := w) hu hs1 hs2 (cs := cy) (off := off) (by rw [hy.1]; exact hley) h1
      have he' : eqCs (((xs.drop off).take mf.length) ++ ((xs.drop off).drop mf.length)) (((ys.drop off).take mf.length) ++ ((ys.drop off).drop mf.length)) = some b := by
        rw [List.take_append_drop, List.take_append_drop]; exact he
      obtain ⟨c, e, e1, e2, rfl⟩ := eqCs_append (by simp; omega) he'
      have hr := hrec f.type mf hmf _ _ _ _ c ((hx.drop off).take mf.length) ((hy.drop off).take mf.length) k1 e1 w
      simp only [List.drop_drop] at e2 k2
      have ht := run_eqFields A w0 d D hrec fs (off + mf.length) mr hrest xs ys cx cy e hx hy k2 e2 w
      obtain ⟨hn1, rfl⟩ := hname
      simp only [Op.eqFields, hn1, ne_eq, not_false_eq_true, if_true, Sem.run_bind, px, py, Result.andThen_ok, hr]
      cases c
      · simp
      · simpa using ht

theorem run_equalN (A : Nat → Prop) (w0 : World) : ∀ (d : Nat) (t : TypeId) (m : List Bool), eqN P d t = some m → ∀ (D : Nat), d ≤ D → ∀ (xs ys : List V) (cx cy : List Value) (b : Bool), PRel w0 A xs cx → PRel w0 A ys cy → xs.filterMap kindV = m → eqCs xs ys = some b →
      ∀ w, (Op.equalIn D t (valOf P t cx) (valOf P t cy)).run P w = .ok b w
  | d + 1, t, m, h, D, hD, xs, ys, cx, cy, b, hx, hy, hk, he, w => by
    obtain ⟨D, rfl⟩ : ∃ D', D = D' + 1 := ⟨D - 1, by omega⟩
    have hkl := eqCs_kinds he
    have hlen := eqCs_len he
    unfold eqN at h
    split at h
    · rename_i hu
      cases h
      have hr : isRowT P t = false := by unfold isRowT; rw [hu]
      rw [hk] at hkl
      cases xs with
      | nil => simp at hkl
      | cons x xs =>
        cases ys with
        | nil => simp at hlen
        | cons y ys =>
          have hxs : xs = [] := by simpa using hkl
          have hys : ys = [] := by simpa [hxs] using hlen
          subst hxs hys
          obtain ⟨u, u1, u2⟩ := hx.2 0 x rfl
          obtain ⟨v, v1, v2⟩ := hy.2 0 y rfl
          have ex : cx.headD undef = u := by cases cx <;> simp_all
          have ey : cy.headD undef = v := by cases cy <;> simp_all
          unfold valOf
          rw [hr]
          simp only [Bool.false_eq_true, if_false, ex, ey]
          cases x <;> cases y <;> simp only [eqCs] at he <;> try (cases he; done)
          · simp [kindV] at hk
          · cases u2; cases v2
            simp at he
            rw [run_equalIn_bool' w D t _ _ hu, he]
    · rename_i k hu
      cases h
      have hr : isRowT P t = false := by unfold isRowT; rw [hu]
      rw [hk] at hkl
      cases xs with
      | nil => simp at hkl
      | cons x xs =>
        cases ys with
        | nil => simp at hlen
        | cons y ys =>
          have hxs : xs = [] := by simpa using hkl
          have hys : ys = [] := by simpa [hxs] using hlen
          subst hxs hys
          obtain ⟨u, u1, u2⟩ := hx.2 0 x rfl
          obtain ⟨v, v1, v2⟩ := hy.2 0 y rfl
          have ex : cx.headD undef = u := by cases cx <;> simp_all
          have ey : cy.headD undef = v := by cases cy <;> simp_all
          unfold valOf
          rw [hr]
          simp only [Bool.false_eq_true, if_false, ex, ey]
          cases x <;> cases y <;> simp only [eqCs] at he <;> try (cases he; done)
          · cases u2; cases v2
            split at he <;> try (cases he; done)
            rename_i hkk
            subst hkk
            simp at he
            rw [run_equalIn_int w D t _ k _ _ hu, he]
          · simp [kindV] at hk
    · rename_i fs hu
      split at h <;> try (cases h; done)
      rename_i hheld
      have hr : isRowT P t = true := by unfold isRowT; rw [hu]
      unfold valOf
      rw [hr]
      simp only [if_true]
      have hfs : P.fieldsOf t = fs := by unfold Program.fieldsOf; rw [hu]
      rw [run_equalIn_struct w D t _ _ (by rw [hfs]; exact hu) (by simpa using hheld), hfs]
      exact run_eqFields A w0 d D (fun t m hm xs ys cx cy b h1 h2 h3 h4 w => run_equalN A w0 d t m hm D (by omega) xs ys cx cy b h1 h2 h3 h4 w) fs.toList 0 m h xs ys cx cy b hx hy (by simpa using hk) (by simpa using he) w
    · cases h


/-! ### Building -/
theorem fold_set (f : Array Value → Value × Nat → Array Value) (off : Nat) (hf : ∀ cs c j, f cs (c, j) = cs.setIfInBounds (off + j) c) : ∀ (vs : List Value) (k : Nat) (cells : Array Value), off + k + vs.length ≤ cells.size →
    ((vs.zipIdx k).foldl f cells).size = cells.size ∧ ∀ i, ((vs.zipIdx k).foldl f cells)[i]? = if off + k ≤ i ∧ i < off + k + vs.length then vs[i - (off + k)]? else cells[i]?
  | [], k, cells, _ => ⟨rfl, fun i => by simp only [List.zipIdx_nil, List.foldl_nil, List.length_nil]; rw [if_neg (by omega)]⟩
  | v :: vs, k, cells, h => by
    simp only [List.zipIdx_cons, List.foldl_cons, hf, List.length_cons] at h ⊢
    obtain ⟨h1, h2⟩ := fold_set f off hf vs (k + 1) (cells.setIfInBounds (off + k) v) (by simp; omega)
    refine ⟨by rw [h1]; simp, fun i => ?_⟩
    rw [h2 i]
    by_cases c1 : off + (k + 1) ≤ i ∧ i < off + (k + 1) + vs.length
    · rw [if_pos c1, if_pos (by omega), show i - (off + k) = (i - (off + (k + 1))) + 1 from by omega]
      simp
    · rw [if_neg c1]
      by_cases c2 : i = off + k
      · subst c2
        rw [if_pos (by omega)]
        simp only [Nat.sub_self, List.getElem?_cons_zero]
        rw [Array.getElem?_setIfInBounds_self_of_lt (by omega)]
      · rw [if_neg (by omega), Array.getElem?_setIfInBounds_ne (by omega)]

theorem fill_sound {E : Env} {imp : Bool} {place place' : Nat → Option (Nat × Nat)} (hpp : ∀ i q, place i = some q → place' i = some q) : ∀ (parts : List (Nat × V)) (cparts : List (Nat × Value)) (cs cs' : List V) (vs : Array Value),
    cparts.length = parts.length → (∀ (i : Nat) (q : Nat × V), parts[i]? = some q → ∃ u, cparts[i]? = some (q.1, u) ∧ Cells E imp q.2.cells u.cells.toList) →
    Cells E imp cs vs.toList → fillC place cs parts = some cs' → ∃ vs' : Array Value, Instr.fill place' vs cparts = some vs' ∧ Cells E imp cs' vs'.toList
  | [], cparts, cs, cs', vs, hl, _, hc, h => by
    have : cparts = [] := List.eq_nil_of_length_eq_zero (by simpa using hl)
    subst this
    simp only [fillC, Option.some.injEq] at h
    subst h
    exact ⟨vs, rfl, hc⟩
  | (i, x) :: parts, [], cs, cs', vs, hl, _, _, _ => by simp at hl
  | (i, x) :: parts, (i', u) :: cparts, cs, cs', vs, hl, hp, hc, h => by
    obtain ⟨u', h1, h2⟩ := hp 0 (i, x) rfl
    simp only [List.getElem?_cons_zero, Option.some.injEq, Prod.mk.injEq] at h1
    obtain ⟨rfl, rfl⟩ := h1
    simp only [fillC] at h
    split at h
    · cases h
    rename_i off size hpl
    split at h <;> try (cases h; done)
    rename_i hsz
    obtain ⟨z1, z2⟩ := hsz
    have hus : u.cells.size = x.cells.length := by simpa using h2.1
    have hvs : vs.size = cs.length := by simpa using hc.1
    have fs := fold_set (fun cs (c, j) => cs.setIfInBounds (off + j) c) off (fun _ _ _ => rfl) u.cells.toList 0 vs (by simp [hus]; omega)
    have hput : Cells E imp (putAt cs off x.cells) (((u.cells.toList.zipIdx 0).foldl (fun cs (c, j) => cs.setIfInBounds (off + j) c) vs)).toList := by
      refine ⟨?_, fun n z hz => ?_⟩
      · have := fs.1
        simp only [Array.length_toList, this, putAt, List.length_append, List.length_take, List.length_drop]
        omega
      · have g := fs.2 n
        simp only [Nat.add_zero, Array.length_toList] at g
        rw [Array.getElem?_toList, g]
        simp only [putAt, List.append_assoc] at hz
        by_cases c1 : n < off
        · rw [List.getElem?_append_left (by simp; omega), List.getElem?_take, if_pos c1] at hz
          rw [if_neg (by omega)]
          simpa using hc.2 n z hz
        · rw [List.getElem?_append_right (by simp; omega)] at hz
          simp only [List.length_take, show min off cs.length = off from by omega] at hz
          by_cases c2 : n - off < x.cells.length
          · rw [List.getElem?_append_left c2] at hz
            rw [if_pos (by omega)]
            exact h2.2 _ z hz
          · rw [List.getElem?_append_right (by omega), List.getElem?_drop] at hz
            rw [if_neg (by omega)]
            have := hc.2 _ z hz
            rw [show off + x.cells.length + (n - off - x.cells.length) = n from by omega] at this
            simpa using this
    obtain ⟨vs', g1, g2⟩ := fill_sound hpp parts cparts _ cs' _ (by simpa using hl) (fun n q hq => hp (n + 1) q hq) hput h
    refine ⟨vs', ?_, g2⟩
    simp only [Instr.fill, hpp _ _ hpl]
    rw [if_neg (by simp [hus]; omega)]
    rw [← g1]
    congr 1
    rw [← Array.foldl_toList]
    simp


theorem elemT_some {t e : TypeId} (h : elemT P t = some e) : P.underlying t = some (.slice e) := by
  unfold elemT at h
  split at h <;> simp_all

end
end Go.AL
