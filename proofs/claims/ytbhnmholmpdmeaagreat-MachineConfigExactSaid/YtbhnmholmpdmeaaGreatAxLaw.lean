/-
  THE EXECUTOR, NINTH PART: from a law's contract to its statement. By an AI agent.
-/
import Derived.Test.YtbhnmholmpdmeaaGreatAxRun
import Derived.ProofKit
import Derived.ChangeSame
import Derived.WideKeyArgs
namespace Go.AL
open Go.RowKit Go.ChangeShapes
set_option linter.unusedVariables false
set_option linter.unusedSimpArgs false
set_option linter.unusedSectionVars false

def All1 {A : Type} (p : A → Prop) : List A → Prop
  | [] => True
  | a :: l => p a ∧ All1 p l
def InK (k : IntKind) (n : Int) : Prop := k.min ≤ n ∧ n ≤ k.max
mutual
def TyW : (t : Ty) → t.T → Prop
  | .int k, n => InK k n
  | .bool, _ => True
  | .str, s => ByteArray.size s ≤ maxLen
  | .sl cs, l => List.length (α := RowT cs) l ≤ maxLen ∧ All1 (RowW cs) l
def RowW : (τ : List Ty) → RowT τ → Prop
  | [], _ => True
  | t :: ts, x => RowW1 (TyW t) ts x
def RowW1 {A : Type} (R : A → Prop) : (τ : List Ty) → RowT1 A τ → Prop
  | [], x => R x
  | t :: ts, x => R (Prod.fst x) ∧ RowW1 (TyW t) ts (Prod.snd x)
end

theorem rowV_cons {t : Ty} {ts : List Ty} {x : RowT (t :: ts)} {row : List V} : RowV (t :: ts) x row ↔ RowV1 (TyV t) ts x row := by simp only [RowV]
theorem rowV_nil {x : RowT []} {row : List V} : RowV [] x row ↔ row = [] := by simp only [RowV]
theorem rowV1_nil {A : Type} {R : A → V → Prop} {x : RowT1 A []} {row : List V} : RowV1 R [] x row ↔ ∃ v, row = [v] ∧ R x v := by simp only [RowV1]
theorem rowV1_cons {A : Type} {R : A → V → Prop} {t : Ty} {ts : List Ty} {x : RowT1 A (t :: ts)} {row : List V} :
    RowV1 R (t :: ts) x row ↔ ∃ v r, row = v :: r ∧ R (Prod.fst (α := A) (β := RowT1 t.T ts) x) v ∧ RowV1 (TyV t) ts (Prod.snd (α := A) (β := RowT1 t.T ts) x) r := by simp only [RowV1]
theorem rowW_cons {t : Ty} {ts : List Ty} {x : RowT (t :: ts)} : RowW (t :: ts) x ↔ RowW1 (TyW t) ts x := by simp only [RowW]
theorem rowW_nil {x : RowT []} : RowW [] x ↔ True := by simp only [RowW]
theorem rowW1_nil {A : Type} {R : A → Prop} {x : RowT1 A []} : RowW1 R [] x ↔ R x := by simp only [RowW1]
theorem rowW1_cons {A : Type} {R : A → Prop} {t : Ty} {ts : List Ty} {x : RowT1 A (t :: ts)} :
    RowW1 R (t :: ts) x ↔ R (Prod.fst (α := A) (β := RowT1 t.T ts) x) ∧ RowW1 (TyW t) ts (Prod.snd (α := A) (β := RowT1 t.T ts) x) := by simp only [RowW1]
theorem rowV_one {t : Ty} {x : RowT [t]} {row : List V} : RowV [t] x row ↔ ∃ v, row = [v] ∧ TyV t x v := rowV_cons.trans (rowV1_nil (R := TyV t) (x := x))
theorem rowW_one {t : Ty} {x : RowT [t]} : RowW [t] x ↔ TyW t x := rowW_cons.trans (rowW1_nil (R := TyW t) (x := x))
theorem tyV_sl {cs : List Ty} {l : (Ty.sl cs).T} {v : V} : TyV (.sl cs) l v ↔ ((l : List (RowT cs)) = [] ∧ v = .nil) ∨ ∃ rows, v = .sl rows ∧ RowsV cs l rows := by simp only [TyV, RowsV]
theorem tyV_int {k : IntKind} {n : (Ty.int k).T} {v : V} : TyV (.int k) n v ↔ v = .int k n := by simp only [TyV]
theorem tyV_bool {n : Ty.bool.T} {v : V} : TyV .bool n v ↔ v = .bool n := by simp only [TyV]
theorem tyV_str {n : Ty.str.T} {v : V} : TyV .str n v ↔ v = .str n := by simp only [TyV]
theorem tyW_sl {cs : List Ty} {l : (Ty.sl cs).T} : TyW (.sl cs) l ↔ List.length (α := RowT cs) l ≤ maxLen ∧ All1 (RowW cs) l := by simp only [TyW]
theorem tyW_int {k : IntKind} {n : (Ty.int k).T} : TyW (.int k) n ↔ InK k n := by simp only [TyW]
theorem tyW_bool {n : Ty.bool.T} : TyW .bool n ↔ True := by simp only [TyW]
theorem tyW_str {n : Ty.str.T} : TyW .str n ↔ ByteArray.size n ≤ maxLen := by simp only [TyW]

def noA : Nat → Prop := fun _ => False

def RowR (w : World) (row : List V) (cs : List Value) : Prop := row.length = cs.length ∧ ∀ (i : Nat) (v : V), row[i]? = some v → ∃ u, cs[i]? = some u ∧ RelP w noA v u

theorem RowR.app {w : World} {r1 r2 : List V} {c1 c2 : List Value} (h1 : RowR w r1 c1) (h2 : RowR w r2 c2) : RowR w (r1 ++ r2) (c1 ++ c2) := by
  refine ⟨by simp [h1.1, h2.1], fun i v hv => ?_⟩
  rcases Nat.lt_or_ge i r1.length with h | h
  · rw [List.getElem?_append_left h] at hv
    obtain ⟨u, e1, e2⟩ := h1.2 i v hv
    exact ⟨u, by rw [List.getElem?_append_left (by rw [← h1.1]; exact h)]; exact e1, e2⟩
  · rw [List.getElem?_append_right h] at hv
    obtain ⟨u, e1, e2⟩ := h2.2 _ v hv
    exact ⟨u, by rw [List.getElem?_append_right (by rw [← h1.1]; exact h), ← h1.1]; exact e1, e2⟩

def joinRow1 {A : Type} : (τ : List Ty) → {t : Ty} → {ts : List Ty} → RowT1 A τ → RowT1 t.T ts → RowT1 A (τ ++ t :: ts)
  | [], _, _, x, y => (x, y)
  | _ :: τ, _, _, x, y => (Prod.fst x, joinRow1 τ (Prod.snd x) y)
theorem joinRow1_v {A : Type} : ∀ (τ : List Ty) (R : A → V → Prop) {t : Ty} {ts : List Ty} (x : RowT1 A τ) (y : RowT1 t.T ts) (r1 r2 : List V), RowV1 R τ x r1 → RowV1 (TyV t) ts y r2 → RowV1 R (τ ++ t :: ts) (joinRow1 τ x y) (r1 ++ r2)
  | [], R, t, ts, x, y, r1, r2, h1, h2 => by
    obtain ⟨v, rfl, hv⟩ := rowV1_nil.1 h1
    exact rowV1_cons.2 ⟨v, r2, rfl, hv, h2⟩
  | t0 :: τ, R, t, ts, x, y, r1, r2, h1, h2 => by
    obtain ⟨v, r, rfl, hv, hr⟩ := rowV1_cons.1 h1
    exact rowV1_cons.2 ⟨v, r ++ r2, rfl, hv, joinRow1_v τ (TyV t0) _ y r r2 hr h2⟩
theorem joinRow1_w {A : Type} : ∀ (τ : List Ty) (R : A → Prop) {t : Ty} {ts : List Ty} (x : RowT1 A τ) (y : RowT1 t.T ts), RowW1 R τ x → RowW1 (TyW t) ts y → RowW1 R (τ ++ t :: ts) (joinRow1 τ x y)
  | [], R, t, ts, x, y, h1, h2 => rowW1_cons.2 ⟨rowW1_nil.1 h1, h2⟩
  | t0 :: τ, R, t, ts, x, y, h1, h2 => rowW1_cons.2 ⟨(rowW1_cons.1 h1).1, joinRow1_w τ (TyW t0) _ y (rowW1_cons.1 h1).2 h2⟩

theorem row_join (τ σ : List Ty) (x : RowT τ) (y : RowT σ) (r1 r2 : List V) (h1 : RowV τ x r1) (h2 : RowV σ y r2) (w1 : RowW τ x) (w2 : RowW σ y) : ∃ z : RowT (τ ++ σ), RowV (τ ++ σ) z (r1 ++ r2) ∧ RowW (τ ++ σ) z := by
  cases σ with
  | nil =>
    have := rowV_nil.1 h2
    subst this
    rw [List.append_nil, List.append_nil]
    exact ⟨x, h1, w1⟩
  | cons t ts =>
    cases τ with
    | nil =>
      have := rowV_nil.1 h1
      subst this
      exact ⟨y, h2, w2⟩
    | cons t0 τ => exact ⟨joinRow1 τ x y, rowV_cons.2 (joinRow1_v τ (TyV t0) x y r1 r2 (rowV_cons.1 h1) (rowV_cons.1 h2)), rowW_cons.2 (joinRow1_w τ (TyW t0) x y (rowW_cons.1 w1) (rowW_cons.1 w2))⟩

theorem list_choice {A : Type} {p : Nat → A → Prop} : ∀ (n : Nat), (∀ i, i < n → ∃ a, p i a) → ∃ l : List A, l.length = n ∧ ∀ i a, l[i]? = some a → p i a
  | 0, _ => ⟨[], rfl, fun i a h => by simp at h⟩
  | n + 1, h => by
    obtain ⟨l, h1, h2⟩ := list_choice n (fun i hi => h i (by omega))
    obtain ⟨a, ha⟩ := h n (by omega)
    refine ⟨l ++ [a], by simp [h1], fun i b hb => ?_⟩
    rcases Nat.lt_or_ge i l.length with hi | hi
    · rw [List.getElem?_append_left hi] at hb; exact h2 i b hb
    · rw [List.getElem?_append_right hi] at hb
      have : i - l.length = 0 := by
        rcases Nat.eq_zero_or_pos (i - l.length) with h | h
        · exact h
        · rw [List.getElem?_eq_none (by simp; omega)] at hb; cases hb
      rw [this] at hb
      simp at hb
      subst hb
      have : i = n := by omega
      subst this
      exact ha

section
variable {H : Type} {enc : TypeId × Value → H} {P : Program} {w : World}

theorem cells_get {a : Addr} {n : Nat} {cs : List Value} (h : w.cells? 0 a n = some cs) : cs.length = n ∧ ∀ (j : Nat) (u : Value), cs[j]? = some u → w.cell? (a.add j) = some u := by
  unfold World.cells? at h
  split at h <;> try (cases h; done)
  refine ⟨by simpa using mapM_some_length h, fun j u hu => ?_⟩
  have hj : j < n := by
    have := (List.getElem?_eq_some_iff.1 hu).1
    have := mapM_some_length h
    simp at this
    omega
  have := mapM_some_get h j j (by simp [hj])
  rw [this]
  exact hu

theorem cell_spot {a : Addr} {u : Value} (h : w.cell? (a.add 0) = some u) : a.spot = none ∧ a.block < w.heap.size := by
  have e : a.add 0 = a := by simp [Addr.add]
  rw [e] at h
  unfold World.cell? at h
  split at h <;> try (cases h; done)
  rename_i c _ _ hb
  split at h <;> try (cases h; done)
  rename_i hs
  refine ⟨by simpa using hs, ?_⟩
  rcases Nat.lt_or_ge a.block w.heap.size with h1 | h1
  · exact h1
  · rw [Array.getElem?_eq_none h1] at hb; cases hb

theorem trod_rel : ∀ (d : Nat) (t : TypeId) (τ : List Ty), rowTy P d t = some τ → ∀ (fuel : Nat) (cs : List Value) (x : DataW H × List MemPlace), DataW.trod enc P w 0 (fun _ => true) true fuel t cs = some x →
    ∃ (y : RowT τ) (row : List V), RowV τ y row ∧ RowR w row cs ∧ RowW τ y := by
  intro d
  induction d with
  | zero => intro t τ h; cases h
  | succ d ih =>
    intro t τ h fuel cs x hx
    simp only [rowTy] at h
    split at h <;> try (cases h; done)
    · rename_i hu
      cases h
      obtain ⟨b, rfl, _⟩ := DataW.trod_bool hu hx
      refine ⟨b, [.bool b], ?_, ⟨rfl, fun i v hv => ?_⟩, ?_⟩
      · exact rowV_one.2 ⟨_, rfl, tyV_bool.2 rfl⟩
      · match i with
        | 0 => simp at hv; subst hv; exact ⟨_, rfl, .bool b⟩
        | i + 1 => simp at hv
      · exact rowW_one.2 (tyW_bool.2 trivial)
    · rename_i hu
      cases h
      obtain ⟨b, rfl, _, hb⟩ := DataW.trod_string hu hx
      refine ⟨b, [.str b], ?_, ⟨rfl, fun i v hv => ?_⟩, ?_⟩
      · exact rowV_one.2 ⟨_, rfl, tyV_str.2 rfl⟩
      · match i with
        | 0 => simp at hv; subst hv; exact ⟨_, rfl, .str b⟩
        | i + 1 => simp at hv
      · exact rowW_one.2 (tyW_str.2 hb)
    · rename_i k hu
      cases h
      obtain ⟨n, rfl, _, hn⟩ := DataW.trod_int hu hx
      refine ⟨n, [.int k n], ?_, ⟨rfl, fun i v hv => ?_⟩, ?_⟩
      · exact rowV_one.2 ⟨_, rfl, tyV_int.2 rfl⟩
      · match i with
        | 0 => simp at hv; subst hv; exact ⟨_, rfl, .int k n⟩
        | i + 1 => simp at hv
      · exact rowW_one.2 (tyW_int.2 (by simp only [Lit.wf, Bool.and_eq_true, decide_eq_true_eq] at hn; exact hn))
    · rename_i e hu
      split at h <;> try (cases h; done)
      rename_i c r hr
      cases h
      rcases DataW.trod_slice hu hx with ⟨rfl, _⟩ | ⟨a, len, cap, elems, rest, n, rfl, rfl, _, _, hlc, hcm, hlen, hel, hsp, _⟩
      · refine ⟨([] : List (RowT (c :: r))), [.nil], ?_, ⟨rfl, fun i v hv => ?_⟩, ?_⟩
        · exact rowV_one.2 ⟨_, rfl, tyV_sl.2 (.inl ⟨rfl, rfl⟩)⟩
        · match i with
          | 0 => simp at hv; subst hv; exact ⟨_, rfl, .nil⟩
          | i + 1 => simp at hv
        · exact rowW_one.2 (tyW_sl.2 ⟨Nat.zero_le _, trivial⟩)
      · -- one element
        have one : ∀ i, (∃ z, (w.cells? 0 (a.add (i * P.cellsOf e)) (P.cellsOf e)).bind (DataW.trod enc P w 0 (fun _ => true) true n e) = some z) →
            ∃ (y : RowT (c :: r)) (row : List V) (ci : List Value), RowV (c :: r) y row ∧ RowW (c :: r) y ∧ RowR w row ci ∧ row.length = (c :: r).length ∧ ci.length = P.cellsOf e ∧ ∀ (j : Nat) (u : Value), ci[j]? = some u → w.cell? ((a.add (i * P.cellsOf e)).add j) = some u := by
          rintro i ⟨z, hz⟩
          rw [Option.bind_eq_some_iff] at hz
          obtain ⟨ci, hci, hz⟩ := hz
          obtain ⟨y, row, h1, h2, h3⟩ := ih e (c :: r) hr n ci z hz
          obtain ⟨e1, e2⟩ := cells_get hci
          exact ⟨y, row, ci, h1, h3, h2, rowV_len h1, e1, e2⟩
        have hce : cap ≠ 0 → a.spot = none ∧ a.block < w.heap.size ∧ P.cellsOf e = (c :: r).length := by
          intro hc0
          have hz : ∃ z, (w.cells? 0 (a.add (0 * P.cellsOf e)) (P.cellsOf e)).bind (DataW.trod enc P w 0 (fun _ => true) true n e) = some z := by
            by_cases hl : len = 0
            · obtain ⟨k1, k2⟩ := hsp rfl
              have := k2 0 (by omega)
              rw [hl] at this
              simp only [Nat.zero_add] at this
              rw [this]
              exact ⟨rest[0]'(by omega), List.getElem?_eq_getElem (by omega)⟩
            · rw [hel 0 (by omega)]
              exact ⟨elems[0]'(by omega), List.getElem?_eq_getElem (by omega)⟩
          obtain ⟨y, row, ci, h1, h2, h3, h4, h5, h6⟩ := one 0 hz
          have hlen0 : ci.length = (c :: r).length := by rw [← h3.1, h4]
          have hpos : 0 < ci.length := by rw [hlen0]; simp
          have h7 := h6 0 (ci[0]'hpos) (List.getElem?_eq_getElem hpos)
          have e0 : (a.add (0 * P.cellsOf e)) = a := by simp [Addr.add]
          rw [e0] at h7
          obtain ⟨k1, k2⟩ := cell_spot h7
          exact ⟨k1, k2, by rw [← h5]; exact hlen0⟩
        have each : ∀ i, i < len → ∃ q : RowT (c :: r) × List V × List Value, RowV (c :: r) q.1 q.2.1 ∧ RowW (c :: r) q.1 ∧ RowR w q.2.1 q.2.2 ∧ q.2.1.length = (c :: r).length ∧ q.2.2.length = P.cellsOf e ∧ ∀ (j : Nat) (u : Value), q.2.2[j]? = some u → w.cell? ((a.add (i * P.cellsOf e)).add j) = some u := by
          intro i hi
          obtain ⟨y, row, ci, h⟩ := one i ⟨elems[i]'(by omega), by rw [hel i hi]; exact List.getElem?_eq_getElem (by omega)⟩
          exact ⟨(y, row, ci), h⟩
        obtain ⟨l, hl1, hl2⟩ := list_choice len each
        have hrows : RowsV (c :: r) (l.map (·.1)) (l.map (·.2.1)) := by
          have : ∀ (l' : List (RowT (c :: r) × List V × List Value)), (∀ q ∈ l', RowV (c :: r) q.1 q.2.1) → RowsV (c :: r) (l'.map (·.1)) (l'.map (·.2.1)) := by
            intro l'
            induction l' with
            | nil => intro _; trivial
            | cons q l' ih => intro h; exact ⟨h q (List.mem_cons_self ..), ih (fun p hp => h p (List.mem_cons_of_mem _ hp))⟩
          refine this l (fun q hq => ?_)
          obtain ⟨i, hi⟩ := List.getElem?_of_mem hq
          exact (hl2 i q hi).1
        have hall : All1 (RowW (c :: r)) (l.map (·.1)) := by
          have : ∀ (l' : List (RowT (c :: r) × List V × List Value)), (∀ q ∈ l', RowW (c :: r) q.1) → All1 (RowW (c :: r)) (l'.map (·.1)) := by
            intro l'
            induction l' with
            | nil => intro _; trivial
            | cons q l' ih => intro h; exact ⟨h q (List.mem_cons_self ..), ih (fun p hp => h p (List.mem_cons_of_mem _ hp))⟩
          refine this l (fun q hq => ?_)
          obtain ⟨i, hi⟩ := List.getElem?_of_mem hq
          exact (hl2 i q hi).2.1
        refine ⟨l.map (·.1), [.sl (l.map (·.2.1))], ?_, ⟨rfl, fun i v hv => ?_⟩, ?_⟩
        · exact rowV_one.2 ⟨_, rfl, tyV_sl.2 (.inr ⟨_, rfl, hrows⟩)⟩
        · match i with
          | i + 1 => simp at hv
          | 0 =>
            simp at hv
            subst hv
            refine ⟨_, rfl, ?_⟩
            by_cases hc0 : cap = 0
            · have hl0 : len = 0 := by omega
              subst hc0
              subst hl0
              have : l = [] := List.eq_nil_of_length_eq_zero hl1
              subst this
              exact .slnil _
            · obtain ⟨k1, k2, k3⟩ := hce hc0
              obtain ⟨b, off, spot⟩ := a
              simp only at k1 k2
              subst k1
              have hlen : (l.map (·.2.1)).length = len := by simp [hl1]
              have := RelP.sl (w := w) (A := noA) (l.map (·.2.1)) b off cap (c :: r).length (fun i j => (((l[i]?).bind fun q => q.2.2[j]?)).getD undef) (by rw [hlen]; exact hlc) (fun _ => ⟨k2, fun h => h⟩) (fun row hrow => ?_) (fun i row hi j x hx => ?_) (fun i row hi j x hx => ?_)
              · rw [hlen] at this; exact this
              · obtain ⟨q, hq, rfl⟩ := List.mem_map.1 hrow
                obtain ⟨i, hi⟩ := List.getElem?_of_mem hq
                exact (hl2 i q hi).2.2.2.1
              · rw [List.getElem?_map] at hi
                cases hli : l[i]? with
                | none => simp [hli] at hi
                | some q =>
                  simp [hli] at hi
                  subst hi
                  obtain ⟨_, _, g3, _, g5, g6⟩ := hl2 i q hli
                  obtain ⟨u, hu1, _⟩ := g3.2 j x hx
                  simp only [hli, Option.bind_some, hu1, Option.getD_some]
                  rw [← g6 j u hu1, k3]
                  congr 1
                  simp only [Addr.add]
                  split
                  · rename_i h0; rw [h0]; split
                    · rename_i h1; rw [h1]; rfl
                    · rfl
                  · split
                    · rename_i h1; rw [h1]; rfl
                    · rfl
              · rw [List.getElem?_map] at hi
                cases hli : l[i]? with
                | none => simp [hli] at hi
                | some q =>
                  simp [hli] at hi
                  subst hi
                  obtain ⟨_, _, g3, _, g5, g6⟩ := hl2 i q hli
                  obtain ⟨u, hu1, hu2⟩ := g3.2 j x hx
                  simp only [hli, Option.bind_some, hu1, Option.getD_some]
                  exact hu2
        · exact rowW_one.2 (tyW_sl.2 ⟨by rw [List.length_map, hl1]; omega, hall⟩)
    · rename_i fs hu
      split at h <;> try (cases h; done)
      rename_i σ hσ
      split at h <;> try (cases h; done)
      rename_i hl
      cases h
      obtain ⟨xs, n, rfl, _, hcs, hxs, hf⟩ := DataW.trod_struct hu hx
      have key : ∀ (l : List Field) (k off : Nat) (σ : List Ty), rowTyF (rowTy P d) l off = some σ → (∀ (i : Nat) (f : Field), l[i]? = some f → fs[k + i]? = some f) → off + σ.length ≤ cs.length →
          ∃ (y : RowT σ) (row : List V), RowV σ y row ∧ RowR w row ((cs.drop off).take σ.length) ∧ RowW σ y := by
        intro l
        induction l with
        | nil =>
          intro k off σ hσ _ _
          cases hσ
          exact ⟨(), [], rowV_nil.2 rfl, ⟨by simp, fun i v hv => by simp at hv⟩, rowW_nil.2 trivial⟩
        | cons f l ihl =>
          intro k off σ hσ hget hle
          simp only [rowTyF] at hσ
          split at hσ <;> try (cases hσ; done)
          rename_i hoff
          split at hσ <;> try (cases hσ; done)
          rename_i τ hτ
          split at hσ <;> try (cases hσ; done)
          rename_i r hr
          cases hσ
          have hoff' := Nat.eq_of_beq_eq_true hoff
          have hfk := hget 0 f rfl
          have htr := hf (k + 0) f hfk
          have hlt : k + 0 < xs.length := by
            rw [hxs]
            rcases Nat.lt_or_ge (k + 0) fs.size with h | h
            · exact h
            · rw [Array.getElem?_eq_none h] at hfk; cases hfk
          rw [List.getElem?_eq_getElem hlt, hoff'] at htr
          obtain ⟨y1, row1, h1, h2, h3⟩ := ih f.type τ hτ n _ _ htr
          rw [List.length_append] at hle
          obtain ⟨y2, row2, g1, g2, g3⟩ := ihl (k + 1) (off + τ.length) r hr (fun i f' hf' => by
            have := hget (i + 1) f' (by simpa using hf')
            rwa [show k + (i + 1) = k + 1 + i from by omega] at this) (by omega)
          have hl1 : ((cs.drop off).take (P.cellsOf f.type)).length = τ.length := by rw [← h2.1, rowV_len h1]
          have e1 : (cs.drop off).take (P.cellsOf f.type) = (cs.drop off).take τ.length := by
            have hh : min (P.cellsOf f.type) (cs.length - off) = τ.length := by simpa using hl1
            by_cases hm : P.cellsOf f.type ≤ cs.length - off
            · rw [Nat.min_eq_left hm] at hh; rw [hh]
            · rw [Nat.min_eq_right (by omega)] at hh
              rw [List.take_of_length_le (by simp; omega), List.take_of_length_le (by simp; omega)]
          obtain ⟨z, z1, z2⟩ := row_join τ r y1 y2 row1 row2 h1 g1 h3 g3
          refine ⟨z, row1 ++ row2, z1, ?_, z2⟩
          have e2 : (cs.drop off).take (τ ++ r).length = (cs.drop off).take τ.length ++ (cs.drop (off + τ.length)).take r.length := by
            rw [List.length_append, List.take_add, List.drop_drop]
          rw [e2, ← e1]
          exact h2.app g2
      have hl' := Nat.eq_of_beq_eq_true hl
      obtain ⟨y, row, h1, h2, h3⟩ := key fs.toList 0 0 _ hσ (fun i f hf' => by simpa using hf') (by rw [hcs]; omega)
      refine ⟨y, row, h1, ?_, h3⟩
      rw [List.drop_zero, List.take_of_length_le (by omega)] at h2
      exact h2
end

/-! ### A law's arguments -/
def akOf (P : Program) (t : TypeId) : Option AK := match P.underlying t with
  | some .bool => some (.c .bool)
  | some .string => some (.c .str)
  | some (.int k) => some (.c (.int k))
  | some (.slice _) => (match rowTy P 9 t with
    | some [.sl σ] => some (.rd σ)
    | _ => none)
  | some (.struct _) => (match rowTy P 9 t with
    | some τ => some (.g τ)
    | none => none)
  | _ => none
def adOf (P : Program) : List TypeId → Option (List AK)
  | [] => some []
  | t :: ts => match akOf P t, adOf P ts with
    | some k, some ks => some (k :: ks)
    | _, _ => none

def ArgW : (k : AK) → k.T → Prop
  | .c t, x => TyW t x
  | .g τ, x => RowW τ x
  | .rd τ, l => List.length (α := RowT τ) l ≤ maxLen ∧ All1 (RowW τ) l
  | .cp _, _ => False
  | .fn _ _, _ => False
  | .raw _, _ => False
def ArgsW1 {A : Type} (R : A → Prop) : (ks : List AK) → ArgT.ArgT1 A ks → Prop
  | [], x => R x
  | k :: ks, x => R (Prod.fst x) ∧ ArgsW1 (ArgW k) ks (Prod.snd x)
def ArgsW : (ks : List AK) → ArgT ks → Prop
  | [], _ => True
  | k :: ks, x => ArgsW1 (ArgW k) ks x

section
variable {H : Type} {enc : TypeId × Value → H} {P : Program} {w : World}

theorem trod_arg {t : TypeId} {k : AK} (hk : akOf P t = some k) {r : Reach} {base : Nat} {v : Value} (hval : Value.okWide P w r base t v) {d : DataW H} {ps : List MemPlace} (h : DataW.Trod enc P w 0 (fun _ => true) true t v d ps) :
    ∃ (x : k.T) (y : V), ArgV k x y ∧ ArgW k x ∧ Rel ⟨w, noA, noH, noB⟩ y v := by
  obtain ⟨fuel, h⟩ := h
  have one : ∀ (t' : Ty) (hr : rowTy P 9 t = some [t']), (∀ cs, v ≠ .agg cs) → ∃ (x : t'.T) (y : V), TyV t' x y ∧ TyW t' x ∧ RelP w noA y v := by
    intro t' hr hna
    obtain ⟨x, row, h1, h2, h3⟩ := trod_rel 9 t [t'] hr fuel _ _ h
    obtain ⟨y, rfl, hy⟩ := rowV_one.1 h1
    obtain ⟨u, e1, e2⟩ := h2.2 0 y rfl
    have : v.cells.toList = [v] := by cases v <;> first | rfl | exact absurd rfl (hna _)
    rw [this] at e1
    simp at e1
    subst e1
    exact ⟨x, y, hy, rowW_one.1 h3, e2⟩
  unfold akOf at hk
  split at hk <;> try (cases hk; done)
  · rename_i hu
    cases hk
    obtain ⟨x, y, h1, h2, h3⟩ := one .bool (by simp [rowTy, hu]) (by
      obtain ⟨b, rfl⟩ := WideShapes.okWide_bool hu hval
      intro cs hc; cases hc)
    exact ⟨x, y, h1, h2, Rel.of_relP h3⟩
  · rename_i hu
    cases hk
    obtain ⟨x, y, h1, h2, h3⟩ := one .str (by simp [rowTy, hu]) (by
      intro cs hc
      subst hc
      simp [Value.okWide, hu, Cell.okWide, Cell.ok] at hval)
    exact ⟨x, y, h1, h2, Rel.of_relP h3⟩
  · rename_i k' hu
    cases hk
    obtain ⟨x, y, h1, h2, h3⟩ := one (.int k') (by simp [rowTy, hu]) (by
      intro cs hc
      subst hc
      simp [Value.okWide, hu, Cell.okWide, Cell.ok] at hval)
    exact ⟨x, y, h1, h2, Rel.of_relP h3⟩
  · rename_i e hu
    split at hk <;> try (cases hk; done)
    rename_i σ hr
    cases hk
    obtain ⟨x, y, h1, h2, h3⟩ := one (.sl σ) hr (by
      intro cs hc
      subst hc
      simp [Value.okWide, hu, Cell.okWide, Cell.ok] at hval)
    rcases tyV_sl.1 h1 with ⟨e1, rfl⟩ | ⟨rows, rfl, hrows⟩
    · refine ⟨x, .rd [], ⟨[], rfl, ?_⟩, tyW_sl.1 h2, ?_⟩
      · have e1' : (x : List (RowT σ)) = [] := e1
        rw [e1']; trivial
      · cases h3; exact .inl ⟨⟨_, rfl⟩, rfl⟩
    · refine ⟨x, .rd rows, ⟨rows, rfl, hrows⟩, tyW_sl.1 h2, ?_⟩
      exact SlAt.frame (fun _ _ _ => rfl) (fun _ _ _ => rfl) (Nat.le_refl _) (fun _ _ h => h) (fun b _ h => by obtain ⟨_, _, h, _⟩ := h; simp [noH] at h) (relP_sl.1 h3)
  · rename_i fs hu
    split at hk <;> try (cases hk; done)
    rename_i τ hr
    cases hk
    obtain ⟨x, row, h1, h2, h3⟩ := trod_rel 9 t τ hr fuel _ _ h
    have : ∃ cs, v = .agg cs := by
      unfold Value.okWide at hval
      rw [hu] at hval
      obtain ⟨cs, e1, _⟩ := hval
      exact ⟨cs, e1⟩
    obtain ⟨cs, rfl⟩ := this
    refine ⟨x, .agg row, ⟨row, rfl, h1⟩, h3, cs, rfl, ?_, fun i y hy => ?_⟩
    · have := h2.1
      simpa [Value.cells] using this.symm
    · obtain ⟨u, e1, e2⟩ := h2.2 i y hy
      exact ⟨u, by simpa [Value.cells] using e1, e2⟩

theorem argsV_mk {k : AK} {ks : List AK} {x : k.T} {a : ArgT ks} {y : V} {args : List V} (h1 : ArgV k x y) (h2 : ArgsV ks a args) (w1 : ArgW k x) (w2 : ArgsW ks a) : ∃ b : ArgT (k :: ks), ArgsV (k :: ks) b (y :: args) ∧ ArgsW (k :: ks) b := by
  cases ks with
  | nil =>
    simp only [ArgsV] at h2
    subst h2
    exact ⟨x, by simp only [ArgsV]; exact ⟨y, rfl, h1⟩, by simp only [ArgsW]; exact w1⟩
  | cons k2 ks =>
    refine ⟨(x, a), ?_, ?_⟩
    · simp only [ArgsV] at h2 ⊢
      exact ⟨y, args, rfl, h1, h2⟩
    · simp only [ArgsW] at w2 ⊢
      exact ⟨w1, w2⟩

theorem trod_args {r : Reach} {base : Nat} : ∀ {ts : List TypeId} {ad : List AK}, adOf P ts = some ad → ∀ {vs : List Value} {ds : List (DataW H)} {ps : List MemPlace}, (∀ (j : Nat) t v, ts[j]? = some t → vs[j]? = some v → Value.okWide P w r base t v) →
    DataW.TrodAll enc P w 0 (fun _ => true) true ts vs ds ps → ∃ (a : ArgT ad) (args : List V), ArgsV ad a args ∧ ArgsW ad a ∧ args.length = vs.length ∧ ds.length = vs.length ∧ vs.length = ts.length ∧ ∀ (i : Nat) (x : V), args[i]? = some x → ∃ u, vs[i]? = some u ∧ Rel ⟨w, noA, noH, noB⟩ x u
  | [], ad, had, vs, ds, ps, _, h => by
    cases had
    match vs, ds, h with
    | [], [], _ => exact ⟨(), [], by simp only [ArgsV], by simp only [ArgsW], rfl, rfl, rfl, fun i x h => by simp at h⟩
  | t :: ts, ad, had, vs, ds, ps, hval, h => by
    match vs, ds, h with
    | v :: vs, d :: ds, h =>
      obtain ⟨p, q, h1, h2, _⟩ := h
      simp only [adOf] at had
      split at had <;> try (cases had; done)
      rename_i k ks hk hks
      cases had
      obtain ⟨x, y, a1, a2, a3⟩ := trod_arg hk (hval 0 t v rfl rfl) h1
      obtain ⟨a, args, b1, b2, b3, b4, b6, b5⟩ := trod_args hks (fun j t v hj hv => hval (j + 1) t v (by simpa using hj) (by simpa using hv)) h2
      obtain ⟨b, c1, c2⟩ := argsV_mk a1 b1 a2 b2
      refine ⟨b, y :: args, c1, c2, by simp [b3], by simp [b4], by simp [b6], fun i z hz => ?_⟩
      cases i with
      | zero => simp at hz; subst hz; exact ⟨v, rfl, a3⟩
      | succ i =>
        obtain ⟨u, e1, e2⟩ := b5 i z (by simpa using hz)
        exact ⟨u, by simpa using e1, e2⟩

theorem stays_all (hl : laidOutB P = true) {W W' : World} (hb : Below W.heap.size W W') {sp : Nat → Bool} : ∀ {ts : List TypeId} {vs : List Value} {ds : List (DataW H)} {ps : List MemPlace}, (∀ t ∈ ts, P.readableRec t = true ∧ t < P.types.size) →
    DataW.TrodAll enc P W 0 (fun _ => true) true ts vs ds ps → (∀ p ∈ ps, p.block < W.heap.size) → (∀ p ∈ ps, sp p.block = true) → DataW.TrodAll enc P W' 0 sp true ts vs ds ps
  | [], vs, ds, ps, _, h, _, _ => by
    match vs, ds, h with
    | [], [], h => exact h
  | t :: ts, vs, ds, ps, ht, h, hlt, hs => by
    match vs, ds, h with
    | v :: vs, d :: ds, h =>
      obtain ⟨p, q, h1, h2, rfl⟩ := h
      obtain ⟨k1, k2⟩ := ht t (List.mem_cons_self ..)
      exact ⟨p, q, WideElems.Trod_stays hl k1 k2 h1 (fun x hx => hb.same (hlt x (List.mem_append_left _ hx))) (fun x hx => hs x (List.mem_append_left _ hx)),
        stays_all hl hb (fun t ht' => ht t (List.mem_cons_of_mem _ ht')) h2 (fun x hx => hlt x (List.mem_append_right _ hx)) (fun x hx => hs x (List.mem_append_right _ hx)), rfl⟩
end

def typesOK (P : Program) (ts : List TypeId) : Bool := ts.all fun t => P.readableRec t && Nat.blt t P.types.size

theorem law_calls {H : Type} {enc : TypeId × Value → H} {P : Program} {g : FuncId} {fn : Func} {s : ChangeSpec} {apart fresh handsOn again : Bool} {tb : TypeId} {pts : List TypeId} (ad : List AK) (hp : fn.params.toList = pts) (had : adOf P pts = some ad) (hl : laidOutB P = true) (hts : typesOK P pts = true)
    (hr : fn.resultTypes = #[tb]) (htb : P.underlying tb = some .bool) (hvars : s.vars = [])
    (hsp : ∀ ds : List (DataW H), ds.length = pts.length → (s.fn H ds).results = [.lit (.bool true)] ∧ (s.fn H ds).args = ds ∧ (s.fn H ds).vars = [])
    (hlaw : ∀ a : ArgT ad, ArgsW ad a → ∀ vargs, ArgsV ad a vargs → FnP P g vargs (RessV [.v .bool] (true : Bool))) (W : World) (base : Nat) (args : Array Value) (ds gs : List (DataW H)) (before : List MemPlace)
    (hval : ∀ (j : Nat) t v, fn.params[j]? = some t → args[j]? = some v → Value.okWide P W .any base t v) (hW : DataW.Whole enc P fn.params.toList s.vars apart W args.toList ds gs before) :
    Calls P g args W fun e W' => ∃ v, e = .returned v ∧ s.post enc P fn apart fresh handsOn again W args v W' := by
  have hW0 := hW
  obtain ⟨p, q, hA, hV, hpq, _, _⟩ := hW
  rw [hvars] at hV
  match gs, hV with
  | [], hV =>
    have hq : q = [] := hV
    subst hq
    rw [List.append_nil] at hpq
    subst hpq
    rw [hp] at hA
    have hpget : ∀ j : Nat, fn.params[j]? = pts[j]? := fun j => by rw [← hp]; simp
    obtain ⟨a, vargs, h1, h2, h3, h4, h6, h5⟩ := trod_args had (fun j t v hj hv => hval j t v (by rw [hpget]; exact hj) (by simpa using hv)) hA
    have hlen : ds.length = pts.length := by
      omega
    obtain ⟨s1, s2, s3⟩ := hsp ds hlen
    obtain ⟨_, hcalls⟩ := hlaw a h2 vargs h1
    refine (hcalls W noA args (fun b h => h.elim) (by rw [h3]; simp) (fun i x hx => by simpa using h5 i x hx)).mono ?_
    rintro e W' ⟨rds, us, β', A', hrd, rfl, hpost⟩
    simp only [RessV, RessV1] at hrd
    obtain ⟨rd, rfl, y, rfl, hy⟩ := hrd
    have hyb : y = .bool true := tyV_bool.1 hy
    subst hyb
    obtain ⟨u, hu1, hu2⟩ := hpost.rel 0 _ rfl
    have hus : us = [u] := by
      have := hpost.len
      match us, this, hu1 with
      | [x], _, hu1 => simp at hu1; rw [hu1]
    have hub : u = .bool true := by cases hu2; rfl
    subst hus
    subst hub
    refine ⟨_, rfl, ?_⟩
    have hb : Below W.heap.size W W' := ⟨hpost.ev.os, hpost.ev.tape, hpost.ev.output, hpost.ev.size, fun k hk => hpost.ev.block k hk (fun h => h)⟩
    have hlt : ∀ x ∈ before, x.block < W.heap.size := fun x hx => hW0.lt x hx
    have htys : ∀ t ∈ pts, P.readableRec t = true ∧ t < P.types.size := fun t ht => by
      have := List.all_eq_true.1 hts t ht
      simp only [Bool.and_eq_true] at this
      exact ⟨this.1, Nat.le_of_ble_eq_true this.2⟩
    have hargs : ∀ sp : Nat → Bool, (∀ x ∈ before, sp x.block = true) → DataW.TrodAll enc P W' 0 sp true pts args.toList ds before := fun sp hs => stays_all hl hb htys hA hlt hs
    have hres : ∀ (b : Nat) (sp : Nat → Bool) (hd : Bool), DataW.TrodAll enc P W' b sp hd fn.resultTypes.toList ((packV [Value.bool true]).resultList fn.resultTypes.size) [.lit (.bool true)] [] := fun b sp hd => by
      rw [hr]
      exact ChangeShapes.trodAll_mk1 (RowKit.shut_bool htb true)
    have e0 : ds ++ [] = ds := List.append_nil ds
    refine ⟨ds, [], before, [], before, [], hW0, ?_, ?_, ?_, World.keptBut_mono (fun x hx => ⟨hx, .inr (.inl hx)⟩) (hb.frame (· ∈ before)), fun _ => ⟨?_, ?_⟩⟩
    · rw [e0, s1]; exact hres _ _ _
    · rw [e0, s2, hp]; exact hargs _ (fun x hx => by simpa using hlt x hx)
    · rw [e0, s3, hvars]; rfl
    · exact RowKit.ok_one hr rfl (RowKit.okWide_bool_mk htb true)
    · refine ⟨[.lit (.bool true)] ++ ds, [], before, ⟨before, [], ?_, by rw [hvars]; rfl, by simp, ?_, ?_⟩, fun x hx _ => hx⟩
      · have h7 := trodAll_append (hargs (fun _ => true) (fun _ _ => rfl)) (hres 0 (fun _ => true) true)
        rw [← hp] at h7
        exact h7
      · intro b off hx
        obtain ⟨_, _, _, _, _, hz, _⟩ := hW0
        rw [hb.frozen (hlt _ hx)]
        exact hz b off hx
      · intro ha
        obtain ⟨_, _, _, _, _, _, hn⟩ := hW0
        exact hn ha

end Go.AL
