/-
  Plain facts on ranges: what Valid, Overlaps, Contains and Free say of one another. By an AI agent.
-/
import Derived.Test.YtoidpheldjllaaaMr5
namespace Go.AL
open Go.Proofs
set_option linter.unusedVariables false
set_option linter.unusedSimpArgs false

/-- A valid range in units of a size that is not larger. -/
theorem units {r : Rg} (h : valid r = true) {j : Int} (hj : 0 ≤ j) (hjr : j ≤ r.2) : ∃ m q : Int, r.1 = m * p2 j ∧ p2 r.2 = q * p2 j ∧ 1 ≤ q := by
  obtain ⟨h1, h2, h3, h4, h5⟩ := valid_elim h
  have e : p2 r.2 = p2 (r.2 - j) * p2 j := by rw [← p2_add (by omega) hj]; congr 1; omega
  refine ⟨r.1.tdiv (p2 r.2) * p2 (r.2 - j), p2 (r.2 - j), ?_, e, by have := p2_pos (r.2 - j); omega⟩
  have := Int.mul_tdiv_add_tmod r.1 (p2 r.2)
  rw [h4, Int.add_zero, Int.mul_comm] at this
  rw [Int.mul_assoc, ← e]; exact this.symm
theorem over_le {x y : Rg} (hx : valid x = true) (hy : valid y = true) (h : x.2 ≤ y.2) : overlaps (x, y) = contains (y, x) := by
  have ux := valid_elim hx
  obtain ⟨m, q, e1, e2, e3⟩ := units hx (j := x.2) (by omega) (Int.le_refl _)
  obtain ⟨n, s, f1, f2, f3⟩ := units hy (j := x.2) (by omega) h
  have hp := p2_pos x.2
  simp only [overlaps, contains, hx, hy, rend, cond_true, Bool.true_and]
  rw [e1, f1, f2]
  generalize p2 x.2 = u at *
  have a1 : decide (m * u < n * u + s * u) = decide (m < n + s) := by
    rw [← Int.add_mul]; exact decide_eq_decide.2 (Int.mul_lt_mul_right hp)
  have a2 : decide (n * u < m * u + u) = decide (n < m + 1) := by
    rw [show m * u + u = (m + 1) * u by rw [Int.add_mul, Int.one_mul]]; exact decide_eq_decide.2 (Int.mul_lt_mul_right hp)
  have a3 : decide (n * u ≤ m * u) = decide (n ≤ m) := decide_eq_decide.2 (Int.mul_le_mul_right hp)
  have a4 : decide (m * u + u ≤ n * u + s * u) = decide (m + 1 ≤ n + s) := by
    rw [show m * u + u = (m + 1) * u by rw [Int.add_mul, Int.one_mul], ← Int.add_mul]; exact decide_eq_decide.2 (Int.mul_le_mul_right hp)
  rw [a1, a2, a3, a4]
  rw [show decide (n < m + 1) = decide (n ≤ m) from decide_eq_decide.2 (by omega), show decide (m < n + s) = decide (m + 1 ≤ n + s) from decide_eq_decide.2 (by omega), Bool.and_comm]
theorem cont_elim {a b : Rg} (h : contains (a, b) = true) : valid a = true ∧ valid b = true ∧ a.1 ≤ b.1 ∧ b.1 + p2 b.2 ≤ a.1 + p2 a.2 := by
  simp only [contains, Bool.and_eq_true, decide_eq_true_eq] at h
  obtain ⟨h1, h2, h3, h4⟩ := h
  simp only [rend, h1, h2, cond_true] at h4
  exact ⟨h1, h2, h3, h4⟩
theorem cont_intro {a b : Rg} (h1 : valid a = true) (h2 : valid b = true) (h3 : a.1 ≤ b.1) (h4 : b.1 + p2 b.2 ≤ a.1 + p2 a.2) : contains (a, b) = true := by
  simp [contains, rend, h1, h2, h3, h4]
theorem p2_lt {j k : Int} (hj : 0 ≤ j) (h : j < k) : p2 j < p2 k := by
  have h1 := p2_succ hj; have h2 := p2_mono (show j + 1 ≤ k by omega); have h3 := p2_pos j
  omega
theorem p2_inj_le {j k : Int} (hk : 0 ≤ k) (h : p2 j ≤ p2 k) : j ≤ k := by
  by_cases h' : j ≤ k
  · exact h'
  · have := p2_lt hk (by omega : k < j); omega
theorem cont_bits {a b : Rg} (h : contains (a, b) = true) : b.2 ≤ a.2 := by
  obtain ⟨h1, h2, h3, h4⟩ := cont_elim h
  have := valid_elim h1; have := valid_elim h2
  exact p2_inj_le (by omega) (by omega)
theorem cont_both {a b : Rg} (h : contains (a, b) = true) (h' : contains (b, a) = true) : a = b := by
  have e1 := cont_bits h; have e2 := cont_bits h'
  obtain ⟨h1, h2, h3, h4⟩ := cont_elim h
  obtain ⟨g1, g2, g3, g4⟩ := cont_elim h'
  exact Prod.ext (by omega) (by omega)
theorem cont_refl {a : Rg} (h : valid a = true) : contains (a, a) = true := cont_intro h h (Int.le_refl _) (Int.le_refl _)
theorem cont_trans {a b c : Rg} (h : contains (a, b) = true) (h' : contains (b, c) = true) : contains (a, c) = true := by
  obtain ⟨h1, h2, h3, h4⟩ := cont_elim h
  obtain ⟨g1, g2, g3, g4⟩ := cont_elim h'
  exact cont_intro h1 g2 (by omega) (by omega)
theorem over_elim {a b : Rg} (h : overlaps (a, b) = true) : valid a = true ∧ valid b = true ∧ a.1 < b.1 + p2 b.2 ∧ b.1 < a.1 + p2 a.2 := by
  simp only [overlaps, Bool.and_eq_true, decide_eq_true_eq] at h
  obtain ⟨h1, h2, h3, h4⟩ := h
  simp only [rend, h1, h2, cond_true] at h3 h4
  exact ⟨h1, h2, h3, h4⟩
theorem over_intro {a b : Rg} (h1 : valid a = true) (h2 : valid b = true) (h3 : a.1 < b.1 + p2 b.2) (h4 : b.1 < a.1 + p2 a.2) : overlaps (a, b) = true := by
  simp [overlaps, rend, h1, h2, h3, h4]
theorem over_refl {a : Rg} (h : valid a = true) : overlaps (a, a) = true := cont_over (cont_refl h)
theorem over_cont {a b : Rg} (ha : valid a = true) (hb : valid b = true) : overlaps (a, b) = (contains (a, b) || contains (b, a)) := by
  by_cases h : a.2 ≤ b.2
  · rw [over_le ha hb h]
    cases hc : contains (a, b) with
    | false => rfl
    | true =>
      have e := cont_bits hc
      have : overlaps (b, a) = contains (a, b) := over_le hb ha (by omega)
      rw [← over_le ha hb h, over_symm, this, hc]; rfl
  · rw [over_symm, over_le hb ha (by omega)]
    cases hc : contains (b, a) with
    | false => simp
    | true => have e := cont_bits hc; omega
/-- What lies in a range that something misses is missed. -/
theorem over_mono {u a b : Rg} (h : contains (a, b) = true) (h' : overlaps (u, b) = true) : overlaps (u, a) = true := by
  obtain ⟨h1, h2, h3, h4⟩ := cont_elim h
  obtain ⟨g1, g2, g3, g4⟩ := over_elim h'
  have := p2_pos b.2; have := p2_pos a.2
  exact over_intro g1 h1 (by omega) (by omega)
/-! ### Halves -/
def lowH (r : Rg) : Rg := (r.1, r.2 - 1)
def highH (r : Rg) : Rg := (r.1 + p2 (r.2 - 1), r.2 - 1)
theorem valid_intro {r : Rg} (h1 : 6 ≤ r.2) (h2 : r.2 ≤ 40) (h3 : 0 ≤ r.1) (h4 : Int.tmod r.1 (p2 r.2) = 0) (h5 : r.1 + p2 r.2 ≤ 1099511627776) : valid r = true := by
  simp [valid, h1, h2, h3, h4, h5]
theorem tmod_zero {a s : Int} (h : ∃ m, a = m * s) : Int.tmod a s = 0 := by
  obtain ⟨m, rfl⟩ := h
  exact Int.mul_tmod_left m s
theorem low_valid {r : Rg} (h : valid r = true) (h7 : 7 ≤ r.2) : valid (lowH r) = true := by
  obtain ⟨h1, h2, h3, h4, h5⟩ := valid_elim h
  obtain ⟨m, q, e1, e2, e3⟩ := units h (j := r.2 - 1) (by omega) (by omega)
  have h6 := p2_pred (k := r.2) (by omega); have h8 := p2_pos (r.2 - 1)
  have : Int.tmod r.1 (p2 (r.2 - 1)) = 0 := tmod_zero ⟨m, e1⟩
  exact valid_intro (by simp only [lowH]; omega) (by simp only [lowH]; omega) h3 this (by simp only [lowH]; omega)
theorem high_valid {r : Rg} (h : valid r = true) (h7 : 7 ≤ r.2) : valid (highH r) = true := by
  obtain ⟨h1, h2, h3, h4, h5⟩ := valid_elim h
  obtain ⟨m, q, e1, e2, e3⟩ := units h (j := r.2 - 1) (by omega) (by omega)
  have h6 := p2_pred (k := r.2) (by omega); have h8 := p2_pos (r.2 - 1)
  have : Int.tmod (r.1 + p2 (r.2 - 1)) (p2 (r.2 - 1)) = 0 := tmod_zero ⟨m + 1, by rw [Int.add_mul, Int.one_mul, ← e1]⟩
  exact valid_intro (by simp only [highH]; omega) (by simp only [highH]; omega) (by simp only [highH]; omega) this (by simp only [highH]; omega)
theorem low_in {r : Rg} (h : valid r = true) (h7 : 7 ≤ r.2) : contains (r, lowH r) = true := by
  have h6 := p2_pred (k := r.2) (by omega); have h8 := p2_pos (r.2 - 1)
  exact cont_intro h (low_valid h h7) (Int.le_refl _) (by simp only [lowH]; omega)
theorem high_in {r : Rg} (h : valid r = true) (h7 : 7 ≤ r.2) : contains (r, highH r) = true := by
  have h6 := p2_pred (k := r.2) (by omega); have h8 := p2_pos (r.2 - 1)
  exact cont_intro h (high_valid h h7) (by simp only [highH]; omega) (by simp only [highH]; omega)
theorem over_half {u r : Rg} (h : valid r = true) (h7 : 7 ≤ r.2) (ho : overlaps (u, r) = true) : overlaps (u, lowH r) = true ∨ overlaps (u, highH r) = true := by
  obtain ⟨g1, g2, g3, g4⟩ := over_elim ho
  have h6 := p2_pred (k := r.2) (by omega); have h8 := p2_pos (r.2 - 1); have h9 := p2_pos u.2
  by_cases hc : u.1 < r.1 + p2 (r.2 - 1)
  · exact .inl (over_intro g1 (low_valid h h7) (by simp only [lowH]; omega) (by simp only [lowH]; omega))
  · exact .inr (over_intro g1 (high_valid h h7) (by simp only [highH]; omega) (by simp only [highH]; omega))
/-! ### Free -/
theorem free_valid {r : Rg} (h : valid r = true) (used : List Rg) : free (r, used) = bif used.any (fun u => contains (u, r)) then [] else bif (used.filter (fun u => overlaps (u, r))).isEmpty then [r] else bif r.2 == 6 then [] else free (lowH r, used.filter (fun u => overlaps (u, r))) ++ free (highH r, used.filter (fun u => overlaps (u, r))) := by
  rw [free_eq, h]; rfl
/-- Only what overlaps matters. -/
theorem free_near {a b : Rg} (ha : valid a = true) (hb : valid b = true) (h : contains (a, b) = true) (used : List Rg) : free (b, used.filter (fun u => overlaps (u, a))) = free (b, used) := by
  have e1 : (used.filter (fun u => overlaps (u, a))).filter (fun u => overlaps (u, b)) = used.filter (fun u => overlaps (u, b)) := by
    rw [List.filter_filter]
    apply List.filter_congr
    intro u hu
    cases ho : overlaps (u, b) with
    | false => rfl
    | true => rw [over_mono h ho]; rfl
  have e2 : (used.filter (fun u => overlaps (u, a))).any (fun u => contains (u, b)) = used.any (fun u => contains (u, b)) := by
    rw [← any_near b (used.filter (fun u => overlaps (u, a))), e1, any_near]
  rw [free_valid hb, free_valid hb, e1, e2]
theorem free_halves {r : Rg} (h : valid r = true) (h7 : 7 ≤ r.2) {used : List Rg} (hn : (used.filter (fun u => overlaps (u, r))).isEmpty = false) : free (r, used) = free (lowH r, used) ++ free (highH r, used) := by
  have hl := low_valid h h7; have hh := high_valid h h7
  rw [free_valid h, hn]
  have h6 : (r.2 == 6) = false := by simp; omega
  rw [h6, free_near h hl (low_in h h7), free_near h hh (high_in h h7)]
  cases hc : used.any (fun u => contains (u, r)) with
  | false => rfl
  | true =>
    obtain ⟨u, hu, hcu⟩ := List.any_eq_true.1 hc
    have f1 : used.any (fun u => contains (u, lowH r)) = true := List.any_eq_true.2 ⟨u, hu, cont_trans hcu (low_in h h7)⟩
    have f2 : used.any (fun u => contains (u, highH r)) = true := List.any_eq_true.2 ⟨u, hu, cont_trans hcu (high_in h h7)⟩
    rw [free_valid hl, free_valid hh, f1, f2]; rfl
theorem free_none {r : Rg} (h : valid r = true) {used : List Rg} (hn : (used.filter (fun u => overlaps (u, r))).isEmpty = true) : free (r, used) = [r] := by
  have : used.any (fun u => contains (u, r)) = false := by
    rw [← any_near, List.isEmpty_iff.1 hn]; rfl
  rw [free_valid h, hn, this]; rfl
theorem free_six {r : Rg} (h : valid r = true) (h6 : r.2 = 6) {used : List Rg} (hn : (used.filter (fun u => overlaps (u, r))).isEmpty = false) : free (r, used) = [] := by
  rw [free_valid h, hn, show (r.2 == 6) = true by simp [h6]]
  cases used.any (fun u => contains (u, r)) <;> rfl
/-- Induction over a valid range and its halves. -/
theorem rg_induct {p : Rg → Prop} (h6 : ∀ r, valid r = true → r.2 = 6 → p r) (hs : ∀ r, valid r = true → 7 ≤ r.2 → p (lowH r) → p (highH r) → p r) : ∀ r, valid r = true → p r := by
  have main : ∀ (n : Nat) (r : Rg), valid r = true → r.2.toNat ≤ n → p r := by
    intro n
    induction n with
    | zero => intro r hr hn; have := valid_elim hr; omega
    | succ n ih =>
      intro r hr hn
      have := valid_elim hr
      by_cases h : r.2 = 6
      · exact h6 r hr h
      · exact hs r hr (by omega) (ih _ (low_valid hr (by omega)) (by simp only [lowH]; omega)) (ih _ (high_valid hr (by omega)) (by simp only [highH]; omega))
  exact fun r hr => main _ r hr (Nat.le_refl _)
/-- What is free lies in the range. -/
theorem free_in : ∀ r, valid r = true → ∀ (used : List Rg) (f : Rg), f ∈ free (r, used) → contains (r, f) = true := by
  refine rg_induct ?_ ?_
  · intro r hr h6 used f hf
    cases hn : (used.filter (fun u => overlaps (u, r))).isEmpty with
    | true => rw [free_none hr hn] at hf; rw [List.mem_singleton.1 hf]; exact cont_refl hr
    | false => rw [free_six hr h6 hn] at hf; cases hf
  · intro r hr h7 il ih used f hf
    cases hn : (used.filter (fun u => overlaps (u, r))).isEmpty with
    | true => rw [free_none hr hn] at hf; rw [List.mem_singleton.1 hf]; exact cont_refl hr
    | false =>
      rw [free_halves hr h7 hn] at hf
      rcases List.mem_append.1 hf with hf | hf
      · exact cont_trans (low_in hr h7) (il used f hf)
      · exact cont_trans (high_in hr h7) (ih used f hf)
end Go.AL
