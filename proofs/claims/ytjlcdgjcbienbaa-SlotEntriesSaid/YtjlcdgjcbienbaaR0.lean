/-
  Plain laws of ranges. No program in sight. By an AI agent.
-/
import Derived.Test.YtjlcdgjcbienbaaG2
namespace Go.AL
set_option linter.unusedVariables false
set_option linter.unusedSimpArgs false
theorem over_symm (u r : Rg) : overlaps (u, r) = overlaps (r, u) := by
  simp only [overlaps]
  cases valid u <;> cases valid r <;> simp [Bool.and_comm]
theorem cont_elim {a b : Rg} (h : contains (a, b) = true) : valid a = true ∧ valid b = true ∧ a.1 ≤ b.1 ∧ b.1 + p2 b.2 ≤ a.1 + p2 a.2 := by
  simp only [contains, Bool.and_eq_true, decide_eq_true_eq] at h
  obtain ⟨h1, h2, h3, h4⟩ := h
  simp only [rend, h1, h2, cond_true] at h4
  exact ⟨h1, h2, h3, h4⟩
theorem cont_intro {a b : Rg} (h1 : valid a = true) (h2 : valid b = true) (h3 : a.1 ≤ b.1) (h4 : b.1 + p2 b.2 ≤ a.1 + p2 a.2) : contains (a, b) = true := by
  simp [contains, rend, h1, h2, h3, h4]
theorem p2_lt {j k : Int} (hj : 0 ≤ j) (h : j < k) : p2 j < p2 k := by
  have h1 := p2_succ hj; have h2 := p2_mono (show j + 1 ≤ k by omega); have h3 := p2_pos j
  omega
theorem p2_inj_le {j k : Int} (hk : 0 ≤ k) (h : p2 j ≤ p2 k) : j ≤ k := by
  by_cases h' : j ≤ k
  · exact h'
  · have := p2_lt hk (by omega : k < j); omega
theorem cont_refl {a : Rg} (h : valid a = true) : contains (a, a) = true := cont_intro h h (Int.le_refl _) (Int.le_refl _)
theorem cont_trans {a b c : Rg} (h : contains (a, b) = true) (h' : contains (b, c) = true) : contains (a, c) = true := by
  obtain ⟨h1, h2, h3, h4⟩ := cont_elim h
  obtain ⟨g1, g2, g3, g4⟩ := cont_elim h'
  exact cont_intro h1 g2 (by omega) (by omega)
theorem over_elim {a b : Rg} (h : overlaps (a, b) = true) : valid a = true ∧ valid b = true ∧ a.1 < b.1 + p2 b.2 ∧ b.1 < a.1 + p2 a.2 := by
  simp only [overlaps, Bool.and_eq_true, decide_eq_true_eq] at h
  obtain ⟨h1, h2, h3, h4⟩ := h
  simp only [rend, h1, h2, cond_true] at h3 h4
  exact ⟨h1, h2, h3, h4⟩
theorem valid_intro {r : Rg} (h1 : 6 ≤ r.2) (h2 : r.2 ≤ 40) (h3 : 0 ≤ r.1) (h4 : Int.tmod r.1 (p2 r.2) = 0) (h5 : r.1 + p2 r.2 ≤ 1099511627776) : valid r = true := by
  simp [valid, h1, h2, h3, h4, h5]
theorem tmod_zero {a s : Int} (h : ∃ m, a = m * s) : Int.tmod a s = 0 := by
  obtain ⟨m, rfl⟩ := h
  exact Int.mul_tmod_left m s
theorem place_range (n : Int) {s : Int} (h : 0 < s) : 0 ≤ place (n, s) ∧ place (n, s) < s := ⟨place_lo n s, place_hi n h⟩
theorem mk_valid {m k t : Int} (hk : 6 ≤ k) (hkt : k ≤ t) (ht : t ≤ 40) (hm : 0 ≤ m) (hm' : m < p2 (t - k)) : valid (m * p2 k, k) = true ∧ m * p2 k + p2 k ≤ p2 t := by
  have h1 : (m + 1) * p2 k ≤ p2 (t - k) * p2 k := Int.mul_le_mul_of_nonneg_right (by omega) (Int.le_of_lt (p2_pos k))
  have h2 : p2 (t - k) * p2 k = p2 t := by rw [← p2_add (by omega) (by omega)]; congr 1; omega
  have h3 := p2_le40 ht
  rw [Int.add_mul, Int.one_mul, h2] at h1
  have h4 : 0 ≤ m * p2 k := Int.mul_nonneg hm (Int.le_of_lt (p2_pos k))
  exact ⟨valid_intro hk (by show k ≤ 40; omega) h4 (tmod_zero ⟨m, rfl⟩) (by show m * p2 k + p2 k ≤ _; omega), h1⟩
theorem small_valid (a : Int × Int) : valid (small a) = true := by
  have h := place_range a.2 (s := 11) (by omega)
  exact (mk_valid (t := 16) (by omega) (by omega) (by omega) (place_lo _ _) (place_hi _ (p2_pos _))).1
end Go.AL
