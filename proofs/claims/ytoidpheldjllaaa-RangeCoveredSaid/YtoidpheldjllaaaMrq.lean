/-
  Plain facts on ranges, second part: blocks of one size, what Free and Find say of them; sums of sizes. By an AI agent.
-/
import Derived.Test.YtoidpheldjllaaaMrp
namespace Go.AL
open Go.Proofs
set_option linter.unusedVariables false
set_option linter.unusedSimpArgs false

theorem place_range (n : Int) {s : Int} (h : 0 < s) : 0 ≤ place (n, s) ∧ place (n, s) < s := ⟨place_lo n s, place_hi n h⟩
theorem mk_valid {m k t : Int} (hk : 6 ≤ k) (hkt : k ≤ t) (ht : t ≤ 40) (hm : 0 ≤ m) (hm' : m < p2 (t - k)) : valid (m * p2 k, k) = true ∧ m * p2 k + p2 k ≤ p2 t := by
  have h1 : (m + 1) * p2 k ≤ p2 (t - k) * p2 k := Int.mul_le_mul_of_nonneg_right (by omega) (Int.le_of_lt (p2_pos k))
  have h2 : p2 (t - k) * p2 k = p2 t := by rw [← p2_add (by omega) (by omega)]; congr 1; omega
  have h3 := p2_le40 ht
  rw [Int.add_mul, Int.one_mul, h2] at h1
  have h4 : 0 ≤ m * p2 k := Int.mul_nonneg hm (Int.le_of_lt (p2_pos k))
  exact ⟨valid_intro hk (by show k ≤ 40; omega) h4 (tmod_zero ⟨m, rfl⟩) (by show m * p2 k + p2 k ≤ _; omega), h1⟩
theorem block_valid (a : Int × Int) : valid (block a) = true := by
  have h := place_range a.2 (s := 35) (by omega)
  exact (mk_valid (t := 40) (by omega) (by omega) (by omega) (place_lo _ _) (place_hi _ (p2_pos _))).1
theorem small_valid (a : Int × Int) : valid (small a) = true := by
  have h := place_range a.2 (s := 11) (by omega)
  exact (mk_valid (t := 16) (by omega) (by omega) (by omega) (place_lo _ _) (place_hi _ (p2_pos _))).1
theorem small_bits (a : Int × Int) : (small a).2 ≤ 16 := by
  have h := place_range a.2 (s := 11) (by omega)
  show 6 + place (a.2, 11) ≤ 16; omega
theorem smalls_len : ∀ (n : Nat) (l : List Int), (smallsN n l).length ≤ n
  | 0, l => by simp [smallsN]
  | n + 1, [] => by simp [smallsN]
  | n + 1, [a] => by simp [smallsN]
  | n + 1, a :: b :: l => by have := smalls_len n l; simp [smallsN]; omega
theorem smalls_valid : ∀ (n : Nat) (l : List Int) (u : Rg), u ∈ smallsN n l → valid u = true
  | 0, l, u, h => by simp [smallsN] at h
  | n + 1, [], u, h => by simp [smallsN] at h
  | n + 1, [a], u, h => by simp [smallsN] at h
  | n + 1, a :: b :: l, u, h => by
    rcases List.mem_cons.1 h with rfl | h
    · exact small_valid _
    · exact smalls_valid n l u h

/-! ### The range of twice the size -/
def twice (f : Rg) : Rg := (f.1 - Int.tmod f.1 (2 * p2 f.2), f.2 + 1)
theorem twice_low {r : Rg} (h : valid r = true) (h7 : 7 ≤ r.2) : twice (lowH r) = r := by
  obtain ⟨h1, h2, h3, h4, h5⟩ := valid_elim h
  have e := p2_pred (k := r.2) (by omega)
  simp only [twice, lowH]
  rw [← e, h4]
  exact Prod.ext (by show r.1 - 0 = r.1; omega) (by show r.2 - 1 + 1 = r.2; omega)
theorem twice_high {r : Rg} (h : valid r = true) (h7 : 7 ≤ r.2) : twice (highH r) = r := by
  obtain ⟨h1, h2, h3, h4, h5⟩ := valid_elim h
  obtain ⟨m, q, e1, e2, e3⟩ := units h (j := r.2) (by omega) (Int.le_refl _)
  have e := p2_pred (k := r.2) (by omega)
  have hp := p2_pos (r.2 - 1)
  simp only [twice, highH]
  rw [← e]
  have ht : Int.tmod (r.1 + p2 (r.2 - 1)) (p2 r.2) = p2 (r.2 - 1) := by
    rw [Int.tmod_eq_emod_of_nonneg (by omega), e1, Int.add_comm, Int.add_mul_emod_self_right]
    exact Int.emod_eq_of_lt (by omega) (by omega)
  rw [ht]
  exact Prod.ext (by show r.1 + p2 (r.2 - 1) - p2 (r.2 - 1) = r.1; omega) (by show r.2 - 1 + 1 = r.2; omega)
theorem near_mem {r : Rg} {used : List Rg} (hn : (used.filter (fun u => overlaps (u, r))).isEmpty = false) : ∃ u, u ∈ used ∧ overlaps (u, r) = true := by
  cases e : used.filter (fun u => overlaps (u, r)) with
  | nil => rw [e] at hn; cases hn
  | cons u l =>
    have : u ∈ used.filter (fun u => overlaps (u, r)) := by rw [e]; exact List.mem_cons_self
    exact ⟨u, (List.mem_filter.1 this).1, (List.mem_filter.1 this).2⟩
theorem near_ne {r : Rg} {used : List Rg} {u : Rg} (hu : u ∈ used) (ho : overlaps (u, r) = true) : (used.filter (fun u => overlaps (u, r))).isEmpty = false := by
  cases e : used.filter (fun u => overlaps (u, r)) with
  | nil =>
    have : u ∈ used.filter (fun u => overlaps (u, r)) := List.mem_filter.2 ⟨hu, ho⟩
    rw [e] at this; cases this
  | cons _ _ => rfl
theorem free_max : ∀ r, valid r = true → ∀ (used : List Rg) (f : Rg), f ∈ free (r, used) → f = r ∨ ∃ u, u ∈ used ∧ overlaps (twice f, u) = true := by
  refine rg_induct ?_ ?_
  · intro r hr h6 used f hf
    cases hn : (used.filter (fun u => overlaps (u, r))).isEmpty with
    | true => rw [free_none hr hn] at hf; exact .inl (List.mem_singleton.1 hf)
    | false => rw [free_six hr h6 hn] at hf; cases hf
  · intro r hr h7 il ih used f hf
    cases hn : (used.filter (fun u => overlaps (u, r))).isEmpty with
    | true => rw [free_none hr hn] at hf; exact .inl (List.mem_singleton.1 hf)
    | false =>
      obtain ⟨u, hu, ho⟩ := near_mem hn
      rw [over_symm] at ho
      rw [free_halves hr h7 hn] at hf
      rcases List.mem_append.1 hf with hf | hf
      · rcases il used f hf with rfl | h
        · exact .inr ⟨u, hu, by rw [twice_low hr h7]; exact ho⟩
        · exact .inr h
      · rcases ih used f hf with rfl | h
        · exact .inr ⟨u, hu, by rw [twice_high hr h7]; exact ho⟩
        · exact .inr h
theorem free_self {r : Rg} (hr : valid r = true) {used : List Rg} (h : r ∈ free (r, used)) : free (r, used) = [r] := by
  cases hn : (used.filter (fun u => overlaps (u, r))).isEmpty with
  | true => exact free_none hr hn
  | false =>
    have hb := valid_elim hr
    by_cases h6 : r.2 = 6
    · rw [free_six hr h6 hn] at h; cases h
    · have h7 : 7 ≤ r.2 := by omega
      rw [free_halves hr h7 hn] at h
      rcases List.mem_append.1 h with h | h
      · have := cont_bits (free_in _ (low_valid hr h7) _ _ h); simp only [lowH] at this; omega
      · have := cont_bits (free_in _ (high_valid hr h7) _ _ h); simp only [highH] at this; omega

/-! ### Order and sums -/
def Asc (a b : Rg) : Prop := a.1 + p2 a.2 ≤ b.1
theorem free_asc : ∀ r, valid r = true → ∀ (used : List Rg), (free (r, used)).Pairwise Asc := by
  refine rg_induct ?_ ?_
  · intro r hr h6 used
    cases hn : (used.filter (fun u => overlaps (u, r))).isEmpty with
    | true => rw [free_none hr hn]; simp
    | false => rw [free_six hr h6 hn]; simp
  · intro r hr h7 il ih used
    cases hn : (used.filter (fun u => overlaps (u, r))).isEmpty with
    | true => rw [free_none hr hn]; simp
    | false =>
      rw [free_halves hr h7 hn, List.pairwise_append]
      refine ⟨il used, ih used, fun a ha b hb => ?_⟩
      have h1 := cont_elim (free_in _ (low_valid hr h7) _ _ ha)
      have h2 := cont_elim (free_in _ (high_valid hr h7) _ _ hb)
      simp only [lowH, highH] at h1 h2
      show a.1 + p2 a.2 ≤ b.1; omega
def sumF : List Rg → Int
  | [] => 0
  | x :: l => p2 x.2 + sumF l
theorem sumF_app : ∀ a b : List Rg, sumF (a ++ b) = sumF a + sumF b
  | [], b => by simp [sumF]
  | x :: l, b => by have := sumF_app l b; simp only [List.cons_append, sumF, this]; omega
theorem free_sum : ∀ r, valid r = true → ∀ (used : List Rg), sumF (free (r, used)) ≤ p2 r.2 ∧ ((used.filter (fun u => overlaps (u, r))).isEmpty = false → sumF (free (r, used)) < p2 r.2) := by
  refine rg_induct ?_ ?_
  · intro r hr h6 used
    have hp := p2_pos r.2
    cases hn : (used.filter (fun u => overlaps (u, r))).isEmpty with
    | true => rw [free_none hr hn]; simp [sumF]
    | false => rw [free_six hr h6 hn]; simp only [sumF]; exact ⟨by omega, fun _ => by omega⟩
  · intro r hr h7 il ih used
    have hp := p2_pos r.2
    have e := p2_pred (k := r.2) (by omega)
    cases hn : (used.filter (fun u => overlaps (u, r))).isEmpty with
    | true => rw [free_none hr hn]; simp [sumF]
    | false =>
      rw [free_halves hr h7 hn, sumF_app]
      obtain ⟨l1, l2⟩ := il used
      obtain ⟨g1, g2⟩ := ih used
      simp only [lowH, highH] at l1 l2 g1 g2
      simp only [lowH, highH]
      obtain ⟨u, hu, ho⟩ := near_mem hn
      rcases over_half hr h7 ho with h | h
      · have := l2 (near_ne hu h); exact ⟨by omega, fun _ => by omega⟩
      · have := g2 (near_ne hu h); exact ⟨by omega, fun _ => by omega⟩

/-! ### Blocks of one size -/
def blk : Nat → Rg → List Rg
  | 0, r => [r]
  | n + 1, r => blk n (lowH r) ++ blk n (highH r)
def blks (k : Int) (r : Rg) : List Rg := bif decide (k ≤ r.2) then blk (r.2 - k).toNat r else []
def hits (used : List Rg) (y : Rg) : Bool := used.any (fun u => overlaps (y, u))
theorem blk_in : ∀ (n : Nat) (r : Rg), valid r = true → 6 + (n : Int) ≤ r.2 → ∀ y, y ∈ blk n r → contains (r, y) = true
  | 0, r, hr, hn, y, h => by rw [List.mem_singleton.1 h]; exact cont_refl hr
  | n + 1, r, hr, hn, y, h => by
    have h7 : 7 ≤ r.2 := by omega
    rcases List.mem_append.1 h with h | h
    · exact cont_trans (low_in hr h7) (blk_in n _ (low_valid hr h7) (by simp only [lowH]; omega) y h)
    · exact cont_trans (high_in hr h7) (blk_in n _ (high_valid hr h7) (by simp only [highH]; omega) y h)
theorem blks_ge {k : Int} {r : Rg} (h : k ≤ r.2) : blks k r = blk (r.2 - k).toNat r := bif_pos h
theorem blks_lt {k : Int} {r : Rg} (h : r.2 < k) : blks k r = [] := bif_neg (by omega)
theorem blks_gt {k : Int} {r : Rg} (h : k < r.2) : blks k r = blks k (lowH r) ++ blks k (highH r) := by
  rw [blks_ge (by omega), blks_ge (by simp only [lowH]; omega), blks_ge (by simp only [highH]; omega), show (r.2 - k).toNat = (r.2 - 1 - k).toNat + 1 by omega]; rfl
theorem flat_nil {k : Int} : ∀ {l : List Rg}, (∀ f, f ∈ l → f.2 < k) → l.flatMap (blks k) = []
  | [], _ => rfl
  | x :: l, h => by
    rw [List.flatMap_cons, blks_lt (h x List.mem_cons_self), flat_nil (fun f hf => h f (List.mem_cons_of_mem _ hf))]; rfl
theorem free_blks (k : Int) (hk : 6 ≤ k) : ∀ r, valid r = true → ∀ (used : List Rg), k ≤ r.2 → (blks k r).filter (fun y => !hits used y) = (free (r, used)).flatMap (blks k) := by
  have none : ∀ r, valid r = true → ∀ (used : List Rg), k ≤ r.2 → (used.filter (fun u => overlaps (u, r))).isEmpty = true → (blks k r).filter (fun y => !hits used y) = (free (r, used)).flatMap (blks k) := by
    intro r hr used hkr hn
    rw [free_none hr hn]
    simp only [List.flatMap_cons, List.flatMap_nil, List.append_nil]
    refine List.filter_eq_self.2 fun y hy => ?_
    rw [blks_ge hkr] at hy
    have hc := blk_in _ r hr (by have := valid_elim hr; omega) y hy
    cases hh : hits used y with
    | false => rfl
    | true =>
      obtain ⟨u, hu, ho⟩ := List.any_eq_true.1 hh
      rw [over_symm] at ho
      have := near_ne hu (over_mono hc ho)
      rw [hn] at this; cases this
  have hitr : ∀ r, ∀ (used : List Rg), (used.filter (fun u => overlaps (u, r))).isEmpty = false → hits used r = true := by
    intro r used hn
    obtain ⟨u, hu, ho⟩ := near_mem hn
    exact List.any_eq_true.2 ⟨u, hu, by rw [over_symm]; exact ho⟩
  refine rg_induct ?_ ?_
  · intro r hr h6 used hkr
    cases hn : (used.filter (fun u => overlaps (u, r))).isEmpty with
    | true => exact none r hr used hkr hn
    | false =>
      rw [free_six hr h6 hn, blks_ge hkr, show (r.2 - k).toNat = 0 by omega]
      simp [blk, hitr r used hn]
  · intro r hr h7 il ih used hkr
    cases hn : (used.filter (fun u => overlaps (u, r))).isEmpty with
    | true => exact none r hr used hkr hn
    | false =>
      by_cases hlt : k < r.2
      · rw [blks_gt hlt, free_halves hr h7 hn, List.filter_append, List.flatMap_append, il used (by simp only [lowH]; omega), ih used (by simp only [highH]; omega)]
      · rw [blks_ge hkr, show (r.2 - k).toNat = 0 by omega, flat_nil]
        · simp [blk, hitr r used hn]
        · intro f hf
          rw [free_halves hr h7 hn] at hf
          rcases List.mem_append.1 hf with hf | hf
          · have := cont_bits (free_in _ (low_valid hr h7) _ _ hf); simp only [lowH] at this; omega
          · have := cont_bits (free_in _ (high_valid hr h7) _ _ hf); simp only [highH] at this; omega
/-- One block behind the other. -/
def row (k : Int) : Nat → Int → List Rg
  | 0, _ => []
  | m + 1, b => (b, k) :: row k m (b + p2 k)
theorem row_app (k : Int) : ∀ (m n : Nat) (b : Int), row k (m + n) b = row k m b ++ row k n (b + m * p2 k)
  | 0, n, b => by simp [row]
  | m + 1, n, b => by
    have e : b + p2 k + (m : Int) * p2 k = b + ((m + 1 : Nat) : Int) * p2 k := by
      rw [show ((m + 1 : Nat) : Int) = (m : Int) + 1 by omega, Int.add_mul, Int.one_mul]; omega
    rw [show m + 1 + n = (m + n) + 1 by omega]
    simp only [row, row_app k m n, List.cons_append, e]
theorem p2_nat (n : Nat) : ((2 ^ n : Nat) : Int) = p2 n := by unfold p2; simp
theorem blk_row : ∀ (n : Nat) (r : Rg), (n : Int) ≤ r.2 → blk n r = row (r.2 - n) (2 ^ n) r.1
  | 0, r, h => by simp [blk, row]
  | n + 1, r, h => by
    have i1 := blk_row n (lowH r) (by simp only [lowH]; omega)
    have i2 := blk_row n (highH r) (by simp only [highH]; omega)
    simp only [lowH] at i1
    simp only [highH] at i2
    have e : r.2 - ((n + 1 : Nat) : Int) = r.2 - 1 - n := by omega
    rw [blk, show blk n (lowH r) = _ from i1, show blk n (highH r) = _ from i2, e, Nat.pow_succ, Nat.mul_two, row_app, p2_nat, ← p2_add (by omega) (by omega), show (n : Int) + (r.2 - 1 - n) = r.2 - 1 by omega]
theorem row_len (k : Int) : ∀ (m : Nat) (b : Int), (row k m b).length = m
  | 0, b => rfl
  | m + 1, b => by simp [row, row_len k m]
theorem row_ge (k : Int) : ∀ (m : Nat) (b : Int) (y : Rg), y ∈ row k m b → b ≤ y.1 ∧ y.2 = k
  | m + 1, b, y, h => by
    rcases List.mem_cons.1 h with rfl | h
    · exact ⟨Int.le_refl _, rfl⟩
    · have := row_ge k m _ y h; have := p2_pos k; exact ⟨by omega, by omega⟩
theorem row_nodup (k : Int) : ∀ (m : Nat) (b : Int), (row k m b).Pairwise (fun x y => x ≠ y)
  | 0, b => by simp [row]
  | m + 1, b => by
    refine List.pairwise_cons.2 ⟨fun y hy e => ?_, row_nodup k m _⟩
    have h1 := row_ge k m _ y hy; have h2 := p2_pos k; subst e; simp only at h1; omega
end Go.AL
