/-
  ForestClaims: the plain law; what Free says of the ranges. By an AI agent.
-/
import Derived.Test.YteppokgkagjklaaH11
namespace Go.AL
open Go.Proofs
set_option linter.unusedVariables false
set_option linter.unusedSimpArgs false
def lowH (r : Rg) : Rg := (r.1, r.2 - 1)
def highH (r : Rg) : Rg := (r.1 + p2 (r.2 - 1), r.2 - 1)
theorem low_valid {r : Rg} (h : valid r = true) (h7 : 7 ≤ r.2) : valid (lowH r) = true := by
  obtain ⟨h1, h2, h3, h4, h5⟩ := valid_elim h
  obtain ⟨m, q, e1, e2, e3⟩ := units h (j := r.2 - 1) (by omega) (by omega)
  have h6 := p2_pred (k := r.2) (by omega); have h8 := p2_pos (r.2 - 1)
  have : Int.tmod r.1 (p2 (r.2 - 1)) = 0 := tmod_zero ⟨m, e1⟩
  exact valid_intro (by simp only [lowH]; omega) (by simp only [lowH]; omega) h3 this (by simp only [lowH]; omega)
theorem high_valid {r : Rg} (h : valid r = true) (h7 : 7 ≤ r.2) : valid (highH r) = true := by
  obtain ⟨h1, h2, h3, h4, h5⟩ := valid_elim h
  obtain ⟨m, q, e1, e2, e3⟩ := units h (j := r.2 - 1) (by omega) (by omega)
  have h6 := p2_pred (k := r.2) (by omega); have h8 := p2_pos (r.2 - 1)
  have : Int.tmod (r.1 + p2 (r.2 - 1)) (p2 (r.2 - 1)) = 0 := tmod_zero ⟨m + 1, by rw [Int.add_mul, Int.one_mul, ← e1]⟩
  exact valid_intro (by simp only [highH]; omega) (by simp only [highH]; omega) (by simp only [highH]; omega) this (by simp only [highH]; omega)
theorem low_in {r : Rg} (h : valid r = true) (h7 : 7 ≤ r.2) : contains (r, lowH r) = true := by
  have h6 := p2_pred (k := r.2) (by omega); have h8 := p2_pos (r.2 - 1)
  exact cont_intro h (low_valid h h7) (Int.le_refl _) (by simp only [lowH]; omega)
theorem high_in {r : Rg} (h : valid r = true) (h7 : 7 ≤ r.2) : contains (r, highH r) = true := by
  have h6 := p2_pred (k := r.2) (by omega); have h8 := p2_pos (r.2 - 1)
  exact cont_intro h (high_valid h h7) (by simp only [highH]; omega) (by simp only [highH]; omega)
theorem over_half {u r : Rg} (h : valid r = true) (h7 : 7 ≤ r.2) (ho : overlaps (u, r) = true) : overlaps (u, lowH r) = true ∨ overlaps (u, highH r) = true := by
  obtain ⟨g1, g2, g3, g4⟩ := over_elim ho
  have h6 := p2_pred (k := r.2) (by omega); have h8 := p2_pos (r.2 - 1); have h9 := p2_pos u.2
  by_cases hc : u.1 < r.1 + p2 (r.2 - 1)
  · exact .inl (over_intro g1 (low_valid h h7) (by simp only [lowH]; omega) (by simp only [lowH]; omega))
  · exact .inr (over_intro g1 (high_valid h h7) (by simp only [highH]; omega) (by simp only [highH]; omega))
/-! ### Free -/
theorem free_valid {r : Rg} (h : valid r = true) (used : List Rg) : free (r, used) = bif used.any (fun u => contains (u, r)) then [] else bif (used.filter (fun u => overlaps (u, r))).isEmpty then [r] else bif r.2 == 6 then [] else free (lowH r, used.filter (fun u => overlaps (u, r))) ++ free (highH r, used.filter (fun u => overlaps (u, r))) := by
  rw [free_eq, h]; rfl
/-- Only what overlaps matters. -/
theorem free_near {a b : Rg} (ha : valid a = true) (hb : valid b = true) (h : contains (a, b) = true) (used : List Rg) : free (b, used.filter (fun u => overlaps (u, a))) = free (b, used) := by
  have e1 : (used.filter (fun u => overlaps (u, a))).filter (fun u => overlaps (u, b)) = used.filter (fun u => overlaps (u, b)) := by
    rw [List.filter_filter]
    apply List.filter_congr
    intro u hu
    cases ho : overlaps (u, b) with
    | false => rfl
    | true => rw [over_mono h ho]; rfl
  have e2 : (used.filter (fun u => overlaps (u, a))).any (fun u => contains (u, b)) = used.any (fun u => contains (u, b)) := by
    rw [← any_near b (used.filter (fun u => overlaps (u, a))), e1, any_near]
  rw [free_valid hb, free_valid hb, e1, e2]
theorem free_halves {r : Rg} (h : valid r = true) (h7 : 7 ≤ r.2) {used : List Rg} (hn : (used.filter (fun u => overlaps (u, r))).isEmpty = false) : free (r, used) = free (lowH r, used) ++ free (highH r, used) := by
  have hl := low_valid h h7; have hh := high_valid h h7
  rw [free_valid h, hn]
  have h6 : (r.2 == 6) = false := by simp; omega
  rw [h6, free_near h hl (low_in h h7), free_near h hh (high_in h h7)]
  cases hc : used.any (fun u => contains (u, r)) with
  | false => rfl
  | true =>
    obtain ⟨u, hu, hcu⟩ := List.any_eq_true.1 hc
    have f1 : used.any (fun u => contains (u, lowH r)) = true := List.any_eq_true.2 ⟨u, hu, cont_trans hcu (low_in h h7)⟩
    have f2 : used.any (fun u => contains (u, highH r)) = true := List.any_eq_true.2 ⟨u, hu, cont_trans hcu (high_in h h7)⟩
    rw [free_valid hl, free_valid hh, f1, f2]; rfl
theorem free_none {r : Rg} (h : valid r = true) {used : List Rg} (hn : (used.filter (fun u => overlaps (u, r))).isEmpty = true) : free (r, used) = [r] := by
  have : used.any (fun u => contains (u, r)) = false := by
    rw [← any_near, List.isEmpty_iff.1 hn]; rfl
  rw [free_valid h, hn, this]; rfl
theorem free_six {r : Rg} (h : valid r = true) (h6 : r.2 = 6) {used : List Rg} (hn : (used.filter (fun u => overlaps (u, r))).isEmpty = false) : free (r, used) = [] := by
  rw [free_valid h, hn, show (r.2 == 6) = true by simp [h6]]
  cases used.any (fun u => contains (u, r)) <;> rfl
/-- Induction over a valid range and its halves. -/
theorem rg_induct {p : Rg → Prop} (h6 : ∀ r, valid r = true → r.2 = 6 → p r) (hs : ∀ r, valid r = true → 7 ≤ r.2 → p (lowH r) → p (highH r) → p r) : ∀ r, valid r = true → p r := by
  have main : ∀ (n : Nat) (r : Rg), valid r = true → r.2.toNat ≤ n → p r := by
    intro n
    induction n with
    | zero => intro r hr hn; have := valid_elim hr; omega
    | succ n ih =>
      intro r hr hn
      have := valid_elim hr
      by_cases h : r.2 = 6
      · exact h6 r hr h
      · exact hs r hr (by omega) (ih _ (low_valid hr (by omega)) (by simp only [lowH]; omega)) (ih _ (high_valid hr (by omega)) (by simp only [highH]; omega))
  exact fun r hr => main _ r hr (Nat.le_refl _)
/-- What is free lies in the range. -/
theorem free_in : ∀ r, valid r = true → ∀ (used : List Rg) (f : Rg), f ∈ free (r, used) → contains (r, f) = true := by
  refine rg_induct ?_ ?_
  · intro r hr h6 used f hf
    cases hn : (used.filter (fun u => overlaps (u, r))).isEmpty with
    | true => rw [free_none hr hn] at hf; rw [List.mem_singleton.1 hf]; exact cont_refl hr
    | false => rw [free_six hr h6 hn] at hf; cases hf
  · intro r hr h7 il ih used f hf
    cases hn : (used.filter (fun u => overlaps (u, r))).isEmpty with
    | true => rw [free_none hr hn] at hf; rw [List.mem_singleton.1 hf]; exact cont_refl hr
    | false =>
      rw [free_halves hr h7 hn] at hf
      rcases List.mem_append.1 hf with hf | hf
      · exact cont_trans (low_in hr h7) (il used f hf)
      · exact cont_trans (high_in hr h7) (ih used f hf)
theorem near_mem {r : Rg} {used : List Rg} (hn : (used.filter (fun u => overlaps (u, r))).isEmpty = false) : ∃ u, u ∈ used ∧ overlaps (u, r) = true := by
  cases e : used.filter (fun u => overlaps (u, r)) with
  | nil => rw [e] at hn; cases hn
  | cons u l =>
    have : u ∈ used.filter (fun u => overlaps (u, r)) := by rw [e]; exact List.mem_cons_self
    exact ⟨u, (List.mem_filter.1 this).1, (List.mem_filter.1 this).2⟩
theorem near_ne {r : Rg} {used : List Rg} {u : Rg} (hu : u ∈ used) (ho : overlaps (u, r) = true) : (used.filter (fun u => overlaps (u, r))).isEmpty = false := by
  cases e : used.filter (fun u => overlaps (u, r)) with
  | nil =>
    have : u ∈ used.filter (fun u => overlaps (u, r)) := List.mem_filter.2 ⟨hu, ho⟩
    rw [e] at this; cases this
  | cons _ _ => rfl
theorem free_apart : ∀ r, valid r = true → ∀ (used : List Rg) (f : Rg), f ∈ free (r, used) → ∀ x ∈ used, overlaps (f, x) = false := by
  refine rg_induct ?_ ?_
  · intro r hr h6 used f hf x hx
    cases hn : (used.filter (fun u => overlaps (u, r))).isEmpty with
    | true =>
      rw [free_none hr hn] at hf
      rw [List.mem_singleton.1 hf, over_symm]
      cases ho : overlaps (x, r) with
      | false => rfl
      | true => rw [near_ne hx ho] at hn; cases hn
    | false => rw [free_six hr h6 hn] at hf; cases hf
  · intro r hr h7 il ih used f hf x hx
    cases hn : (used.filter (fun u => overlaps (u, r))).isEmpty with
    | true =>
      rw [free_none hr hn] at hf
      rw [List.mem_singleton.1 hf, over_symm]
      cases ho : overlaps (x, r) with
      | false => rfl
      | true => rw [near_ne hx ho] at hn; cases hn
    | false =>
      rw [free_halves hr h7 hn] at hf
      rcases List.mem_append.1 hf with h | h
      · exact il used f h x hx
      · exact ih used f h x hx
theorem cont_same {r b : Rg} (h : contains (r, b) = true) (hb : r.2 ≤ b.2) : b = r := by
  obtain ⟨g1, g2, g3, g4⟩ := cont_elim h
  have := cont_bits h
  have e : b.2 = r.2 := by omega
  rw [e] at g4
  exact Prod.ext (by omega) e
theorem free_block : ∀ r, valid r = true → ∀ (used : List Rg) (b : Rg), contains (r, b) = true → (∀ u ∈ used, overlaps (u, b) = false) → ∃ f ∈ free (r, used), contains (f, b) = true := by
  refine rg_induct ?_ ?_
  · intro r hr h6 used b hb hu
    have hbb := valid_elim (cont_elim hb).2.1
    have := cont_same hb (by omega)
    subst this
    cases hn : (used.filter (fun u => overlaps (u, b))).isEmpty with
    | true => rw [free_none hr hn]; exact ⟨b, List.mem_singleton.2 rfl, hb⟩
    | false =>
      obtain ⟨u, h1, h2⟩ := near_mem hn
      rw [hu u h1] at h2; cases h2
  · intro r hr h7 il ih used b hb hu
    cases hn : (used.filter (fun u => overlaps (u, r))).isEmpty with
    | true => rw [free_none hr hn]; exact ⟨r, List.mem_singleton.2 rfl, hb⟩
    | false =>
      obtain ⟨u, h1, h2⟩ := near_mem hn
      have hv := (cont_elim hb).2.1
      have hlt : b.2 ≤ r.2 - 1 := by
        have := cont_bits hb
        by_cases he : b.2 = r.2
        · rw [cont_same hb (by omega)] at hu
          rw [hu u h1] at h2; cases h2
        · omega
      have ho : overlaps (b, r) = true := by rw [over_symm]; exact cont_over hb
      rw [free_halves hr h7 hn]
      rcases over_half hr h7 ho with h | h
      · rw [over_le hv (low_valid hr h7) (by simp only [lowH]; omega)] at h
        obtain ⟨f, f1, f2⟩ := il used b h hu
        exact ⟨f, List.mem_append_left _ f1, f2⟩
      · rw [over_le hv (high_valid hr h7) (by simp only [highH]; omega)] at h
        obtain ⟨f, f1, f2⟩ := ih used b h hu
        exact ⟨f, List.mem_append_right _ f1, f2⟩
theorem cnf_zero {m : Int} {l : List SEn} (h : Vf m l) (c : SCp) : cnfS (l, (0, 0, 0), [c]) = (l.map rgE).any (fun u => overlaps (u, rgC c)) := by
  have hz := findE_zero h
  simp only [cnfS, List.any_cons, List.any_nil, Bool.or_false, List.any_map]
  congr 1
  funext e
  simp only [hitE, decide_eq_false (show ¬ findE l (0, 0, 0) ≥ 0 by omega), Bool.false_and, Bool.not_false, Bool.and_true, Function.comp]
theorem small_in (a : Int × Int) : contains ((0, 16), small a) = true := by
  have hv := small_valid a
  have h16 := small_bits a
  have k := place_range a.2 (s := 11) (by omega)
  have hp := place_range a.1 (s := p2 (16 - (6 + place (a.2, 11)))) (p2_pos _)
  have := (mk_valid (m := place (a.1, p2 (16 - (6 + place (a.2, 11))))) (k := 6 + place (a.2, 11)) (t := 16) (by omega) (by omega) (by omega) hp.1 hp.2).2
  exact cont_intro (by rfl) hv (valid_elim hv).2.2.1 (by show (small a).1 + p2 (small a).2 ≤ 0 + p2 16; rw [Int.zero_add]; exact this)
theorem cla_0 (base bits : Int) (l : List SEn) (fr : List Rg) (hE : okE l = true) (hP : cnfPre (l, (0, 0, 0), [(0, 0, 0, 0, 0, 0, false)]) = true) : ∀ (r : List Rg) (k : Nat), (∀ f ∈ r, cnfS (l, (0, 0, 0), [(1, f.1, f.2, 0, 0, 0, false)]) = false) →
    F_cla_0 r (base, bits, l, fr, k) = F_cla_2 fr (l, fr, small (base, bits), false, 0) ∧ (P_cla_2 fr (l, fr, small (base, bits), false, 0) = true → fr.length ≤ 1099511627776 → P_cla_0 r (base, bits, l, fr, k) = true)
  | [], k, h => ⟨rfl, fun h1 h2 => by simp only [P_cla_0, h1, decide_eq_true h2]; rfl⟩
  | u :: r, k, h => by
    obtain ⟨i1, i2⟩ := cla_0 base bits l fr hE hP r (k + 1) (fun f hf => h f (List.mem_cons_of_mem _ hf))
    have h1 := h u (List.mem_cons_self ..)
    have h2 : cnfPre (l, (0, 0, 0), [(1, u.1, u.2, 0, 0, 0, false)]) = true := hP
    simp only [F_cla_0, P_cla_0, h1, h2, hE, i1, cond_false, Bool.true_and]
    exact ⟨trivial, i2⟩
theorem cla_2 (l : List SEn) (fr : List Rg) (x : Rg) (hE : okE l = true) (hP : cnfPre (l, (0, 0, 0), [(0, 0, 0, 0, 0, 0, false)]) = true) : ∀ (r : List Rg) (k : Nat) (b : Bool),
    F_cla_2 r (l, fr, x, b, k) = (cnfS (l, (0, 0, 0), [(1, x.1, x.2, 0, 0, 0, false)]) == !(b || r.any (fun f => contains (f, x)))) ∧ P_cla_2 r (l, fr, x, b, k) = true
  | [], k, b => by
    have h2 : cnfPre (l, (0, 0, 0), [(1, x.1, x.2, 0, 0, 0, false)]) = true := hP
    simp only [F_cla_2, P_cla_2, hE, h2, List.any_nil, Bool.or_false]
    cases cnfS (l, (0, 0, 0), [(1, x.1, x.2, 0, 0, 0, false)]) == !b <;> exact ⟨rfl, rfl⟩
  | u :: r, k, b => by
    simp only [F_cla_2, P_cla_2, (cla_2 l fr x hE hP r (k + 1) true).1, (cla_2 l fr x hE hP r (k + 1) true).2, (cla_2 l fr x hE hP r (k + 1) (contains (u, x))).1, (cla_2 l fr x hE hP r (k + 1) (contains (u, x))).2, List.any_cons]
    cases b <;> exact ⟨by simp, rfl⟩
theorem cla_true : ∀ a : List SSt × Int × Int, ∃ f, M_cla f a = some true := by
  rintro ⟨steps, base, bits⟩
  obtain ⟨hv, hlen⟩ := forest_vf steps
  have key : P_cla (steps, base, bits) = true ∧ F_cla (steps, base, bits) = true := by
    have hE : okE (forest steps) = true := okE_vf hv (by omega)
    have hfp : frePre (forest steps, 0, 16) = true := decide_eq_true (by show (forest steps).length ≤ 1000; omega)
    simp only [P_cla, F_cla, hE, hfp, Bool.true_and]
    generalize forest steps = l at hv hlen hE hfp ⊢
    have hP : cnfPre (l, (0, 0, 0), [(0, 0, 0, 0, 0, 0, false)]) = true := by
      simp only [cnfPre, Bool.and_eq_true]; exact ⟨decide_eq_true (by omega), rfl⟩
    have h16 : valid (0, 16) = true := rfl
    have hfl : (freS (l, 0, 16)).length ≤ 1099511627776 := free_len _
    have hap := free_apart (0, 16) h16 (l.map rgE)
    obtain ⟨i1, i2⟩ := cla_0 base bits l (freS (l, 0, 16)) hE hP (freS (l, 0, 16)) 0 (fun f hf => by
      rw [cnf_zero hv]
      rw [← Bool.not_eq_true, List.any_eq_true]
      rintro ⟨u, hu, ho⟩
      have := hap f hf u hu
      rw [over_symm] at this
      rw [show rgC ((1, f.1, f.2, 0, 0, 0, false) : SCp) = f from rfl, this] at ho; cases ho)
    obtain ⟨j1, j2⟩ := cla_2 l (freS (l, 0, 16)) (small (base, bits)) hE hP (freS (l, 0, 16)) 0 false
    rw [i1, j1, i2 j2 hfl, decide_eq_true hfl, cnf_zero hv, Bool.false_or]
    refine ⟨rfl, ?_⟩
    rw [show rgC ((1, (small (base, bits)).1, (small (base, bits)).2, 0, 0, 0, false) : SCp) = small (base, bits) from rfl]
    have hin := small_in (base, bits)
    generalize small (base, bits) = x at hin ⊢
    rw [beq_iff_eq]
    cases hc : (l.map rgE).any (fun u => overlaps (u, x))
    · obtain ⟨f, f1, f2⟩ := free_block (0, 16) h16 (l.map rgE) x hin (any_false hc)
      rw [show (freS (l, 0, 16)).any (fun f => contains (f, x)) = true from List.any_eq_true.2 ⟨f, f1, f2⟩]; rfl
    · obtain ⟨u, u1, u2⟩ := List.any_eq_true.1 hc
      cases hd : (freS (l, 0, 16)).any (fun f => contains (f, x))
      · rfl
      · obtain ⟨f, f1, f2⟩ := List.any_eq_true.1 hd
        have := hap f f1 u u1
        rw [over_symm, over_mono f2 u2] at this; cases this
  have := cla_auto (steps, base, bits) key.1
  rw [key.2] at this; exact this
end Go.AL
