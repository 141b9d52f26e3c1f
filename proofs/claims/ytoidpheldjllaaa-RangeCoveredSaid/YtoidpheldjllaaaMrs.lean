/-
  Ranges counted: how many addresses some ranges cover; the reference's count and the count over the sorted list are both this. By an AI agent.
-/
import Derived.Test.YtoidpheldjllaaaMr6
namespace Go.AL
open Go.Proofs
set_option linter.unusedVariables false
set_option linter.unusedSimpArgs false
def cn (N : Nat) (p : Nat → Bool) : Int := (((List.range N).countP p : Nat) : Int)
theorem countP_or_disj {α : Type} (p q : α → Bool) : ∀ l : List α, (∀ u ∈ l, p u = true → q u = true → False) → l.countP (fun u => p u || q u) = l.countP p + l.countP q
  | [], _ => rfl
  | x :: l, h => by
    have ih := countP_or_disj p q l (fun u hu => h u (List.mem_cons_of_mem _ hu))
    simp only [List.countP_cons, ih]
    have hx := h x List.mem_cons_self
    cases hp : p x <;> cases hq : q x
    · simp
    · simp; omega
    · simp; omega
    · exact (hx hp hq).elim
theorem cn_or {N : Nat} {p q : Nat → Bool} (h : ∀ u, p u = true → q u = true → False) : cn N (fun u => p u || q u) = cn N p + cn N q := by
  unfold cn; rw [countP_or_disj p q _ (fun u _ => h u)]; simp
theorem cn_mono {N : Nat} {p q : Nat → Bool} (h : ∀ u, p u = true → q u = true) : cn N p ≤ cn N q := by
  unfold cn
  have := List.countP_mono_left (l := List.range N) (p := p) (q := q) (fun u _ hu => h u hu)
  omega
theorem cn_congr {N : Nat} {p q : Nat → Bool} (h : ∀ u, p u = q u) : cn N p = cn N q := by rw [funext h]
theorem cn_sub {N : Nat} {p q : Nat → Bool} : cn N (fun u => p u || q u) ≤ cn N p + cn N q := by
  have h1 : cn N (fun u => p u || q u) = cn N (fun u => p u || (q u && !p u)) := cn_congr fun u => by cases p u <;> cases q u <;> rfl
  rw [h1, cn_or (fun u a b => by rw [a] at b; simp at b)]
  have := cn_mono (N := N) (p := fun u => q u && !p u) (q := q) (fun u h => (Bool.and_eq_true_iff.1 h).1)
  omega
theorem cn_false {N : Nat} : cn N (fun _ => false) = 0 := by unfold cn; simp
def inI (a b : Int) (u : Nat) : Bool := decide (a ≤ (u : Int)) && decide ((u : Int) < b)
theorem cn_int {a b : Int} (ha : 0 ≤ a) (hab : a ≤ b) : ∀ N : Nat, cn N (inI a b) = (if (N : Int) ≤ a then 0 else if (N : Int) ≤ b then N - a else b - a)
  | 0 => by rw [if_pos (by omega)]; rfl
  | N + 1 => by
    have ih := cn_int ha hab N
    unfold cn at ih ⊢
    rw [List.range_succ, List.countP_append, Int.natCast_add, ih]
    simp only [List.countP_cons, List.countP_nil, inI]
    by_cases h1 : a ≤ (N : Int)
    · by_cases h2 : (N : Int) < b
      · simp only [h1, h2, decide_true, Bool.and_self, if_true]; split <;> split <;> (try split) <;> omega
      · simp only [h1, h2, decide_true, decide_false, Bool.and_false]; simp only [Bool.false_eq_true, if_false]; split <;> split <;> (try split) <;> omega
    · simp only [h1, decide_false, Bool.false_and]; simp only [Bool.false_eq_true, if_false]; split <;> split <;> (try split) <;> omega
/-- An address lies in a valid range. -/
def inR (r : Rg) (u : Nat) : Bool := valid r && inI r.1 (r.1 + p2 r.2) u
def inL (l : List Rg) (u : Nat) : Bool := l.any (fun r => inR r u)
theorem inR_iff {r : Rg} {u : Nat} : inR r u = true ↔ valid r = true ∧ r.1 ≤ (u : Int) ∧ (u : Int) < r.1 + p2 r.2 := by
  simp [inR, inI]
theorem inL_iff {l : List Rg} {u : Nat} : inL l u = true ↔ ∃ r ∈ l, inR r u = true := by simp [inL]
theorem inL_cons (r : Rg) (l : List Rg) (u : Nat) : inL (r :: l) u = (inR r u || inL l u) := rfl
theorem cn_rg {N : Nat} (hN : (N : Int) = 1099511627776) {r : Rg} (h : valid r = true) : cn N (inR r) = p2 r.2 := by
  obtain ⟨h1, h2, h3, h4, h5⟩ := valid_elim h
  have hp := p2_pos r.2
  have e : cn N (inR r) = cn N (inI r.1 (r.1 + p2 r.2)) := cn_congr fun u => by simp [inR, h]
  rw [e, cn_int h3 (by omega) N]
  split
  · omega
  · split <;> omega
theorem in_cont {a b : Rg} (h : contains (a, b) = true) {u : Nat} (hu : inR b u = true) : inR a u = true := by
  obtain ⟨h1, h2, h3, h4⟩ := cont_elim h
  obtain ⟨_, k1, k2⟩ := inR_iff.1 hu
  exact inR_iff.2 ⟨h1, by omega, by omega⟩
theorem in_over {a b : Rg} {u : Nat} (ha : inR a u = true) (hb : inR b u = true) : overlaps (a, b) = true := by
  obtain ⟨h1, h2, h3⟩ := inR_iff.1 ha
  obtain ⟨k1, k2, k3⟩ := inR_iff.1 hb
  exact over_intro h1 k1 (by omega) (by omega)
/-! ### Over the sorted list -/
def ltR (x y : Rg) : Bool := decide (x.1 < y.1) || (decide (x.1 = y.1) && decide (y.2 < x.2))
def srtR (l : List Rg) : List Rg := l.mergeSort (fun x y => !ltR y x)
theorem ltR_not {x y : Rg} : (!ltR y x) = true ↔ x.1 < y.1 ∨ (x.1 = y.1 ∧ y.2 ≤ x.2) := by
  simp only [ltR, Bool.not_eq_true', Bool.or_eq_false_iff, Bool.and_eq_false_iff, decide_eq_false_iff_not]; omega
theorem srt_perm (l : List Rg) : (srtR l).Perm l := List.mergeSort_perm _ _
theorem srt_pw (l : List Rg) : (srtR l).Pairwise (fun x y => x.1 < y.1 ∨ (x.1 = y.1 ∧ y.2 ≤ x.2)) := by
  have := List.pairwise_mergeSort (le := fun x y : Rg => !ltR y x) (fun a b c h1 h2 => by rw [ltR_not] at *; omega) (fun a b => by
    simp only [Bool.or_eq_true, ltR_not]; omega) l
  exact this.imp fun h => ltR_not.1 h
def covL : List Rg → Int → Int → Int
  | [], s, _ => s
  | r :: t, s, e => bif decide (r.1 ≥ e) then covL t (s + p2 r.2) (rend r) else covL t s e
def covS (l : List Rg) : Int := covL (srtR (l.filter valid)) 0 0
theorem covL_cn {N : Nat} (hN : (N : Int) = 1099511627776) : ∀ (rest : List Rg) (s e : Int) (U : Nat → Bool), (∀ r ∈ rest, valid r = true) → rest.Pairwise (fun x y => x.1 < y.1 ∨ (x.1 = y.1 ∧ y.2 ≤ x.2)) →
    (∀ u, U u = true → (u : Int) < e) → (e = 0 ∨ ∃ m, valid m = true ∧ e = m.1 + p2 m.2 ∧ (∀ u, inR m u = true → U u = true) ∧ ∀ r ∈ rest, m.1 < r.1 ∨ (m.1 = r.1 ∧ r.2 ≤ m.2)) →
    covL rest s e = s + (cn N (fun u => U u || inL rest u) - cn N U)
  | [], s, e, U, hv, hp, hU, hm => by
    simp only [covL]
    have : cn N (fun u => U u || inL [] u) = cn N U := cn_congr fun u => by simp [inL]
    rw [this]; omega
  | r :: t, s, e, U, hv, hp, hU, hm => by
    have hr := hv r List.mem_cons_self
    obtain ⟨v1, v2, v3, v4, v5⟩ := valid_elim hr
    rw [List.pairwise_cons] at hp
    simp only [covL]
    by_cases hc : r.1 ≥ e
    · rw [decide_eq_true hc, cond_true]
      have he : rend r = r.1 + p2 r.2 := by simp [rend, hr]
      have hd : ∀ u, U u = true → inR r u = true → False := fun u h1 h2 => by
        have := hU u h1; have := (inR_iff.1 h2).2; omega
      have ih := covL_cn hN t (s + p2 r.2) (rend r) (fun u => U u || inR r u) (fun x hx => hv x (List.mem_cons_of_mem _ hx)) hp.2
        (fun u h => by
          have := p2_pos r.2
          rcases Bool.or_eq_true_iff.1 h with h | h
          · have := hU u h; omega
          · have := (inR_iff.1 h).2; omega)
        (.inr ⟨r, hr, he, fun u h => by simp [h], fun x hx => hp.1 x hx⟩)
      rw [ih, cn_or hd, cn_rg hN hr]
      have : cn N (fun u => (U u || inR r u) || inL t u) = cn N (fun u => U u || inL (r :: t) u) := cn_congr fun u => by rw [inL_cons, Bool.or_assoc]
      rw [this]; omega
    · rw [decide_eq_false hc, cond_false]
      rcases hm with h0 | ⟨m, hm1, hm2, hm3, hm4⟩
      · omega
      · have hmr := hm4 r List.mem_cons_self
        have hpr := p2_pos r.2
        have ho : overlaps (m, r) = true := over_intro hm1 hr (by omega) (by omega)
        rw [over_cont hm1 hr, Bool.or_eq_true] at ho
        have hin : contains (m, r) = true := by
          rcases ho with h | h
          · exact h
          · have k1 := cont_elim h
            have k2 := cont_bits h
            have : r = m := Prod.ext (by omega) (by omega)
            rw [this]; exact cont_refl hm1
        have ih := covL_cn hN t s e U (fun x hx => hv x (List.mem_cons_of_mem _ hx)) hp.2 hU (.inr ⟨m, hm1, hm2, hm3, fun x hx => hm4 x (List.mem_cons_of_mem _ hx)⟩)
        rw [ih]
        have : cn N (fun u => U u || inL t u) = cn N (fun u => U u || inL (r :: t) u) := cn_congr fun u => by
          rw [inL_cons]
          cases h : inR r u with
          | false => rfl
          | true => rw [hm3 u (in_cont hin h)]; rfl
        rw [this]
theorem inL_perm {a b : List Rg} (h : ∀ r, r ∈ a ↔ r ∈ b) (u : Nat) : inL a u = inL b u := by
  rw [Bool.eq_iff_iff, inL_iff, inL_iff]; simp only [h]
theorem inL_filter (l : List Rg) (u : Nat) : inL (l.filter valid) u = inL l u := by
  rw [Bool.eq_iff_iff, inL_iff, inL_iff]
  constructor
  · rintro ⟨r, h1, h2⟩; exact ⟨r, (List.mem_filter.1 h1).1, h2⟩
  · rintro ⟨r, h1, h2⟩; exact ⟨r, List.mem_filter.2 ⟨h1, (inR_iff.1 h2).1⟩, h2⟩
theorem covS_cn {N : Nat} (hN : (N : Int) = 1099511627776) (l : List Rg) : covS l = cn N (inL l) := by
  unfold covS
  rw [covL_cn hN _ 0 0 (fun _ => false) (fun r hr => (List.mem_filter.1 ((srt_perm _).mem_iff.1 hr)).2) (srt_pw _) (fun u h => by cases h) (.inl rfl), cn_false]
  have : cn N (fun u => false || inL (srtR (l.filter valid)) u) = cn N (inL l) := cn_congr fun u => by
    rw [Bool.false_or, inL_perm (fun r => (srt_perm _).mem_iff) u, inL_filter]
  rw [this]; omega
/-! ### The reference's count -/
def cntd (pre : List Rg) (x : Rg) (rest : List Rg) : Bool := valid x && !(pre.any (fun y => contains (y, x)) || rest.any (fun y => contains (y, x) && decide (y.2 > x.2)))
def cntL : List Rg → List Rg → List Rg
  | _, [] => []
  | pre, x :: rest => bif cntd pre x rest then x :: cntL (pre ++ [x]) rest else cntL (pre ++ [x]) rest
theorem rcovG_cnt : ∀ (rest pre : List Rg), rcovG pre rest = sumF (cntL pre rest)
  | [], pre => rfl
  | x :: rest, pre => by
    have ih := rcovG_cnt rest (pre ++ [x])
    simp only [rcovG, cntL, ih]
    show (bif cntd pre x rest then p2 x.2 else 0) + _ = _
    cases cntd pre x rest <;> simp [sumF]
theorem cntL_mem : ∀ (rest pre : List Rg) (x : Rg), x ∈ cntL pre rest → ∃ p r, pre ++ rest = p ++ x :: r ∧ cntd p x r = true ∧ pre.length ≤ p.length
  | [], pre, x, h => by simp [cntL] at h
  | y :: rest, pre, x, h => by
    simp only [cntL] at h
    have key : x ∈ cntL (pre ++ [y]) rest → ∃ p r, pre ++ y :: rest = p ++ x :: r ∧ cntd p x r = true ∧ pre.length ≤ p.length := fun h => by
      obtain ⟨p, r, h1, h2, h3⟩ := cntL_mem rest (pre ++ [y]) x h
      exact ⟨p, r, by simpa using h1, h2, by simp at h3; omega⟩
    cases hc : cntd pre y rest with
    | false => rw [hc] at h; exact key h
    | true =>
      rw [hc, cond_true] at h
      rcases List.mem_cons.1 h with rfl | h
      · exact ⟨pre, rest, rfl, hc, Nat.le_refl _⟩
      · exact key h
theorem cntd_elim {p : List Rg} {x : Rg} {r : List Rg} (h : cntd p x r = true) : valid x = true ∧ (∀ y ∈ p, contains (y, x) = false) ∧ ∀ y ∈ r, contains (y, x) = true → y.2 ≤ x.2 := by
  simp only [cntd, Bool.and_eq_true, Bool.not_eq_true', Bool.or_eq_false_iff, List.any_eq_false] at h
  refine ⟨h.1, fun y hy => by simpa using h.2.1 y hy, fun y hy hc => ?_⟩
  have := h.2.2 y hy
  cases hd : decide (y.2 > x.2) with
  | false => exact Int.not_lt.1 (of_decide_eq_false hd)
  | true => rw [hc, hd] at this; exact absurd ⟨rfl, rfl⟩ this
theorem cntL_pw : ∀ (rest pre : List Rg), (cntL pre rest).Pairwise (fun x y => overlaps (x, y) = false)
  | [], pre => by simp [cntL]
  | x :: rest, pre => by
    simp only [cntL]
    have ih := cntL_pw rest (pre ++ [x])
    cases hc : cntd pre x rest with
    | false => exact ih
    | true =>
      rw [cond_true, List.pairwise_cons]
      refine ⟨fun y hy => ?_, ih⟩
      obtain ⟨hx1, hx2, hx3⟩ := cntd_elim hc
      obtain ⟨p, r, h1, h2, h3⟩ := cntL_mem rest (pre ++ [x]) y hy
      obtain ⟨hy1, hy2, hy3⟩ := cntd_elim h2
      have hxp : x ∈ p := by
        have e : (p ++ y :: r)[pre.length]? = some x := by rw [← h1]; simp
        have hl : pre.length < p.length := by simp at h3; omega
        rw [List.getElem?_append_left hl] at e
        exact List.mem_of_getElem? e
      have hyr : y ∈ rest := by
        have e : (pre ++ [x] ++ rest)[p.length]? = some y := by rw [h1]; simp
        rw [List.getElem?_append_right h3] at e
        exact List.mem_of_getElem? e
      cases ho : overlaps (x, y) with
      | false => rfl
      | true =>
        rw [over_cont hx1 hy1, hy2 x hxp, Bool.false_or] at ho
        have h4 := hx3 y hyr ho
        have h5 := cont_bits ho
        obtain ⟨_, _, h6, h7⟩ := cont_elim ho
        have : y.2 = x.2 := by omega
        rw [this] at h7
        have e : y = x := Prod.ext (by omega) this
        rw [e] at hy2
        have := hy2 x hxp
        rw [cont_refl hx1] at this; cases this
theorem sumF_cn {N : Nat} (hN : (N : Int) = 1099511627776) : ∀ l : List Rg, (∀ x ∈ l, valid x = true) → l.Pairwise (fun x y => overlaps (x, y) = false) → sumF l = cn N (inL l)
  | [], _, _ => by
    have : cn N (inL []) = cn N (fun _ => false) := cn_congr fun u => rfl
    rw [this, cn_false]; rfl
  | x :: l, hv, hp => by
    rw [List.pairwise_cons] at hp
    have ih := sumF_cn hN l (fun y hy => hv y (List.mem_cons_of_mem _ hy)) hp.2
    have : cn N (inL (x :: l)) = cn N (fun u => inR x u || inL l u) := cn_congr fun u => inL_cons x l u
    rw [this, cn_or (fun u h1 h2 => by
      obtain ⟨y, hy, h3⟩ := inL_iff.1 h2
      have := hp.1 y hy
      rw [in_over h1 h3] at this; cases this), cn_rg hN (hv x List.mem_cons_self)]
    simp only [sumF, ih]
theorem cntL_in : ∀ (rest pre p : List Rg) (x : Rg) (r : List Rg), pre ++ rest = p ++ x :: r → pre.length ≤ p.length → cntd p x r = true → x ∈ cntL pre rest
  | [], pre, p, x, r, h, hl, hc => by
    have := congrArg List.length h
    simp at this; omega
  | y :: rest, pre, p, x, r, h, hl, hc => by
    simp only [cntL]
    by_cases he : pre.length = p.length
    · obtain ⟨h1, h2⟩ := List.append_inj h he
      subst h1
      simp only [List.cons.injEq] at h2
      obtain ⟨rfl, rfl⟩ := h2
      rw [hc]; exact List.mem_cons_self
    · have := cntL_in rest (pre ++ [y]) p x r (by simpa using h) (by simp; omega) hc
      cases cntd pre y rest
      · exact this
      · exact List.mem_cons_of_mem _ this
/-- Every valid range lies in one that is counted. -/
theorem cnt_above (l : List Rg) : ∀ (n : Nat) (p : List Rg) (x : Rg) (r : List Rg), l = p ++ x :: r → valid x = true → (40 - x.2).toNat * (l.length + 1) + p.length < n → ∃ y ∈ cntL [] l, contains (y, x) = true
  | 0, p, x, r, hl, hv, hn => by omega
  | n + 1, p, x, r, hl, hv, hn => by
    have hlen : l.length = p.length + r.length + 1 := by rw [hl]; simp; omega
    cases hc : cntd p x r with
    | true => exact ⟨x, cntL_in l [] p x r hl (Nat.zero_le _) hc, cont_refl hv⟩
    | false =>
      simp only [cntd, hv, Bool.true_and, Bool.not_eq_false', Bool.or_eq_true, List.any_eq_true, Bool.and_eq_true, decide_eq_true_eq] at hc
      rcases hc with ⟨y, hy, hyx⟩ | ⟨y, hy, hyx, hb⟩
      · obtain ⟨p1, p2, rfl⟩ := List.append_of_mem hy
        have hvy := (cont_elim hyx).1
        have hb := cont_bits hyx
        have : (40 - y.2).toNat ≤ (40 - x.2).toNat := by omega
        have := Nat.mul_le_mul_right (l.length + 1) this
        obtain ⟨z, hz, hzy⟩ := cnt_above l n p1 y (p2 ++ x :: r) (by rw [hl]; simp) hvy (by simp at hn; omega)
        exact ⟨z, hz, cont_trans hzy hyx⟩
      · obtain ⟨r1, r2, rfl⟩ := List.append_of_mem hy
        have hvy := (cont_elim hyx).1
        obtain ⟨_, h40, _⟩ := valid_elim hvy
        have : (40 - y.2).toNat + 1 ≤ (40 - x.2).toNat := by omega
        have := Nat.mul_le_mul_right (l.length + 1) this
        rw [Nat.add_mul, Nat.one_mul] at this
        obtain ⟨z, hz, hzy⟩ := cnt_above l n (p ++ x :: r1) y r2 (by rw [hl]; simp) hvy (by simp at hlen ⊢; omega)
        exact ⟨z, hz, cont_trans hzy hyx⟩
theorem rcovS_cn {N : Nat} (hN : (N : Int) = 1099511627776) (l : List Rg) : rcovS l = cn N (inL l) := by
  have hm : ∀ x ∈ cntL [] l, x ∈ l ∧ valid x = true := fun x hx => by
    obtain ⟨p, r, h1, h2, _⟩ := cntL_mem l [] x hx
    rw [List.nil_append] at h1
    exact ⟨by rw [h1]; simp, (cntd_elim h2).1⟩
  unfold rcovS
  rw [rcovG_cnt, sumF_cn hN _ (fun x hx => (hm x hx).2) (cntL_pw l [])]
  refine cn_congr fun u => ?_
  rw [Bool.eq_iff_iff, inL_iff, inL_iff]
  constructor
  · rintro ⟨x, hx, hu⟩; exact ⟨x, (hm x hx).1, hu⟩
  · rintro ⟨x, hx, hu⟩
    obtain ⟨p, r, rfl⟩ := List.append_of_mem hx
    obtain ⟨y, hy, hyx⟩ := cnt_above _ _ p x r rfl (inR_iff.1 hu).1 (Nat.lt_succ_self _)
    exact ⟨y, hy, in_cont hyx hu⟩
theorem cov_eq (l : List Rg) : covS l = rcovS l := by
  rw [covS_cn (N := 1099511627776) (by rfl), rcovS_cn (N := 1099511627776) (by rfl)]
/-! ### What the laws say -/
theorem covS_mem {a b : List Rg} (h : ∀ r, r ∈ a ↔ r ∈ b) : covS a = covS b := by
  rw [covS_cn (N := 1099511627776) (by rfl), covS_cn (N := 1099511627776) (by rfl)]
  exact cn_congr (inL_perm h)
theorem covS_app (a : List Rg) {x : Rg} (hx : valid x = true) : covS a ≤ covS (a ++ [x]) ∧ covS (a ++ [x]) ≤ covS a + p2 x.2 ∧ p2 x.2 ≤ covS (a ++ [x]) := by
  rw [covS_cn (N := 1099511627776) (by rfl), covS_cn (N := 1099511627776) (by rfl), ← cn_rg (N := 1099511627776) (by rfl) hx]
  have e : cn 1099511627776 (inL (a ++ [x])) = cn 1099511627776 (fun u => inL a u || inR x u) := cn_congr fun u => by simp [inL]
  rw [e]
  exact ⟨cn_mono fun u h => by simp [h], cn_sub, cn_mono fun u h => by simp [h]⟩
theorem covS_halves {r : Rg} (hr : valid r = true) (h7 : 7 ≤ r.2) : covS [lowH r, highH r, r] = p2 r.2 := by
  rw [covS_cn (N := 1099511627776) (by rfl), ← cn_rg (N := 1099511627776) (by rfl) hr]
  refine cn_congr fun u => ?_
  rw [Bool.eq_iff_iff, inL_iff]
  constructor
  · rintro ⟨x, hx, hu⟩
    simp at hx
    rcases hx with rfl | rfl | rfl
    · exact in_cont (low_in hr h7) hu
    · exact in_cont (high_in hr h7) hu
    · exact hu
  · intro h; exact ⟨r, by simp, h⟩
/-- Each address of a range lies in a used one or in a free one. -/
theorem free_pt : ∀ r, valid r = true → ∀ (used : List Rg) (u : Nat), inR r u = true → inL used u = true ∨ inL (free (r, used)) u = true := by
  refine rg_induct ?_ ?_
  · intro r hr h6 used u hu
    cases hn : (used.filter (fun u => overlaps (u, r))).isEmpty with
    | true => right; rw [free_none hr hn]; simpa [inL] using hu
    | false =>
      left
      obtain ⟨x, hx, ho⟩ := near_mem hn
      obtain ⟨hxv, _, _⟩ := over_elim ho
      have : r.2 ≤ x.2 := by have := (valid_elim hxv).1; omega
      have hc := over_le hr hxv this
      rw [over_symm, ho] at hc
      exact inL_iff.2 ⟨x, hx, in_cont hc.symm hu⟩
  · intro r hr h7 il ih used u hu
    cases hn : (used.filter (fun u => overlaps (u, r))).isEmpty with
    | true => right; rw [free_none hr hn]; simpa [inL] using hu
    | false =>
      rw [free_halves hr h7 hn]
      obtain ⟨_, h1, h2⟩ := inR_iff.1 hu
      have e := p2_pred (k := r.2) (by omega)
      have app : ∀ a b : List Rg, inL (a ++ b) u = (inL a u || inL b u) := fun a b => by simp [inL]
      rw [app]
      by_cases hlt : (u : Int) < r.1 + p2 (r.2 - 1)
      · rcases il used u (inR_iff.2 ⟨low_valid hr h7, by simpa [lowH] using h1, by simpa [lowH] using hlt⟩) with h | h
        · exact .inl h
        · right; rw [h]; rfl
      · rcases ih used u (inR_iff.2 ⟨high_valid hr h7, by simp only [highH]; omega, by simp only [highH]; omega⟩) with h | h
        · exact .inl h
        · right; rw [h]; simp
theorem free_apart : ∀ r, valid r = true → ∀ (used : List Rg) (f : Rg), f ∈ free (r, used) → ∀ x ∈ used, overlaps (f, x) = false := by
  refine rg_induct ?_ ?_
  · intro r hr h6 used f hf x hx
    cases hn : (used.filter (fun u => overlaps (u, r))).isEmpty with
    | true =>
      rw [free_none hr hn] at hf
      rw [List.mem_singleton.1 hf, over_symm]
      cases ho : overlaps (x, r) with
      | false => rfl
      | true => rw [near_ne hx ho] at hn; cases hn
    | false => rw [free_six hr h6 hn] at hf; cases hf
  · intro r hr h7 il ih used f hf x hx
    cases hn : (used.filter (fun u => overlaps (u, r))).isEmpty with
    | true =>
      rw [free_none hr hn] at hf
      rw [List.mem_singleton.1 hf, over_symm]
      cases ho : overlaps (x, r) with
      | false => rfl
      | true => rw [near_ne hx ho] at hn; cases hn
    | false =>
      rw [free_halves hr h7 hn] at hf
      rcases List.mem_append.1 hf with h | h
      · exact il used f h x hx
      · exact ih used f h x hx
theorem partition {r : Rg} (hr : valid r = true) (used : List Rg) (hw : used.any (fun x => contains (x, r)) = false) :
    sumF (free (r, used)) + covS (used.filter (fun x => contains (r, x))) = p2 r.2 := by
  have hfv : ∀ x ∈ free (r, used), contains (r, x) = true := fun x hx => free_in r hr used x hx
  have hpw : (free (r, used)).Pairwise (fun x y => overlaps (x, y) = false) := by
    refine List.Pairwise.imp_of_mem ?_ (free_asc r hr used)
    intro a b ha hb hab
    cases ho : overlaps (a, b) with
    | false => rfl
    | true =>
      obtain ⟨_, _, _, h⟩ := over_elim ho
      unfold Asc at hab; omega
  rw [sumF_cn (N := 1099511627776) (by rfl) _ (fun x hx => (cont_elim (hfv x hx)).2.1) hpw, covS_cn (N := 1099511627776) (by rfl), ← cn_or (fun u h1 h2 => by
    obtain ⟨f, hf, hfu⟩ := inL_iff.1 h1
    obtain ⟨x, hx, hxu⟩ := inL_iff.1 h2
    have := free_apart r hr used f hf x (List.mem_filter.1 hx).1
    rw [in_over hfu hxu] at this; cases this), ← cn_rg (N := 1099511627776) (by rfl) hr]
  refine cn_congr fun u => ?_
  rw [Bool.eq_iff_iff, Bool.or_eq_true, inL_iff, inL_iff]
  constructor
  · rintro (⟨x, hx, hu⟩ | ⟨x, hx, hu⟩)
    · exact in_cont (hfv x hx) hu
    · exact in_cont (List.mem_filter.1 hx).2 hu
  · intro hu
    rcases free_pt r hr used u hu with h | h
    · right
      obtain ⟨x, hx, hxu⟩ := inL_iff.1 h
      refine ⟨x, List.mem_filter.2 ⟨hx, ?_⟩, hxu⟩
      have ho := in_over hu hxu
      rw [over_cont hr (inR_iff.1 hxu).1, Bool.or_eq_true] at ho
      rcases ho with ho | ho
      · exact ho
      · have := List.any_eq_false.1 hw x hx
        rw [ho] at this; exact absurd rfl this
    · exact .inl (inL_iff.1 h)
end Go.AL
