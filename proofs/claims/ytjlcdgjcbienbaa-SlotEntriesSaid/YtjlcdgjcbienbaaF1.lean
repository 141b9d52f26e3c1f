/-
  Plain laws of valid forests: what a step that grows one keeps. No program in sight but for the models' names. By an AI agent.
-/
import Derived.Test.YtjlcdgjcbienbaaR0
namespace Go.AL
set_option linter.unusedVariables false
set_option linter.unusedSimpArgs false
/-! ### The order of Ids -/
theorem lessI_iff (a b : SId) : lessI (a, b) = true ↔ a.1 < b.1 ∨ (a.1 = b.1 ∧ (a.2.1 < b.2.1 ∨ (a.2.1 = b.2.1 ∧ a.2.2 < b.2.2))) := by
  simp only [lessI]
  by_cases h1 : a.1 = b.1
  · by_cases h2 : a.2.1 = b.2.1
    · simp [h1, h2]
    · simp [h1, h2]
  · simp [h1]
theorem less_irrefl (a : SId) : lessI (a, a) = false := by
  cases h : lessI (a, a) with
  | false => rfl
  | true => rw [lessI_iff] at h; simp only at h; omega
theorem less_trans {a b c : SId} (h1 : lessI (a, b) = true) (h2 : lessI (b, c) = true) : lessI (a, c) = true := by
  rw [lessI_iff] at *; omega
theorem less_total {a b : SId} (h : lessI (a, b) = false) (hne : a ≠ b) : lessI (b, a) = true := by
  have h1 : ¬ (lessI (a, b) = true) := by rw [h]; simp
  rw [lessI_iff] at h1 ⊢
  have h2 : ¬ (a.1 = b.1 ∧ a.2.1 = b.2.1 ∧ a.2.2 = b.2.2) := fun h => hne (Prod.ext h.1 (Prod.ext h.2.1 h.2.2))
  omega
/-! ### Searching -/
theorem findI_none {α : Type} {p : α → Bool} : ∀ {l : List α} {k : Int}, 0 ≤ k → ((∀ x ∈ l, p x = false) ↔ findI p l k = -1)
  | [], k, h => by simp [findI]
  | u :: r, k, h => by
    have ih := findI_none (p := p) (l := r) (k := k + 1) (by omega)
    simp only [findI, List.mem_cons, forall_eq_or_imp]
    cases hp : p u
    · simp only [cond_false]; rw [← ih]; simp
    · simp only [cond_true]; constructor
      · intro h; cases h.1
      · intro h; omega
theorem findI_some {α : Type} {p : α → Bool} : ∀ {l : List α} {k : Int}, 0 ≤ k → 0 ≤ findI p l k → ∃ j x, findI p l k = k + (j : Nat) ∧ l[j]? = some x ∧ p x = true ∧ ∀ i, i < j → ∀ y, l[i]? = some y → p y = false
  | [], k, h, h2 => by simp [findI] at h2
  | u :: r, k, h, h2 => by
    simp only [findI] at h2 ⊢
    cases hp : p u
    · rw [hp] at h2
      simp only [cond_false] at h2 ⊢
      obtain ⟨j, x, e1, e2, e3, e4⟩ := findI_some (p := p) (l := r) (k := k + 1) (by omega) h2
      refine ⟨j + 1, x, by rw [e1]; omega, by simpa using e2, e3, fun i hi y hy => ?_⟩
      cases i with
      | zero => simp at hy; subst hy; exact hp
      | succ i => exact e4 i (by omega) y (by simpa using hy)
    · exact ⟨0, u, by simp, rfl, hp, fun i hi => by omega⟩
theorem findI_ge {α : Type} {p : α → Bool} {l : List α} {k : Int} (hk : 0 ≤ k) : 0 ≤ findI p l k ∨ findI p l k = -1 := by
  by_cases h : ∀ x ∈ l, p x = false
  · exact .inr ((findI_none hk).1 h)
  · have : ¬ findI p l k = -1 := fun e => h ((findI_none hk).2 e)
    left
    induction l generalizing k with
    | nil => simp at h
    | cons u r ih =>
      simp only [findI] at this ⊢
      cases hp : p u
      · rw [hp] at this
        simp only [cond_false] at this ⊢
        exact ih (by omega) (fun h2 => h (fun x hx => by
          rcases List.mem_cons.1 hx with rfl | hx
          · exact hp
          · exact h2 x hx)) this
      · simpa using hk
theorem findI_neg {α : Type} {p : α → Bool} {l : List α} (h : decide (findI p l 0 ≥ 0) = false) : ∀ x ∈ l, p x = false := by
  have h1 := of_decide_eq_false h
  exact (findI_none (by omega)).2 ((findI_ge (p := p) (l := l) (k := 0) (by omega)).resolve_left (by omega))
theorem findE_not {l : List SEn} {id : SId} (h : decide (findE l id ≥ 0) = false) : ∀ e ∈ l, eid e ≠ id := fun e he => by
  have := findI_neg h e he; simpa using this
theorem atE_not {l : List SEn} {c s : Int} (h : decide (atE l c s ≥ 0) = false) : ∀ e ∈ l, ¬ (e.1 = c ∧ e.2.1 = s) := fun e he => by
  have := findI_neg h e he
  intro ⟨h1, h2⟩; rw [decide_eq_true h1, decide_eq_true h2] at this; cases this
/-! ### Valid forests -/
def anc (p e : SEn) : Prop := ∀ k, (epath e)[k]? = some (eid p) → epath p = (epath e).take k ∧ contains (rgE p, rgE e) = true ∧ ((ecap p).1 = 1 ∨ sobB (ecap p, ecap e) = true)
structure Vf (m : Int) (l : List SEn) : Prop where
  node : ∀ e ∈ l, vnodB e.2.2 = true
  cs : ∀ e ∈ l, (0 ≤ e.1 ∧ e.1 < 4) ∧ (0 ≤ e.2.1 ∧ e.2.1 < 64)
  sorted : l.Pairwise (fun a b => lessI (eid a, eid b) = true)
  slots : ∀ a ∈ l, ∀ b ∈ l, a.1 = b.1 → a.2.1 = b.2.1 → a = b
  coex : ∀ a ∈ l, ∀ b ∈ l, coexB (ecap a, ecap b) = true
  anc : ∀ p ∈ l, ∀ e ∈ l, anc p e
  ops : ∀ e ∈ l, (eid e).2.1 ≤ m ∧ ∀ q ∈ epath e, q.2.1 ≤ m
  idc : ∀ e ∈ l, (eid e).1 = e.1
theorem Vf.mono {m n : Int} {l : List SEn} (h : Vf m l) (hmn : m ≤ n) : Vf n l :=
  ⟨h.node, h.cs, h.sorted, h.slots, h.coex, h.anc, fun e he => ⟨Int.le_trans (h.ops e he).1 hmn, fun q hq => Int.le_trans ((h.ops e he).2 q hq) hmn⟩, h.idc⟩
theorem Vf.nil (m : Int) : Vf m [] := ⟨by simp, by simp, .nil, by simp, by simp, by simp, by simp, by simp⟩
theorem Vf.path {m : Int} {l : List SEn} (h : Vf m l) {e : SEn} (he : e ∈ l) : (epath e).length ≤ 8 := vnodB_len (h.node e he)
theorem mem_insL {e x : SEn} : ∀ {l : List SEn}, x ∈ insL e l ↔ x = e ∨ x ∈ l
  | [] => by simp [insL]
  | u :: r => by
    simp only [insL]
    cases lessI (eid e, eid u)
    · simp only [cond_false, List.mem_cons, mem_insL (l := r)]
      constructor
      · rintro (h | h | h)
        · exact .inr (.inl h)
        · exact .inl h
        · exact .inr (.inr h)
      · rintro (h | h | h)
        · exact .inr (.inl h)
        · exact .inl h
        · exact .inr (.inr h)
    · simp
theorem len_insL (e : SEn) : ∀ l : List SEn, (insL e l).length = l.length + 1
  | [] => rfl
  | u :: r => by simp only [insL]; cases lessI (eid e, eid u) <;> simp [len_insL e r]
theorem sorted_insL {e : SEn} : ∀ {l : List SEn}, l.Pairwise (fun a b => lessI (eid a, eid b) = true) → (∀ x ∈ l, eid x ≠ eid e) → (insL e l).Pairwise (fun a b => lessI (eid a, eid b) = true)
  | [], _, _ => by simp [insL]
  | u :: r, h, hn => by
    rw [List.pairwise_cons] at h
    simp only [insL]
    cases hl : lessI (eid e, eid u)
    · simp only [cond_false, List.pairwise_cons]
      refine ⟨fun x hx => ?_, sorted_insL h.2 (fun x hx => hn x (List.mem_cons_of_mem _ hx))⟩
      rcases mem_insL.1 hx with rfl | hx
      · exact less_total hl (fun e => hn u (List.mem_cons_self ..) e.symm)
      · exact h.1 x hx
    · simp only [cond_true, List.pairwise_cons]
      refine ⟨fun x hx => ?_, h⟩
      rcases List.mem_cons.1 hx with rfl | hx
      · exact hl
      · exact less_trans hl (h.1 x hx)
/-! ### Capabilities -/
theorem sobB_iff (a b : SCp) : sobB (a, b) = true ↔ a.1 = b.1 ∧ a.2.1 = b.2.1 ∧ a.2.2.1 = b.2.2.1 ∧ a.2.2.2.2.1 = b.2.2.2.2.1 ∧ a.2.2.2.2.2.1 = b.2.2.2.2.2.1 ∧ a.2.2.2.2.2.2 = b.2.2.2.2.2.2 := by
  simp [sobB]
theorem sob_refl (a : SCp) : sobB (a, a) = true := (sobB_iff a a).2 ⟨rfl, rfl, rfl, rfl, rfl, rfl⟩
theorem sob_symm {a b : SCp} (h : sobB (a, b) = true) : sobB (b, a) = true := by
  rw [sobB_iff] at *; exact ⟨h.1.symm, h.2.1.symm, h.2.2.1.symm, h.2.2.2.1.symm, h.2.2.2.2.1.symm, h.2.2.2.2.2.symm⟩
theorem sob_trans {a b c : SCp} (h : sobB (a, b) = true) (h' : sobB (b, c) = true) : sobB (a, c) = true := by
  rw [sobB_iff] at *; exact ⟨h.1.trans h'.1, h.2.1.trans h'.2.1, h.2.2.1.trans h'.2.2.1, h.2.2.2.1.trans h'.2.2.2.1, h.2.2.2.2.1.trans h'.2.2.2.2.1, h.2.2.2.2.2.trans h'.2.2.2.2.2⟩
theorem sob_rg {a b : SCp} (h : sobB (a, b) = true) : rgC a = rgC b ∧ a.1 = b.1 := by
  rw [sobB_iff] at h; exact ⟨Prod.ext h.2.1 h.2.2.1, h.1⟩
theorem coexB_iff (a b : SCp) : coexB (a, b) = true ↔ overlaps (rgC a, rgC b) = false ∨ sobB (a, b) = true ∨ (a.1 = 1 ∧ contains (rgC a, rgC b) = true) ∨ (b.1 = 1 ∧ contains (rgC b, rgC a) = true) := by
  show (!overlaps (rgC a, rgC b) || (sobB (a, b) || ((decide (a.1 = 1) && contains (rgC a, rgC b)) || (decide (b.1 = 1) && contains (rgC b, rgC a))))) = true ↔ _
  simp
theorem coex_symm {a b : SCp} (h : coexB (a, b) = true) : coexB (b, a) = true := by
  rw [coexB_iff] at *
  rcases h with h | h | h | h
  · exact .inl (by rw [over_symm]; exact h)
  · exact .inr (.inl (sob_symm h))
  · exact .inr (.inr (.inr h))
  · exact .inr (.inr (.inl h))
theorem coex_sob {a b c : SCp} (h : coexB (a, b) = true) (hs : sobB (b, c) = true) : coexB (a, c) = true := by
  obtain ⟨h1, h2⟩ := sob_rg hs
  rw [coexB_iff] at *
  rw [← h1, ← h2]
  rcases h with h | h | h | h
  · exact .inl h
  · exact .inr (.inl (sob_trans h hs))
  · exact .inr (.inr (.inl h))
  · exact .inr (.inr (.inr h))
theorem coex_refl (a : SCp) : coexB (a, a) = true := (coexB_iff a a).2 (.inr (.inl (sob_refl a)))
theorem vcapB_valid {c : SCp} (h : vcapB c = true) : valid (rgC c) = true := (vcapB_bits h).2.2
theorem vnodB_iff (n : SNd) : vnodB n = true ↔ vidB (nid n) = true ∧ vcapB (ncap n) = true ∧ (npath n).length ≤ 8 ∧ (∀ q ∈ npath n, vidB q = true) ∧ (npath n).Nodup ∧ nid n ∉ npath n := by
  simp only [vnodB, Bool.and_eq_true, decide_eq_true_eq, List.all_eq_true, Bool.not_eq_true', memD_not]
  rw [uniqB_iff _ _ List.nodup_nil, List.nil_append]
/-! ### A new entry -/
theorem Vf.ins {m m' : Int} {l : List SEn} (h : Vf m l) {e : SEn} (hm : m ≤ m') (hn : vnodB e.2.2 = true) (hc : (0 ≤ e.1 ∧ e.1 < 4) ∧ (0 ≤ e.2.1 ∧ e.2.1 < 64)) (hid : ∀ x ∈ l, eid x ≠ eid e) (hsl : ∀ x ∈ l, ¬ (x.1 = e.1 ∧ x.2.1 = e.2.1))
    (hco : ∀ x ∈ l, coexB (ecap x, ecap e) = true) (ha : ∀ p ∈ l, Go.AL.anc p e) (hnp : ∀ x ∈ l, eid e ∉ epath x) (ho : (eid e).2.1 ≤ m' ∧ ∀ q ∈ epath e, q.2.1 ≤ m') (hic : (eid e).1 = e.1) : Vf m' (insL e l) := by
  have h0 := h.mono hm
  refine ⟨fun x hx => ?_, fun x hx => ?_, sorted_insL h.sorted hid, fun a ha b hb h1 h2 => ?_, fun a ha b hb => ?_, fun p hp x hx => ?_, fun x hx => ?_, fun x hx => ?_⟩
  · rcases mem_insL.1 hx with rfl | hx
    · exact hn
    · exact h.node x hx
  · rcases mem_insL.1 hx with rfl | hx
    · exact hc
    · exact h.cs x hx
  · rcases mem_insL.1 ha with ea | ha2
    · rcases mem_insL.1 hb with eb | hb2
      · rw [ea, eb]
      · subst ea; exact absurd ⟨h1.symm, h2.symm⟩ (hsl b hb2)
    · rcases mem_insL.1 hb with eb | hb2
      · subst eb; exact absurd ⟨h1, h2⟩ (hsl a ha2)
      · exact h.slots a ha2 b hb2 h1 h2
  · rcases mem_insL.1 ha with ea | ha2
    · rcases mem_insL.1 hb with eb | hb2
      · rw [ea, eb]; exact coex_refl _
      · subst ea; exact coex_symm (hco b hb2)
    · rcases mem_insL.1 hb with eb | hb2
      · subst eb; exact hco a ha2
      · exact h.coex a ha2 b hb2
  · rcases mem_insL.1 hx with ex | hx2
    · rcases mem_insL.1 hp with ep | hp2
      · intro k hk
        rw [ex, ep] at hk
        exact absurd (List.mem_of_getElem? hk) ((vnodB_iff e.2.2).1 hn).2.2.2.2.2
      · rw [ex]; exact ha p hp2
    · rcases mem_insL.1 hp with ep | hp2
      · intro k hk
        rw [ep] at hk
        exact absurd (List.mem_of_getElem? hk) (hnp x hx2)
      · exact h.anc p hp2 x hx2
  · rcases mem_insL.1 hx with rfl | hx
    · exact ho
    · exact h0.ops x hx
  · rcases mem_insL.1 hx with rfl | hx
    · exact hic
    · exact h.idc x hx
/-! ### What Retype makes -/
theorem retCaps_get (src : SCp) (ob bits wid lev off : Int) : ∀ (n k : Nat) (c : SCp), c ∈ retCaps src ob bits wid lev off n k → ∃ j : Nat, k ≤ j ∧ j < k + n ∧ c = (ob, src.2.1 + off + (j : Int) * p2 bits, bits, src.2.2.2.1, wid, lev, src.2.2.2.2.2.2)
  | 0, k, c, h => by simp [retCaps] at h
  | n + 1, k, c, h => by
    simp only [retCaps, List.mem_cons] at h
    rcases h with rfl | h
    · exact ⟨k, by omega, by omega, rfl⟩
    · obtain ⟨j, h1, h2, h3⟩ := retCaps_get src ob bits wid lev off n (k + 1) c h
      exact ⟨j, by omega, by omega, h3⟩
theorem retCaps_len (src : SCp) (ob bits wid lev off : Int) : ∀ (n k : Nat), (retCaps src ob bits wid lev off n k).length = n
  | 0, k => rfl
  | n + 1, k => by simp [retCaps, retCaps_len src ob bits wid lev off n]
theorem retCaps_apart (src : SCp) (ob bits wid lev off : Int) : ∀ (n k : Nat), (retCaps src ob bits wid lev off n k).Pairwise (fun a b => overlaps (rgC a, rgC b) = false)
  | 0, k => .nil
  | n + 1, k => by
    simp only [retCaps, List.pairwise_cons]
    refine ⟨fun c hc => ?_, retCaps_apart src ob bits wid lev off n (k + 1)⟩
    obtain ⟨j, h1, h2, rfl⟩ := retCaps_get src ob bits wid lev off n (k + 1) c hc
    cases ho : overlaps (rgC (ob, src.2.1 + off + (k : Int) * p2 bits, bits, src.2.2.2.1, wid, lev, src.2.2.2.2.2.2), rgC (ob, src.2.1 + off + (j : Int) * p2 bits, bits, src.2.2.2.1, wid, lev, src.2.2.2.2.2.2)) with
    | false => rfl
    | true =>
      have h := (over_elim ho).2.2.2
      simp only [rgC] at h
      have h3 : ((k : Int) + 1) * p2 bits ≤ (j : Int) * p2 bits := Int.mul_le_mul_of_nonneg_right (by omega) (Int.le_of_lt (p2_pos _))
      rw [Int.add_mul] at h3
      omega
structure RetOk (src : SCp) (l : List SCp) : Prop where
  src1 : src.1 = 1
  len : l.length ≤ 8
  caps : ∀ c ∈ l, vcapB c = true ∧ contains (rgC src, rgC c) = true
  apart : l.Pairwise (fun a b => overlaps (rgC a, rgC b) = false)
theorem tmod_mul_add {a s m j : Int} (h : a = m * s) : Int.tmod (a + j * s) s = 0 := by
  rw [h, ← Int.add_mul]; exact Int.mul_tmod_left _ _
theorem tmod_dvd {a s : Int} (h : Int.tmod a s = 0) : ∃ m, a = m * s := ⟨Int.tdiv a s, by have := Int.mul_tdiv_add_tmod a s; rw [h, Int.add_zero, Int.mul_comm] at this; exact this.symm⟩
theorem retS_ok {src : SCp} {ob bits lev wid off cnt : Int} (h : (retS (src, ob, bits, lev, wid, off, cnt)).2 = 0) : RetOk src (retS (src, ob, bits, lev, wid, off, cnt)).1 := by
  simp only [retS] at h ⊢
  cases h1 : (!vcapB src || !decide (src.1 = 1))
  case true => rw [h1] at h; cases h
  cases h2 : and2 src.2.2.2.1
  case true => rw [h1, h2] at h; cases h
  cases h3 : (!sizB (ob, bits) || (decide (ob = 3) && !levB (wid, lev) || (decide (cnt < 1) || (decide (cnt > 8) || decide (off < 0)))))
  case true => rw [h1, h2, h3] at h; cases h
  cases h4 : (src.2.2.2.2.2.2 && (!decide (ob = 1) && !decide (ob = 2)))
  case true => rw [h1, h2, h3, h4] at h; cases h
  cases h5 : (!decide (Int.tmod off (p2 bits) = 0) || (decide (off > p2 src.2.2.1) || (decide (cnt * p2 bits > p2 src.2.2.1 - off) || decide (ob = 1) && decide (bits ≥ src.2.2.1))))
  case true => rw [h1, h2, h3, h4, h5] at h; cases h
  simp only [cond_false]
  simp only [Bool.or_eq_false_iff, Bool.not_eq_false', decide_eq_true_eq, decide_eq_false_iff_not, Bool.and_eq_false_imp] at h1 h3 h4 h5
  obtain ⟨hv, hk⟩ := h1
  obtain ⟨hs, hlev, hc1, hc8, ho⟩ := h3
  obtain ⟨hm, ho2, hsz, _⟩ := h5
  obtain ⟨b1, b2⟩ := sizB_bits hs
  obtain ⟨c1, c2, c3⟩ := vcapB_bits hv
  obtain ⟨_, _, d1, dm, d2⟩ := valid_elim c3
  dsimp only at d1 dm d2
  have q1 := p2_pos bits
  have hvc := hv
  simp only [vcapB, Bool.and_eq_true, decide_eq_true_eq] at hvc
  refine ⟨hk, by rw [retCaps_len]; omega, fun c hc => ?_, retCaps_apart ..⟩
  obtain ⟨j, h1, h2, rfl⟩ := retCaps_get _ _ _ _ _ _ _ _ c hc
  have e1 : ((j : Int) + 1) * p2 bits ≤ cnt * p2 bits := Int.mul_le_mul_of_nonneg_right (by omega) (by omega)
  have e2 : 0 ≤ (j : Int) * p2 bits := Int.mul_nonneg (by omega) (by omega)
  rw [Int.add_mul] at e1
  have hle : p2 bits ≤ p2 src.2.2.1 := by omega
  have hb : bits ≤ src.2.2.1 := p2_inj_le (by omega) hle
  have hva : valid (src.2.1 + off + (j : Int) * p2 bits, bits) = true := by
    refine valid_intro b1 b2 (show 0 ≤ src.2.1 + off + (j : Int) * p2 bits by omega) ?_ (show src.2.1 + off + (j : Int) * p2 bits + p2 bits ≤ 1099511627776 by omega)
    obtain ⟨m1, hm1⟩ := tmod_dvd dm
    obtain ⟨m2, hm2⟩ := tmod_dvd hm
    show Int.tmod (src.2.1 + off + (j : Int) * p2 bits) (p2 bits) = 0
    have e3 : p2 src.2.2.1 = p2 (src.2.2.1 - bits) * p2 bits := by rw [← p2_add (by omega) (by omega)]; congr 1; omega
    refine tmod_mul_add (m := m1 * p2 (src.2.2.1 - bits) + m2) ?_
    rw [hm2, Int.add_mul, Int.mul_assoc, ← e3, ← hm1]
  refine ⟨?_, cont_intro c3 hva (show src.2.1 ≤ src.2.1 + off + (j : Int) * p2 bits by omega) (show src.2.1 + off + (j : Int) * p2 bits + p2 bits ≤ src.2.1 + p2 src.2.2.1 by omega)⟩
  simp only [vcapB, Bool.and_eq_true, decide_eq_true_eq]
  refine ⟨hs, hva, hvc.2.2.1, hvc.2.2.2.1, ?_, ?_⟩
  · by_cases ho3 : ob = 3
    · simp only [decide_eq_true ho3, cond_true]
      have := hlev ho3
      simpa using this
    · simp only [decide_eq_false ho3, cond_false]; rfl
  · cases hd : src.2.2.2.2.2.2
    · rfl
    · rw [hd] at h4
      simp at h4
      by_cases o1 : ob = 1
      · simp [o1]
      · simp [h4 o1]
end Go.AL
