/-
  PLAIN LAWS of a stable sort: insertion, the stable merge, blocks that change places. No program in sight. By an AI agent.
-/
namespace Go.AL
set_option linter.unusedVariables false
set_option linter.unusedSimpArgs false

section
variable {α : Type} {lt : α → α → Bool}

structure OrdB (lt : α → α → Bool) : Prop where
  asymm : ∀ a b, lt a b = true → lt b a = false
  ntrans : ∀ a b c, lt b a = false → lt c b = false → lt c a = false
theorem OrdB.irrefl (O : OrdB lt) (a : α) : lt a a = false := by
  cases h : lt a a
  · rfl
  · have := O.asymm a a h; rw [h] at this; cases this
theorem OrdB.lt_le (O : OrdB lt) {a b c : α} (h1 : lt a b = true) (h2 : lt c b = false) : lt a c = true := by
  cases h : lt a c
  · have := O.ntrans b c a h2 h; rw [h1] at this; cases this
  · rfl
theorem OrdB.le_lt (O : OrdB lt) {a b c : α} (h1 : lt b a = false) (h2 : lt b c = true) : lt a c = true := by
  cases h : lt a c
  · have := O.ntrans c a b h h1; rw [h2] at this; cases this
  · rfl

def SrtB (lt : α → α → Bool) (s : List α) : Prop := s.Pairwise (fun a b => lt b a = false)
def insB (lt : α → α → Bool) (x : α) : List α → List α
  | [] => [x]
  | y :: r => bif lt x y then x :: y :: r else y :: insB lt x r
def srtB (lt : α → α → Bool) (l : List α) : List α := l.foldl (fun s x => insB lt x s) []
def mrgB (lt : α → α → Bool) : List α → List α → List α
  | [], v => v
  | u, [] => u
  | a :: u, b :: v => bif lt b a then b :: mrgB lt (a :: u) v else a :: mrgB lt u (b :: v)
termination_by u v => u.length + v.length

theorem mrgB_nil (u : List α) : mrgB lt u [] = u := by cases u <;> simp [mrgB]
theorem mrgB_nil' (v : List α) : mrgB lt [] v = v := by simp [mrgB]
theorem mrgB_cons (a b : α) (u v : List α) : mrgB lt (a :: u) (b :: v) = bif lt b a then b :: mrgB lt (a :: u) v else a :: mrgB lt u (b :: v) := by rw [mrgB]

theorem mem_insB {x z : α} : ∀ {s : List α}, z ∈ insB lt x s ↔ z = x ∨ z ∈ s
  | [] => by simp [insB]
  | y :: r => by
    simp only [insB]
    cases lt x y
    · simp only [cond_false, List.mem_cons, mem_insB (s := r)]
      constructor
      · rintro (h | h | h)
        · exact .inr (.inl h)
        · exact .inl h
        · exact .inr (.inr h)
      · rintro (h | h | h)
        · exact .inr (.inl h)
        · exact .inl h
        · exact .inr (.inr h)
    · simp
theorem len_insB (x : α) : ∀ s : List α, (insB lt x s).length = s.length + 1
  | [] => rfl
  | y :: r => by simp only [insB]; cases lt x y <;> simp [len_insB x r]
theorem perm_insB (x : α) : ∀ s : List α, (insB lt x s).Perm (x :: s)
  | [] => .refl _
  | y :: r => by
    simp only [insB]
    cases lt x y
    · exact ((perm_insB x r).cons y).trans (.swap x y r)
    · exact .refl _
theorem srt_insB (O : OrdB lt) {x : α} : ∀ {s : List α}, SrtB lt s → SrtB lt (insB lt x s)
  | [], _ => by simp [insB, SrtB]
  | y :: r, h => by
    have h' := List.pairwise_cons.1 h
    simp only [insB]
    cases hx : lt x y
    · refine List.pairwise_cons.2 ⟨fun z hz => ?_, srt_insB O h'.2⟩
      rcases mem_insB.1 hz with rfl | hz
      · exact hx
      · exact h'.1 z hz
    · refine List.pairwise_cons.2 ⟨fun z hz => ?_, h⟩
      rcases List.mem_cons.1 hz with rfl | hz
      · exact O.asymm _ _ hx
      · exact O.ntrans x y z (O.asymm _ _ hx) (h'.1 z hz)
theorem foldl_srtB (O : OrdB lt) : ∀ (l s : List α), SrtB lt s → SrtB lt (l.foldl (fun s x => insB lt x s) s)
  | [], s, h => h
  | x :: l, s, h => foldl_srtB O l _ (srt_insB O h)
theorem srt_srtB (O : OrdB lt) (l : List α) : SrtB lt (srtB lt l) := foldl_srtB O l [] .nil
theorem foldl_perm : ∀ (l s : List α), (l.foldl (fun s x => insB lt x s) s).Perm (s ++ l)
  | [], s => by simp
  | x :: l, s => (foldl_perm l _).trans (((perm_insB x s).append_right l).trans (by
      show (x :: (s ++ l)).Perm (s ++ x :: l)
      exact List.perm_middle.symm))
theorem perm_srtB (l : List α) : (srtB lt l).Perm l := foldl_perm (lt := lt) l []
theorem len_srtB (l : List α) : (srtB lt l).length = l.length := (perm_srtB l).length_eq
theorem len_mrgB : ∀ (u v : List α), (mrgB lt u v).length = u.length + v.length
  | [], v => by simp [mrgB_nil']
  | a :: u, [] => by simp [mrgB_nil]
  | a :: u, b :: v => by
    rw [mrgB_cons]
    cases lt b a
    · simp only [cond_false, List.length_cons, len_mrgB u (b :: v)]; omega
    · simp only [cond_true, List.length_cons, len_mrgB (a :: u) v]; omega
termination_by u v => u.length + v.length

theorem mrgB_ins (O : OrdB lt) (x : α) : ∀ (s t : List α), SrtB lt s → SrtB lt t → mrgB lt s (insB lt x t) = insB lt x (mrgB lt s t)
  | [], t, _, _ => by simp [mrgB_nil']
  | a :: s, [], hs, _ => by
    rw [mrgB_nil]
    simp only [insB, mrgB_cons, mrgB_nil]
    cases hx : lt x a
    · have := mrgB_ins O x s [] (List.pairwise_cons.1 hs).2 .nil
      simp only [insB, mrgB_nil] at this
      simp only [cond_false, this]
    · rfl
  | a :: s, b :: t, hs, ht => by
    have hs' := List.pairwise_cons.1 hs
    have ht' := List.pairwise_cons.1 ht
    have i1 := mrgB_ins O x s (b :: t) hs'.2 ht
    have i2 := mrgB_ins O x (a :: s) t hs ht'.2
    cases hxb : lt x b
    · have e : insB lt x (b :: t) = b :: insB lt x t := by simp [insB, hxb]
      rw [e] at i1 ⊢
      rw [mrgB_cons, mrgB_cons]
      cases hba : lt b a
      · have hxa : lt x a = false := O.ntrans a b x hba hxb
        simp only [cond_false, insB, hxa, i1]
      · simp only [cond_true, insB, hxb, cond_false, i2]
    · have e : insB lt x (b :: t) = x :: b :: t := by simp [insB, hxb]
      rw [e] at i1 ⊢
      rw [mrgB_cons (lt := lt) a x s (b :: t), mrgB_cons a b s t]
      cases hba : lt b a
      · cases hxa : lt x a
        · simp only [cond_false, insB, hxa, i1]
        · simp only [cond_false, cond_true, insB, hxa, mrgB_cons, hba]
      · have hxa : lt x a = true := by
          cases h : lt x a
          · have := O.ntrans b a x (O.asymm _ _ hba) h; rw [hxb] at this; cases this
          · rfl
        simp only [hxa, cond_true, insB, hxb, mrgB_cons, hba]
termination_by s t => s.length + t.length

theorem mrgB_foldl (O : OrdB lt) {s : List α} (hs : SrtB lt s) : ∀ (v t : List α), SrtB lt t → mrgB lt s (v.foldl (fun s x => insB lt x s) t) = v.foldl (fun s x => insB lt x s) (mrgB lt s t)
  | [], t, ht => rfl
  | x :: v, t, ht => by
    simp only [List.foldl_cons]
    rw [mrgB_foldl O hs v _ (srt_insB O ht), mrgB_ins O x s t hs ht]
theorem mrgB_srt (O : OrdB lt) (u v : List α) : mrgB lt (srtB lt u) (srtB lt v) = srtB lt (u ++ v) := by
  have := mrgB_foldl O (srt_srtB O u) v [] .nil
  rw [mrgB_nil] at this
  unfold srtB at *
  rw [List.foldl_append]; exact this
theorem mrgB_split : ∀ (u1 v1 u2 v2 : List α), (∀ p ∈ u2, ∀ q ∈ v1, lt q p = true) → (∀ p ∈ u1, ∀ q ∈ v2, lt q p = false) → mrgB lt (u1 ++ u2) (v1 ++ v2) = mrgB lt u1 v1 ++ mrgB lt u2 v2
  | [], [], u2, v2, _, _ => by simp [mrgB_nil']
  | [], q :: v1, [], v2, h1, h2 => by simp [mrgB_nil']
  | [], q :: v1, p :: u2, v2, h1, h2 => by
    have i := mrgB_split [] v1 (p :: u2) v2 (fun a ha b hb => h1 a ha b (List.mem_cons_of_mem _ hb)) h2
    simp only [List.nil_append, List.cons_append, mrgB_nil'] at i ⊢
    rw [mrgB_cons, h1 p (List.mem_cons_self ..) q (List.mem_cons_self ..), cond_true, i]
  | p :: u1, [], u2, [], h1, h2 => by simp [mrgB_nil]
  | p :: u1, [], u2, q :: v2, h1, h2 => by
    have i := mrgB_split u1 [] u2 (q :: v2) h1 (fun a ha b hb => h2 a (List.mem_cons_of_mem _ ha) b hb)
    simp only [List.nil_append, List.cons_append, mrgB_nil] at i ⊢
    rw [mrgB_cons, h2 p (List.mem_cons_self ..) q (List.mem_cons_self ..), cond_false, i]
  | p :: u1, q :: v1, u2, v2, h1, h2 => by
    have i1 := mrgB_split (p :: u1) v1 u2 v2 (fun a ha b hb => h1 a ha b (List.mem_cons_of_mem _ hb)) h2
    have i2 := mrgB_split u1 (q :: v1) u2 v2 h1 (fun a ha b hb => h2 a (List.mem_cons_of_mem _ ha) b hb)
    simp only [List.cons_append] at i1 i2 ⊢
    rw [mrgB_cons, mrgB_cons, i1, i2]
    cases lt q p <;> rfl
termination_by u1 v1 => u1.length + v1.length

/-! ### Changing places -/
theorem set_two {x q y : List α} {p r : α} {i j : Nat} (hi : i = x.length) (hj : j = x.length + 1 + q.length) : ((x ++ p :: (q ++ r :: y)).set i r).set j p = x ++ r :: (q ++ p :: y) := by
  subst hi hj
  rw [List.set_append_right _ _ (Nat.le_refl _), Nat.sub_self, List.set_cons_zero]
  rw [List.set_append_right _ _ (by omega)]
  congr 1
  rw [show x.length + 1 + q.length - x.length = q.length + 1 by omega, List.set_cons_succ]
  congr 1
  rw [List.set_append_right _ _ (Nat.le_refl _), Nat.sub_self, List.set_cons_zero]
theorem set_two' {x q y : List α} {p r : α} {i j : Nat} (hi : i = x.length) (hj : j = x.length + 1 + q.length) : ((x ++ p :: (q ++ r :: y)).set j p).set i r = x ++ r :: (q ++ p :: y) := by
  rw [List.set_comm _ _ (by omega)]
  exact set_two hi hj
theorem getD_one {x q y : List α} {p r z : α} {i : Nat} (hi : i = x.length) : (x ++ p :: y).getD i z = p := by
  subst hi; simp
theorem getD_two {x q y : List α} {p r z : α} {j : Nat} (hj : j = x.length + 1 + q.length) : (x ++ p :: (q ++ r :: y)).getD j z = r := by
  subst hj
  rw [List.getD_eq_getElem?_getD, List.getElem?_append_right (by omega), show x.length + 1 + q.length - x.length = q.length + 1 by omega, List.getElem?_cons_succ, List.getElem?_append_right (Nat.le_refl _), Nat.sub_self]
  rfl
end
end Go.AL
