/-
  Plain laws of valid forests: what a step that grows one keeps. No program in sight but for the models' names. By an AI agent.
-/
import Derived.Test.YtjlcdgjcbienbaaR0
namespace Go.AL
set_option linter.unusedVariables false
set_option linter.unusedSimpArgs false
/-! ### The order of Ids -/
theorem lessI_iff (a b : SId) : lessI (a, b) = true ↔ a.1 < b.1 ∨ (a.1 = b.1 ∧ (a.2.1 < b.2.1 ∨ (a.2.1 = b.2.1 ∧ a.2.2 < b.2.2))) := by
  simp only [lessI]
  by_cases h1 : a.1 = b.1
  · by_cases h2 : a.2.1 = b.2.1
    · simp [h1, h2]
    · simp [h1, h2]
  · simp [h1]
/-! ### Searching -/
theorem findI_none {α : Type} {p : α → Bool} : ∀ {l : List α} {k : Int}, 0 ≤ k → ((∀ x ∈ l, p x = false) ↔ findI p l k = -1)
  | [], k, h => by simp [findI]
  | u :: r, k, h => by
    have ih := findI_none (p := p) (l := r) (k := k + 1) (by omega)
    simp only [findI, List.mem_cons, forall_eq_or_imp]
    cases hp : p u
    · simp only [cond_false]; rw [← ih]; simp
    · simp only [cond_true]; constructor
      · intro h; cases h.1
      · intro h; omega
theorem findI_ge {α : Type} {p : α → Bool} {l : List α} {k : Int} (hk : 0 ≤ k) : 0 ≤ findI p l k ∨ findI p l k = -1 := by
  by_cases h : ∀ x ∈ l, p x = false
  · exact .inr ((findI_none hk).1 h)
  · have : ¬ findI p l k = -1 := fun e => h ((findI_none hk).2 e)
    left
    induction l generalizing k with
    | nil => simp at h
    | cons u r ih =>
      simp only [findI] at this ⊢
      cases hp : p u
      · rw [hp] at this
        simp only [cond_false] at this ⊢
        exact ih (by omega) (fun h2 => h (fun x hx => by
          rcases List.mem_cons.1 hx with rfl | hx
          · exact hp
          · exact h2 x hx)) this
      · simpa using hk
/-! ### Valid forests -/
def anc (p e : SEn) : Prop := ∀ k, (epath e)[k]? = some (eid p) → epath p = (epath e).take k ∧ contains (rgE p, rgE e) = true ∧ ((ecap p).1 = 1 ∨ sobB (ecap p, ecap e) = true)
structure Vf (m : Int) (l : List SEn) : Prop where
  node : ∀ e ∈ l, vnodB e.2.2 = true
  cs : ∀ e ∈ l, (0 ≤ e.1 ∧ e.1 < 4) ∧ (0 ≤ e.2.1 ∧ e.2.1 < 64)
  sorted : l.Pairwise (fun a b => lessI (eid a, eid b) = true)
  slots : ∀ a ∈ l, ∀ b ∈ l, a.1 = b.1 → a.2.1 = b.2.1 → a = b
  coex : ∀ a ∈ l, ∀ b ∈ l, coexB (ecap a, ecap b) = true
  anc : ∀ p ∈ l, ∀ e ∈ l, anc p e
  ops : ∀ e ∈ l, (eid e).2.1 ≤ m ∧ ∀ q ∈ epath e, q.2.1 ≤ m
  idc : ∀ e ∈ l, (eid e).1 = e.1
theorem Vf.mono {m n : Int} {l : List SEn} (h : Vf m l) (hmn : m ≤ n) : Vf n l :=
  ⟨h.node, h.cs, h.sorted, h.slots, h.coex, h.anc, fun e he => ⟨Int.le_trans (h.ops e he).1 hmn, fun q hq => Int.le_trans ((h.ops e he).2 q hq) hmn⟩, h.idc⟩
theorem Vf.nil (m : Int) : Vf m [] := ⟨by simp, by simp, .nil, by simp, by simp, by simp, by simp, by simp⟩
/-! ### Capabilities -/
/-! ### A new entry -/
/-! ### What Retype makes -/
structure RetOk (src : SCp) (l : List SCp) : Prop where
  src1 : src.1 = 1
  len : l.length ≤ 8
  caps : ∀ c ∈ l, vcapB c = true ∧ contains (rgC src, rgC c) = true
  apart : l.Pairwise (fun a b => overlaps (rgC a, rgC b) = false)
end Go.AL
