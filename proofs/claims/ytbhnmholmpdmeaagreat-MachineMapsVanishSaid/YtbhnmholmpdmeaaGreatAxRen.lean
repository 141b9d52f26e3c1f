/-
  THE EXECUTOR: a callee that is run in its caller's place: symbolic states renamed, entered, left. By an AI agent.
-/
import Derived.Test.YtbhnmholmpdmeaaGreatAxSt
import Derived.Test.YtbhnmholmpdmeaaGreatAlInl
namespace Go.AL
set_option linter.unusedVariables false
set_option linter.unusedSimpArgs false
set_option linter.unusedSectionVars false

def memN (a : Nat) : List Nat → Bool
  | [] => false
  | b :: l => Nat.beq a b || memN a l
def nodupN : List Nat → Bool
  | [] => true
  | a :: l => !memN a l && nodupN l
theorem memN_iff {a : Nat} : ∀ {l : List Nat}, memN a l = true ↔ a ∈ l
  | [] => by simp [memN]
  | b :: l => by
    simp only [memN, Bool.or_eq_true, List.mem_cons, memN_iff (l := l)]
    constructor
    · rintro (h | h)
      · exact .inl (Nat.eq_of_beq_eq_true h)
      · exact .inr h
    · rintro (h | h)
      · subst h; exact .inl (Nat.beq_refl _)
      · exact .inr h

theorem cond_some {α : Type} {b : Bool} {x : Option α} {y : α} (h : (bif b then x else none) = some y) : b = true ∧ x = some y := by
  cases b
  · cases h
  · exact ⟨rfl, h⟩


section
variable {T : List (Nat × Nat)} {v : Nat} (K : TabOK T v)
include K
end

/-! ### A frame entered, and left -/
section
variable {xs : XSt} {s : St} (R : RS xs s)
include R
end

/-! ### Which names live -/
/-! ### The results, read off the slots -/
section
variable {xs : XSt} {s : St}
end
end Go.AL
