/-
  THE EXECUTOR, TWELFTH PART: what the walks that a program writes (gx.py, @@A) lean on. By an AI agent.
-/
import Derived.Test.YtbhnmholmpdmeaaGreatAxInt
namespace Go.AL
set_option linter.unusedVariables false
set_option linter.unusedSimpArgs false

section
variable {ρ : Type} {A B T L : Nat → Option ρ} {c p q : Bool} {x y : ρ}
end

section
variable {α : Type} {l r : List α} {u v : α} {k : Nat}
end

end Go.AL
