/-
  THE ABSTRACT LAYER: a callee that is run in its caller's place: objects are renamed as its frame is entered, and again as it is left; the caller's slots lie from 100000 on. By an AI agent.
-/
import Derived.Test.YtbhnmholmpdmeaaGreatAlFn
namespace Go.AL
set_option linter.unusedVariables false
set_option linter.unusedSimpArgs false
set_option linter.unusedSectionVars false

/-! ### Tables of names -/
structure TabOK (T : List (Nat × Nat)) (v : Nat) : Prop where
  l : (T.map (·.1)).Nodup
  r : (T.map (·.2)).Nodup
  v : v ∉ T.map (·.2)

section
variable {T : List (Nat × Nat)} {v : Nat} (H : TabOK T v)
include H
variable {E : Env}
end

/-! ### A frame entered, and left -/
section
variable {w0 w : World} {I : Imp} {A0 A : Nat → Prop} {n : Nat} {s : St} {a : Act} {β : Nat → Option Nat} {T : List (Nat × Nat)} {v : Nat}

end
end Go.AL
