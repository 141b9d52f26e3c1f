/-
  THE EXECUTOR, EIGHTH PART: results; a whole function, run; its contract. By an AI agent.
-/
import Derived.Test.YtbhnmholmpdmeaaGreatAxCut
namespace Go.AL
set_option linter.unusedVariables false
set_option linter.unusedSimpArgs false
set_option linter.unusedSectionVars false

/-! ### Results -/
section
variable {xs : XSt} {s : St}

end

/-! ### The beginning -/
/-! ### A function, run -/
section
variable {β : Type} {C : Cfg} {Lt : Nat → LD} {r : β} {w0 : World} {I : Imp} {A0 : Nat → Prop} {Rt : Act → World → Prop}

end

end Go.AL
