/-
  THE ABSTRACT LAYER, THIRTEENTH PART: what operations yield bears no name that was not there. By an AI agent.
-/
import Derived.Test.YtbhnmholmpdmeaaGreatAlDraw
namespace Go.AL
set_option linter.unusedVariables false
set_option linter.unusedSimpArgs false
set_option linter.unusedSectionVars false

section
variable {P : Program} {K : Nat → Bool} {e : Operand → V} {h : Nat → Option Ob}

end
end Go.AL
