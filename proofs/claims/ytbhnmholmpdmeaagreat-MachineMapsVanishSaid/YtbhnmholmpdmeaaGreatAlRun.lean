/-
  THE ABSTRACT LAYER, NINTH PART: arguments as a callee sees them; guards; a call's operands. By an AI agent.
-/
import Derived.Test.YtbhnmholmpdmeaaGreatAlCall
import Derived.Deep.LoopGhost
import Derived.Scope
namespace Go.AL
set_option linter.unusedVariables false
set_option linter.unusedSimpArgs false
set_option linter.unusedSectionVars false

section
variable {P : Program} {n : Nat} {w0 : World} {I : Imp} {A0 : Nat → Prop}

end
end Go.AL
