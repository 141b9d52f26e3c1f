/-
  THE ABSTRACT LAYER, FIFTEENTH PART: two operations of a drawn region in either order. By an AI agent.
-/
import Derived.Test.YtbhnmholmpdmeaaGreatAlDraw3
namespace Go.AL
set_option linter.unusedVariables false
set_option linter.unusedSimpArgs false
set_option linter.unusedSectionVars false

section
variable {P : Program} {n : Nat} {ops : Array Oper} {K : Nat → Bool}

def tgt : Op → Option Operand
  | .store _ x _ => some x
  | .call { callee := .builtin .append, args, .. } => args.toList[0]?
  | _ => none

end
end Go.AL
