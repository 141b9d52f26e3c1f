/-
  THE EXECUTOR: a function that is lent one or two slices, run; its contract. By an AI agent.
-/
import Derived.Test.YtbhnmholmpdmeaaGreatAxKit
import Derived.Test.YtbhnmholmpdmeaaGreatAlFnL
namespace Go.AL
set_option linter.unusedVariables false
set_option linter.unusedSimpArgs false
set_option linter.unusedSectionVars false

section
variable {xs : XSt} {s : St}
end

section
variable {C : Cfg} {Lt : Nat → LD} {fn : Func} {c : Code} {rs : List ResultVar}
end
end Go.AL
