/-
  Layer 30 (sched): Wake's contract. By an AI agent.
-/
import Derived.Test.YtmdmmikpmhopkaaK18
namespace Go.AL
open Go.Proofs
set_option linter.unusedVariables false
set_option linter.unusedSimpArgs false
end Go.AL
