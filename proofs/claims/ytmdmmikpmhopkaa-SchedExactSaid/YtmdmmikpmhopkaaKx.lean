/-
  Layer 30 (sched): one step of a script. By an AI agent.
-/
import Derived.Test.YtmdmmikpmhopkaaK19
import Derived.Test.YtmdmmikpmhopkaaKw
import Derived.Test.YtmdmmikpmhopkaaNv
set_option linter.unusedVariables false
set_option linter.unusedSimpArgs false
namespace Go.AL
open Go.Proofs
set_option maxHeartbeats 4000000
end Go.AL
