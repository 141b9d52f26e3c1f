/-
  THE ABSTRACT LAYER: a new slice that nobody will write any more becomes a pure one. By an AI agent.
-/
import Derived.Test.YtbhnmholmpdmeaaGreatAlStep
namespace Go.AL
set_option linter.unusedVariables false
set_option linter.unusedSimpArgs false

end Go.AL
