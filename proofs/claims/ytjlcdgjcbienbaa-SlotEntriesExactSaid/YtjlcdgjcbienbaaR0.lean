/-
  Plain laws of ranges. No program in sight. By an AI agent.
-/
import Derived.Test.YtjlcdgjcbienbaaG2
namespace Go.AL
set_option linter.unusedVariables false
set_option linter.unusedSimpArgs false
end Go.AL
