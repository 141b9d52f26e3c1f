/-
  How capability spaces are made: valid ones. By an AI agent.
-/
import Derived.Test.YtjlcdgjcbienbaaSl1
namespace Go.AL
open Go.Proofs
set_option linter.unusedVariables false
set_option linter.unusedSimpArgs false
end Go.AL
