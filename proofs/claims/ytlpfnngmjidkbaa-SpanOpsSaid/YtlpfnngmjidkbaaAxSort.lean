/-
  THE EXECUTOR: slices that a library's function sorts in place: its contract with a lent slice, from the shelf's. By an AI agent.
-/
import Derived.Test.YtlpfnngmjidkbaaAxKit
namespace Go.AL
set_option linter.unusedVariables false
set_option linter.unusedSimpArgs false
set_option linter.unusedSectionVars false

end Go.AL
