/-
  THE EXECUTOR, TENTH PART: what the texts of single functions use. By an AI agent.
-/
import Derived.Test.YtbhnmholmpdmeaaGreatAxLaw
import Derived.KernelRfl
namespace Go.AL
set_option linter.unusedVariables false
set_option linter.unusedSimpArgs false

/-! ### Contracts, gathered -/
end Go.AL
