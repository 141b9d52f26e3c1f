/-
  THE EXECUTOR, ELEVENTH PART: whole numbers, shifts. By an AI agent.
-/
import Derived.Test.YtbhnmholmpdmeaaGreatAxKit
import Derived.IntWalk
namespace Go.AL
set_option linter.unusedVariables false
set_option linter.unusedSimpArgs false

def p2 (k : Int) : Int := 2 ^ k.toNat
end Go.AL
namespace Go.AL
end Go.AL
namespace Go.AL
end Go.AL
