/-
  What the rows of this seat share. By an AI agent.
-/
import Derived.Test.YtjlcdgjcbienbaaProg
import Derived.Test.YtjlcdgjcbienbaaRows
import Derived.ProofKit
import Derived.Test.YtjlcdgjcbienbaaAxKit
namespace Go.Proofs.Ytjlcdgjcbienbaa
open Go.AL
theorem Try.own : ownKnob Try.prog.godebug = none := by kernel_rfl
theorem Try.laidOut : laidOutB Try.prog = true := by kernel_rfl
end Go.Proofs.Ytjlcdgjcbienbaa
