/-
  What the rows of this seat share. By an AI agent.
-/
import Derived.Test.YtcpdakiailaneaaProg
import Derived.Test.YtcpdakiailaneaaRows
import Derived.ProofKit
import Derived.Test.YtcpdakiailaneaaAxKit
namespace Go.Proofs.Ytcpdakiailaneaa
open Go.AL
theorem Try.own : ownKnob Try.prog.godebug = none := by kernel_rfl
theorem Try.laidOut : laidOutB Try.prog = true := by kernel_rfl
end Go.Proofs.Ytcpdakiailaneaa
