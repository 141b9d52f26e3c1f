/-
  What the rows of this seat share. By an AI agent.
-/
import Derived.Test.YtoidpheldjllaaaMr6
import Derived.Test.YtoidpheldjllaaaRows
import Derived.ProofKit
namespace Go.Proofs.Ytoidpheldjllaaa
theorem Try.own : ownKnob Try.prog.godebug = none := by kernel_rfl
theorem Try.laidOut : laidOutB Try.prog = true := by kernel_rfl
end Go.Proofs.Ytoidpheldjllaaa
