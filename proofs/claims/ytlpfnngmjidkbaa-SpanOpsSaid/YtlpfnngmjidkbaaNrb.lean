/-
  What the rows of this seat share. By an AI agent.
-/
import Derived.Test.YtlpfnngmjidkbaaProg
import Derived.Test.YtlpfnngmjidkbaaRows
import Derived.ProofKit
import Derived.Test.YtlpfnngmjidkbaaAxKit
namespace Go.Proofs.Ytlpfnngmjidkbaa
open Go.AL
theorem Try.own : ownKnob Try.prog.godebug = none := by kernel_rfl
theorem Try.laidOut : laidOutB Try.prog = true := by kernel_rfl
end Go.Proofs.Ytlpfnngmjidkbaa
