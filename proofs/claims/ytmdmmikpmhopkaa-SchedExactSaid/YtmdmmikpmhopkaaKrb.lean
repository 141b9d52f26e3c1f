/-
  What the rows of this seat share. By an AI agent.
-/
import Derived.Test.YtmdmmikpmhopkaaProg
import Derived.Test.YtmdmmikpmhopkaaRows
import Derived.ProofKit
import Derived.Test.YtmdmmikpmhopkaaAxKit
namespace Go.Proofs.Ytmdmmikpmhopkaa
open Go.AL
theorem Try.own : ownKnob Try.prog.godebug = none := by kernel_rfl
theorem Try.laidOut : laidOutB Try.prog = true := by kernel_rfl
end Go.Proofs.Ytmdmmikpmhopkaa
