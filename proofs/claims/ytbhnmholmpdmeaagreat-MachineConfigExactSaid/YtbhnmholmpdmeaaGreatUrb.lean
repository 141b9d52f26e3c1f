/-
  What the rows of layer 17 share. By an AI agent.
-/
import Derived.Test.YtbhnmholmpdmeaaGreatProg
import Derived.Test.YtbhnmholmpdmeaaGreatRows
import Derived.ProofKit
import Derived.Test.YtbhnmholmpdmeaaGreatAxKit
namespace Go.Proofs.YtbhnmholmpdmeaaGreat
open Go.AL
theorem Tryz.own : ownKnob Tryz.prog.godebug = none := by kernel_rfl
theorem Tryz.laidOut : laidOutB Tryz.prog = true := by kernel_rfl
end Go.Proofs.YtbhnmholmpdmeaaGreat
