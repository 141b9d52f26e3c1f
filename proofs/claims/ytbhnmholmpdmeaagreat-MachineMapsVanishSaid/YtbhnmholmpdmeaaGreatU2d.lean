/-
  Layer 17: MachineMapsVanish: its run, the last stage. By an AI agent.
-/
import Derived.Test.YtbhnmholmpdmeaaGreatU2s
namespace Go.AL
open Go.Proofs Go.CX
set_option linter.unusedVariables false
set_option linter.unusedSimpArgs false
def evF : Nat → Int → Int → Bool
  | 0, R, A => false
  | 1, R, A => (R == IntKind.i64.wrap (270336 + A.tmod 4096)) && true
  | n + 1, R, A => bif evF n R A then true else false
theorem mvlt (index off K O A S R : Int) : lastO Tryz.prog plHk 600 Tryz.f3 (dropS 17 mvC) (stOf (mvS3t index off K O A S R) (mvO3t R) 860) [(17, true), (18, true), (19, true), (22, true), (23, true), (24, true), (27, true), (28, true), (29, true), (32, true), (33, true), (75, true), (76, true), (79, true)] = some (.bool (evF 6 R A), [(evF 5 R A == true, true), (evF 4 R A == true, true), (evF 4 R A == true, true), (evF 4 R A == true, true), (evF 4 R A == true, true), (evF 3 R A == true, true), (evF 3 R A == true, true), (evF 3 R A == true, true), (evF 2 R A == true, true), (evF 2 R A == true, true), (evF 2 R A == true, true), (evF 1 R A == true, true), (evF 1 R A == true, true), (evF 1 R A == true, true)]) := by kernel_rfl
theorem mvlf (index off K O A S R : Int) : lastO Tryz.prog plHk 600 Tryz.f3 (dropS 17 mvC) (stOf (mvS3f index off K O A S R) (mvO3f R) 835) [(17, true), (18, true), (19, true), (22, true), (23, true), (24, true), (27, true), (28, true), (29, true), (32, true), (33, true), (75, true), (76, true), (79, true)] = some (.bool (evF 6 R A), [(evF 5 R A == true, true), (evF 4 R A == true, true), (evF 4 R A == true, true), (evF 4 R A == true, true), (evF 4 R A == true, true), (evF 3 R A == true, true), (evF 3 R A == true, true), (evF 3 R A == true, true), (evF 2 R A == true, true), (evF 2 R A == true, true), (evF 2 R A == true, true), (evF 1 R A == true, true), (evF 1 R A == true, true), (evF 1 R A == true, true)]) := by kernel_rfl
end Go.AL
