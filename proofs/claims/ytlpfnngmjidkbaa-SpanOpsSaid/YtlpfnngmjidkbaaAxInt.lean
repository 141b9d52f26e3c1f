/-
  THE EXECUTOR, ELEVENTH PART: whole numbers, shifts. By an AI agent.
-/
import Derived.Test.YtlpfnngmjidkbaaAxKit
import Derived.IntWalk
namespace Go.AL
set_option linter.unusedVariables false
set_option linter.unusedSimpArgs false

def p2 (k : Int) : Int := 2 ^ k.toNat
theorem i64_id {n : Int} (h : -9223372036854775808 ≤ n) (h' : n ≤ 9223372036854775807) : IntKind.i64.wrap n = n   := IntWalk.i64_in n ⟨h, h'⟩
theorem bif_pos {α : Type} {p : Prop} [Decidable p] {x y : α} (h : p) : (bif decide p then x else y) = x := by simp [h]
end Go.AL
namespace Go.AL
theorem ge0 (n : Nat) : decide ((0 : Int) ≤ ((n : Nat) : Int)) = true := by simp
end Go.AL
namespace Go.AL
end Go.AL
