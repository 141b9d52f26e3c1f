/-
  Layer 30 (sched): one step of a script. By an AI agent.
-/
import Derived.Test.YtmdmmikpmhopkaaK19
import Derived.Test.YtmdmmikpmhopkaaKw
import Derived.Test.YtmdmmikpmhopkaaNv
namespace Go.AL
open Go.Proofs
set_option linter.unusedVariables false
set_option linter.unusedSimpArgs false
set_option maxHeartbeats 4000000
def shB (u : Int) : Int := IntKind.i64.wrap (1 * 2 ^ min (IntKind.u64.wrap (plc (u, 6))).toNat IntKind.i64.bits)
theorem shB_ok (u : Int) : perB (shB u) = true ∧ decide (0 ≤ IntKind.u64.wrap (plc (u, 6))) = true ∧ 1 ≤ shB u ∧ shB u ≤ 32 := by
  have key : ∀ n : Fin 6, (perB (IntKind.i64.wrap (1 * 2 ^ min (IntKind.u64.wrap ((n.val : Nat) : Int)).toNat IntKind.i64.bits)) && decide (0 ≤ IntKind.u64.wrap ((n.val : Nat) : Int)) && decide (IntKind.i64.wrap (1 * 2 ^ min (IntKind.u64.wrap ((n.val : Nat) : Int)).toNat IntKind.i64.bits) ≤ 32)) = true := by decide +kernel
  obtain ⟨h1, h2⟩ := plc_rng u (n := 6) (by omega)
  have h3 := key ⟨(plc (u, 6)).toNat, by omega⟩
  simp only [Int.toNat_of_nonneg h1, Bool.and_eq_true, decide_eq_true_eq] at h3
  obtain ⟨⟨h3, h4⟩, h5⟩ := h3
  exact ⟨h3, decide_eq_true h4, (perB_rng h3).1, h5⟩
end Go.AL
