/-
  THE EXECUTOR, ELEVENTH PART: whole numbers, shifts. By an AI agent.
-/
import Derived.Test.YtbhnmholmpdmeaaGreatAxKit
import Derived.IntWalk
namespace Go.AL
set_option linter.unusedVariables false
set_option linter.unusedSimpArgs false

def p2 (k : Int) : Int := 2 ^ k.toNat
theorem p2_pos (k : Int) : 0 < p2 k := Int.pow_pos (by omega)
theorem p2_mono {j k : Int} (h : j ≤ k) : p2 j ≤ p2 k := by
  unfold p2
  have h1 : j.toNat ≤ k.toNat := by omega
  have h2 : (2:Nat) ^ j.toNat ≤ 2 ^ k.toNat := Nat.pow_le_pow_right (by omega) h1
  exact_mod_cast h2
theorem p2_le {k : Int} (h : k ≤ 62) : p2 k ≤ 4611686018427387904 := by
  have := p2_mono h; rwa [show p2 62 = 4611686018427387904 from by decide] at this
theorem p2_le40 {k : Int} (h : k ≤ 40) : p2 k ≤ 1099511627776 := by
  have := p2_mono h; rwa [show p2 40 = 1099511627776 from by decide] at this
theorem i64_id {n : Int} (h : -9223372036854775808 ≤ n) (h' : n ≤ 9223372036854775807) : IntKind.i64.wrap n = n   := IntWalk.i64_in n ⟨h, h'⟩
theorem u64_id {n : Int} (h : 0 ≤ n) (h' : n ≤ 18446744073709551615) : IntKind.u64.wrap n = n := IntWalk.u64_in n ⟨h, h'⟩
theorem sh1 {k : Int} (h : 0 ≤ k) (h' : k ≤ 62) : IntKind.i64.wrap (1 * 2 ^ min k.toNat IntKind.i64.bits) = p2 k := by
  have h1 : min k.toNat IntKind.i64.bits = k.toNat := Nat.min_eq_left (by show _ ≤ 64; omega)
  rw [h1, Int.one_mul]
  have := p2_pos k; have := p2_le h'
  exact i64_id (by show _ ≤ p2 k; omega) (by show p2 k ≤ _; omega)
theorem bif_pos {α : Type} {p : Prop} [Decidable p] {x y : α} (h : p) : (bif decide p then x else y) = x := by simp [h]
theorem bif_neg {α : Type} {p : Prop} [Decidable p] {x y : α} (h : ¬ p) : (bif decide p then x else y) = y := by simp [h]
end Go.AL
namespace Go.AL
theorem ge0 (n : Nat) : decide ((0 : Int) ≤ ((n : Nat) : Int)) = true := by simp
end Go.AL
namespace Go.AL
end Go.AL
