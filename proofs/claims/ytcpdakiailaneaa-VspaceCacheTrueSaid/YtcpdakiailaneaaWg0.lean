/-
  Ranges: contracts of the functions of layer 10 that a seat has. By an AI agent.
-/
import Derived.Test.YtcpdakiailaneaaProg
import Derived.Test.YtcpdakiailaneaaAxKit
import Derived.Test.YtcpdakiailaneaaAxInt
import Derived.Test.YtcpdakiailaneaaAxAuto
namespace Go.AL
open Go.Proofs
set_option linter.unusedVariables false
set_option linter.unusedSimpArgs false
theorem mixed : Try.prog.follows .mixedOrders = true := by kernel_rfl
abbrev tRg : List Ty := [.int .i64, .int .i64]
abbrev Rg := Int × Int
def valid (r : Rg) : Bool := decide (6 ≤ r.2) && (decide (r.2 ≤ 40) && (decide (0 ≤ r.1) && (Int.tmod r.1 (p2 r.2) == 0 && decide (r.1 + p2 r.2 ≤ 1099511627776))))
def rend (r : Rg) : Int := bif valid r then r.1 + p2 r.2 else 0
def contains (a : Rg × Rg) : Bool := valid a.1 && (valid a.2 && (decide (a.1.1 ≤ a.2.1) && decide (rend a.2 ≤ rend a.1)))
def overlaps (a : Rg × Rg) : Bool := valid a.1 && (valid a.2 && (decide (a.1.1 < rend a.2) && decide (a.2.1 < rend a.1)))
noncomputable def C_valid : Cfg := ⟨Try.prog, [], pmT [], 32, [], []⟩
theorem es_valid : EsOk Try.prog [] [] := es_nil
def Lt_valid : Nat → LD := ldT []
noncomputable def M_valid (f : Nat) (a : Rg) : Option (Bool) := (runX (C_valid) Lt_valid (Kret Try.prog [.tmp 2] [.v (.bool)]) f [.code (bodyOf Try.f101)] (initX [.g tRg] a) : Option (ResT [.v (.bool)]))
theorem M_valid_eq (f : Nat) (r : Rg) : M_valid (f + 1) r =
    bif decide (r.2 < 6) then some false else bif decide (r.2 > 40) then some false else bif decide (r.1 < 0) then some false else bif decide (0 ≤ r.2) then bif IntKind.i64.wrap (1 * 2 ^ min (Int.toNat r.2) IntKind.i64.bits) != 0 then bif Int.tmod r.1 (IntKind.i64.wrap (1 * 2 ^ min (Int.toNat r.2) IntKind.i64.bits)) == 0 then some (decide (r.1 ≤ IntKind.i64.wrap (1099511627776 - IntKind.i64.wrap (1 * 2 ^ min (Int.toNat r.2) IntKind.i64.bits)))) else some false else none else none := by kernel_rfl
theorem valid_run : ∀ a, (fun _ => true) a = true → ∃ f, M_valid f a = some (valid a) := by
  rintro ⟨b, k⟩ _
  refine ⟨1, (M_valid_eq 0 _).trans ?_⟩
  simp only [valid]
  by_cases h1 : k < 6
  · simp [h1, show ¬ (6 ≤ k) by omega]
  by_cases h2 : k > 40
  · simp [h1, h2, show ¬ (k ≤ 40) by omega]
  by_cases h3 : b < 0
  · simp [h1, h2, h3, show ¬ (0 ≤ b) by omega]
  have hs := sh1 (k := k) (by omega) (by omega)
  have h5 := p2_pos k
  have h6 := p2_le40 (k := k) (by omega)
  have hne : (p2 k != 0) = true := by simp; omega
  simp only [hs, i64_id (n := 1099511627776 - p2 k) (by omega) (by omega), hne, cond_true]
  rw [bif_neg h1, bif_neg h2, bif_neg h3, bif_pos (by omega : 0 ≤ k)]
  have e1 : decide (b ≤ 1099511627776 - p2 k) = decide (b + p2 k ≤ 1099511627776) := decide_eq_decide.2 (by omega)
  rw [e1]
  simp only [show 6 ≤ k by omega, show k ≤ 40 by omega, show 0 ≤ b by omega, decide_true, Bool.true_and]
  cases (Int.tmod b (p2 k) == 0) <;> rfl
noncomputable def E_valid : Ent := ⟨101, [.g tRg], [.v (.bool)], fun a => (fun _ => true : Rg → Bool) a, fun a => (valid : Rg → Bool) a⟩
theorem E_valid_ok : E_valid.Ok Try.prog := fun a hp vs hv => (valid_run a hp).elim fun f h => fnX_ok (C := C_valid) (Lt := Lt_valid) (fn := Try.f101) (rs := [.tmp 2]) [.g tRg] [.v (.bool)] mixed es_valid Try.func101 rfl rfl rfl (by kernel_rfl) (by kernel_rfl) f h vs hv
end Go.AL
