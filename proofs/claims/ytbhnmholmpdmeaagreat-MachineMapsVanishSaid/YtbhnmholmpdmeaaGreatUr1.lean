/-
  MachineMapsVanish returns true at every input and leaves its arguments as they were; no condition. By an AI agent.
-/
import Derived.Test.YtbhnmholmpdmeaaGreatU3
import Derived.Test.YtbhnmholmpdmeaaGreatUrb
namespace Go.AL
open Go.Proofs
set_option linter.unusedVariables false
set_option linter.unusedSimpArgs false
end Go.AL
namespace Go.Proofs.YtbhnmholmpdmeaaGreat
open Go.ChangeShapes Go.WideShapes Go.ChangeAt Go.RowKit Go.AL
set_option maxRecDepth 100000 in
theorem machineMapsVanish_lifted (os : Os) (started : os.Started) (H : Type) (enc : TypeId × Value → H) :
    ReturnsInHanded {} Tryz.checked os 3 .any (Rows.machineMapsVanishSpec.pre6 enc Tryz.prog Tryz.f3 Rows.machineMapsVanishRow.domain false) (Rows.machineMapsVanishSpec.post enc Tryz.prog Tryz.f3 false true false false) := by
  refine returnsInHanded_of_change (C := Tryz.checked) Tryz.own started (by kernel_rfl) Tryz.func3
    (ChangeSpec.witness6 (enc := enc) (C := Tryz.checked) false ⟨#[], #[.bool false, .int .i64 0, .int .i64 0], []⟩ 8 (by kernel_rfl) (by kernel_rfl) (by kernel_rfl) (by kernel_rfl)) ?_
  intro W base args ds gs before hval hW hcnd _
  refine law_calls (P := Tryz.prog) (pts := [4, 3, 3]) (tb := 4) [.c (.bool), .c (.int .i64), .c (.int .i64)] (by kernel_rfl) (by kernel_rfl) Tryz.laidOut (by kernel_rfl) (by kernel_rfl) (by kernel_rfl) rfl ?_ mmv_law W base args ds gs before hval hW
  intro ds hds
  match ds, hds with
  | [d0, d1, d2], _ => exact ⟨rfl, rfl, rfl⟩
theorem machineMapsVanish_holds : Rows.MachineMapsVanishSaid :=
  OpenClaim.holds_of_wide 3 Tryz.f3 rfl rfl rfl rfl rfl rfl rfl ⟨rfl, rfl, rfl, rfl, rfl⟩ rfl rfl rfl rfl rfl (by kernel_rfl) Tryz.func3 (by kernel_rfl)
    (of_decide_eq_true (by kernel_rfl)) (by unfold Func.isWrapper; first | (rw [if_pos (by decide +kernel)]; kernel_rfl) | (rw [if_neg (by decide +kernel)]; exact ⟨rfl, rfl⟩))
    (fun os started H enc _ => machineMapsVanish_lifted os started H enc)
end Go.Proofs.YtbhnmholmpdmeaaGreat
namespace Go.AL
open Go.Proofs
set_option linter.unusedVariables false
set_option linter.unusedSimpArgs false
end Go.AL
