/-
  SchedAdmission returns true at every input and leaves its arguments as they were; no condition. By an AI agent.
-/
import Derived.Test.YtmdmmikpmhopkaaK22
import Derived.Test.YtmdmmikpmhopkaaKrb
namespace Go.AL
open Go.Proofs
set_option linter.unusedVariables false
set_option linter.unusedSimpArgs false
theorem sad_law : ∀ a : ArgT [.rd [.int .i64], .rd [.int .i64], .c (.int .i64)], ArgsW [.rd [.int .i64], .rd [.int .i64], .c (.int .i64)] a → ∀ vs, ArgsV [.rd [.int .i64], .rd [.int .i64], .c (.int .i64)] a vs → FnP Try.prog 4 vs (RessV [.v .bool] (true : Bool)) :=
  fun a hw vs hv => (sad_true a).elim fun f h => fnX_ok (C := C_sad) (Lt := Lt_sad) (fn := Try.f4) (rs := [.tmp 6]) [.rd [.int .i64], .rd [.int .i64], .c (.int .i64)] [.v (.bool)] mixed es_sad Try.func4 rfl rfl rfl (by kernel_rfl) (by kernel_rfl) f h vs hv
end Go.AL
namespace Go.Proofs.Ytmdmmikpmhopkaa
open Go.ChangeShapes Go.WideShapes Go.ChangeAt Go.RowKit Go.AL
set_option maxRecDepth 100000 in
theorem schedAdmission_lifted (os : Os) (started : os.Started) (H : Type) (enc : TypeId × Value → H) :
    ReturnsInHanded {} Try.checked os 4 .any (Rows.schedAdmissionSpec.pre6 enc Try.prog Try.f4 Rows.schedAdmissionRow.domain false) (Rows.schedAdmissionSpec.post enc Try.prog Try.f4 false true false false) := by
  refine returnsInHanded_of_change (C := Try.checked) Try.own started (by kernel_rfl) Try.func4
    (ChangeSpec.witness6 (enc := enc) (C := Try.checked) false ⟨#[], #[.slice none 0 0, .slice none 0 0, .int .i64 0], []⟩ 8 (by kernel_rfl) (by kernel_rfl) (by kernel_rfl) (by kernel_rfl)) ?_
  intro W base args ds gs before hval hW hcnd _
  refine law_calls (P := Try.prog) (pts := [22, 22, 3]) (tb := 4) [.rd [.int .i64], .rd [.int .i64], .c (.int .i64)] (by kernel_rfl) (by kernel_rfl) Try.laidOut (by kernel_rfl) (by kernel_rfl) (by kernel_rfl) rfl ?_ sad_law W base args ds gs before hval hW
  intro ds hds
  match ds, hds with
  | [d0, d1, d2], _ => exact ⟨rfl, rfl, rfl⟩
theorem schedAdmission_holds : Rows.SchedAdmissionSaid :=
  OpenClaim.holds_of_wide 4 Try.f4 rfl rfl rfl rfl rfl rfl rfl ⟨rfl, rfl, rfl, rfl, rfl⟩ rfl rfl rfl rfl rfl (by kernel_rfl) Try.func4 (by kernel_rfl)
    (of_decide_eq_true (by kernel_rfl)) (by unfold Func.isWrapper; first | (rw [if_pos (by decide +kernel)]; kernel_rfl) | (rw [if_neg (by decide +kernel)]; exact ⟨rfl, rfl⟩))
    (fun os started H enc _ => schedAdmission_lifted os started H enc)
end Go.Proofs.Ytmdmmikpmhopkaa
namespace Go.AL
open Go.Proofs
set_option linter.unusedVariables false
set_option linter.unusedSimpArgs false
end Go.AL
