/-
  SchedGuarantee returns true at every input and leaves its arguments as they were; no condition. By an AI agent.
-/
import Derived.Test.YtmdmmikpmhopkaaKg
import Derived.Test.YtmdmmikpmhopkaaKrb
namespace Go.AL
open Go.Proofs
set_option linter.unusedVariables false
set_option linter.unusedSimpArgs false
theorem sgu_law : ∀ a : ArgT [.rd tSSp], ArgsW [.rd tSSp] a → ∀ vs, ArgsV [.rd tSSp] a vs → FnP Try.prog 6 vs (RessV [.v .bool] (true : Bool)) :=
  fun a hw vs hv => (sgu_true a).elim fun f h => fnX_ok (C := C_sgu) (Lt := Lt_sgu) (fn := Try.f6) (rs := [.tmp 2]) [.rd tSSp] [.v (.bool)] mixed es_sgu Try.func6 rfl rfl rfl (by kernel_rfl) (by kernel_rfl) f h vs hv
end Go.AL
namespace Go.Proofs.Ytmdmmikpmhopkaa
open Go.ChangeShapes Go.WideShapes Go.ChangeAt Go.RowKit Go.AL
set_option maxRecDepth 100000 in
theorem schedGuarantee_lifted (os : Os) (started : os.Started) (H : Type) (enc : TypeId × Value → H) :
    ReturnsInHanded {} Try.checked os 6 .any (Rows.schedGuaranteeSpec.pre6 enc Try.prog Try.f6 Rows.schedGuaranteeRow.domain false) (Rows.schedGuaranteeSpec.post enc Try.prog Try.f6 false true false false) := by
  refine returnsInHanded_of_change (C := Try.checked) Try.own started (by kernel_rfl) Try.func6
    (ChangeSpec.witness6 (enc := enc) (C := Try.checked) false ⟨#[], #[.slice none 0 0], []⟩ 8 (by kernel_rfl) (by kernel_rfl) (by kernel_rfl) (by kernel_rfl)) ?_
  intro W base args ds gs before hval hW hcnd _
  refine law_calls (P := Try.prog) (pts := [44]) (tb := 4) [.rd tSSp] (by kernel_rfl) (by kernel_rfl) Try.laidOut (by kernel_rfl) (by kernel_rfl) (by kernel_rfl) rfl ?_ sgu_law W base args ds gs before hval hW
  intro ds hds
  match ds, hds with
  | [d0], _ => exact ⟨rfl, rfl, rfl⟩
theorem schedGuarantee_holds : Rows.SchedGuaranteeSaid :=
  OpenClaim.holds_of_wide 6 Try.f6 rfl rfl rfl rfl rfl rfl rfl ⟨rfl, rfl, rfl, rfl, rfl⟩ rfl rfl rfl rfl rfl (by kernel_rfl) Try.func6 (by kernel_rfl)
    (of_decide_eq_true (by kernel_rfl)) (by unfold Func.isWrapper; first | (rw [if_pos (by decide +kernel)]; kernel_rfl) | (rw [if_neg (by decide +kernel)]; exact ⟨rfl, rfl⟩))
    (fun os started H enc _ => schedGuarantee_lifted os started H enc)
end Go.Proofs.Ytmdmmikpmhopkaa
namespace Go.AL
open Go.Proofs
set_option linter.unusedVariables false
set_option linter.unusedSimpArgs false
end Go.AL
