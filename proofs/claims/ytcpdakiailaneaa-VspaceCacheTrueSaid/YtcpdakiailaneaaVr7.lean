/-
  VspaceCacheTrue returns true at every input and leaves its arguments as they were; no condition. By an AI agent.
-/
import Derived.Test.YtcpdakiailaneaaWd
import Derived.Test.YtcpdakiailaneaaVrb
namespace Go.AL
open Go.Proofs
set_option linter.unusedVariables false
set_option linter.unusedSimpArgs false
theorem vct_law : ∀ a : ArgT [.rd tSAc], ArgsW [.rd tSAc] a → ∀ vs, ArgsV [.rd tSAc] a vs → FnP Try.prog 10 vs (RessV [.v .bool] (true : Bool)) :=
  fun a hw vs hv => (vct_true a).elim fun f h => fnX_ok (C := C_vct) (Lt := Lt_vct) (fn := Try.f10) (rs := [.tmp 2]) [.rd tSAc] [.v (.bool)] mixed es_vct Try.func10 rfl rfl rfl (by kernel_rfl) (by kernel_rfl) f h vs hv
end Go.AL
namespace Go.Proofs.Ytcpdakiailaneaa
open Go.ChangeShapes Go.WideShapes Go.ChangeAt Go.RowKit Go.AL
set_option maxRecDepth 100000 in
theorem vspaceCacheTrue_lifted (os : Os) (started : os.Started) (H : Type) (enc : TypeId × Value → H) :
    ReturnsInHanded {} Try.checked os 10 .any (Rows.vspaceCacheTrueSpec.pre6 enc Try.prog Try.f10 Rows.vspaceCacheTrueRow.domain false) (Rows.vspaceCacheTrueSpec.post enc Try.prog Try.f10 false true false false) := by
  refine returnsInHanded_of_change (C := Try.checked) Try.own started (by kernel_rfl) Try.func10
    (ChangeSpec.witness6 (enc := enc) (C := Try.checked) false ⟨#[], #[.slice none 0 0], []⟩ 8 (by kernel_rfl) (by kernel_rfl) (by kernel_rfl) (by kernel_rfl)) ?_
  intro W base args ds gs before hval hW hcnd _
  refine law_calls (P := Try.prog) (pts := [23]) (tb := 4) [.rd tSAc] (by kernel_rfl) (by kernel_rfl) Try.laidOut (by kernel_rfl) (by kernel_rfl) (by kernel_rfl) rfl ?_ vct_law W base args ds gs before hval hW
  intro ds hds
  match ds, hds with
  | [d0], _ => exact ⟨rfl, rfl, rfl⟩
theorem vspaceCacheTrue_holds : Rows.VspaceCacheTrueSaid :=
  OpenClaim.holds_of_wide 10 Try.f10 rfl rfl rfl rfl rfl rfl rfl ⟨rfl, rfl, rfl, rfl, rfl⟩ rfl rfl rfl rfl rfl (by kernel_rfl) Try.func10 (by kernel_rfl)
    (of_decide_eq_true (by kernel_rfl)) (by unfold Func.isWrapper; first | (rw [if_pos (by decide +kernel)]; kernel_rfl) | (rw [if_neg (by decide +kernel)]; exact ⟨rfl, rfl⟩))
    (fun os started H enc _ => vspaceCacheTrue_lifted os started H enc)
end Go.Proofs.Ytcpdakiailaneaa
namespace Go.AL
open Go.Proofs
set_option linter.unusedVariables false
set_option linter.unusedSimpArgs false
end Go.AL
