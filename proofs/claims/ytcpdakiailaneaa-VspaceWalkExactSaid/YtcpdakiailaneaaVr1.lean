/-
  VspaceMapExact and VspaceWalkExact return true at every input and leave their arguments as they were; no condition. By an AI agent.
-/
import Derived.Test.YtcpdakiailaneaaV10
import Derived.Test.YtcpdakiailaneaaVrb
namespace Go.AL
open Go.Proofs
set_option linter.unusedVariables false
set_option linter.unusedSimpArgs false
theorem vmx_law : ∀ a : ArgT [.rd tSPT, .rd tSAc, .g tSCp, .c (.int .i64), .g tSNd, .c (.int .i64)], ArgsW [.rd tSPT, .rd tSAc, .g tSCp, .c (.int .i64), .g tSNd, .c (.int .i64)] a → ∀ vs, ArgsV [.rd tSPT, .rd tSAc, .g tSCp, .c (.int .i64), .g tSNd, .c (.int .i64)] a vs → FnP Try.prog 8 vs (RessV [.v .bool] (true : Bool)) :=
  fun a hw vs hv => (vmx_true a).elim fun f h => fnX_ok (C := C_vmx) (Lt := Lt_vmx) (fn := Try.f8) (rs := [.tmp 12]) [.rd tSPT, .rd tSAc, .g tSCp, .c (.int .i64), .g tSNd, .c (.int .i64)] [.v (.bool)] mixed es_vmx Try.func8 rfl rfl rfl (by kernel_rfl) (by kernel_rfl) f h vs hv
end Go.AL
namespace Go.Proofs.Ytcpdakiailaneaa
open Go.ChangeShapes Go.WideShapes Go.ChangeAt Go.RowKit Go.AL
set_option maxRecDepth 100000 in
theorem vspaceMapExact_lifted (os : Os) (started : os.Started) (H : Type) (enc : TypeId × Value → H) :
    ReturnsInHanded {} Try.checked os 8 .any (Rows.vspaceMapExactSpec.pre6 enc Try.prog Try.f8 Rows.vspaceMapExactRow.domain false) (Rows.vspaceMapExactSpec.post enc Try.prog Try.f8 false true false false) := by
  refine returnsInHanded_of_change (C := Try.checked) Try.own started (by kernel_rfl) Try.func8
    (ChangeSpec.witness6 (enc := enc) (C := Try.checked) false ⟨#[], #[.slice none 0 0, .slice none 0 0, .agg #[.int .i64 0, .int .i64 0, .int .i64 0, .int .i64 0, .int .i64 0, .int .i64 0, .bool false], .int .i64 0, .agg #[.int .i64 0, .int .i64 0, .int .i64 0, .slice none 0 0, .int .i64 0, .int .i64 0, .int .i64 0, .int .i64 0, .int .i64 0, .int .i64 0, .bool false], .int .i64 0], []⟩ 8 (by kernel_rfl) (by kernel_rfl) (by kernel_rfl) (by kernel_rfl)) ?_
  intro W base args ds gs before hval hW hcnd _
  refine law_calls (P := Try.prog) (pts := [22, 23, 25, 3, 42, 3]) (tb := 4) [.rd tSPT, .rd tSAc, .g tSCp, .c (.int .i64), .g tSNd, .c (.int .i64)] (by kernel_rfl) (by kernel_rfl) Try.laidOut (by kernel_rfl) (by kernel_rfl) (by kernel_rfl) rfl ?_ vmx_law W base args ds gs before hval hW
  intro ds hds
  match ds, hds with
  | [d0, d1, d2, d3, d4, d5], _ => exact ⟨rfl, rfl, rfl⟩
theorem vspaceMapExact_holds : Rows.VspaceMapExactSaid :=
  OpenClaim.holds_of_wide 8 Try.f8 rfl rfl rfl rfl rfl rfl rfl ⟨rfl, rfl, rfl, rfl, rfl⟩ rfl rfl rfl rfl rfl (by kernel_rfl) Try.func8 (by kernel_rfl)
    (of_decide_eq_true (by kernel_rfl)) (by unfold Func.isWrapper; first | (rw [if_pos (by decide +kernel)]; kernel_rfl) | (rw [if_neg (by decide +kernel)]; exact ⟨rfl, rfl⟩))
    (fun os started H enc _ => vspaceMapExact_lifted os started H enc)
end Go.Proofs.Ytcpdakiailaneaa
namespace Go.AL
open Go.Proofs
set_option linter.unusedVariables false
set_option linter.unusedSimpArgs false
theorem vwx_law : ∀ a : ArgT [.rd tSPT, .rd tSAc, .g tSCp, .c (.int .i64)], ArgsW [.rd tSPT, .rd tSAc, .g tSCp, .c (.int .i64)] a → ∀ vs, ArgsV [.rd tSPT, .rd tSAc, .g tSCp, .c (.int .i64)] a vs → FnP Try.prog 3 vs (RessV [.v .bool] (true : Bool)) :=
  fun a hw vs hv => (vwx_true a).elim fun f h => fnX_ok (C := C_vwx) (Lt := Lt_vwx) (fn := Try.f3) (rs := [.tmp 8]) [.rd tSPT, .rd tSAc, .g tSCp, .c (.int .i64)] [.v (.bool)] mixed es_vwx Try.func3 rfl rfl rfl (by kernel_rfl) (by kernel_rfl) f h vs hv
end Go.AL
namespace Go.Proofs.Ytcpdakiailaneaa
open Go.ChangeShapes Go.WideShapes Go.ChangeAt Go.RowKit Go.AL
set_option maxRecDepth 100000 in
theorem vspaceWalkExact_lifted (os : Os) (started : os.Started) (H : Type) (enc : TypeId × Value → H) :
    ReturnsInHanded {} Try.checked os 3 .any (Rows.vspaceWalkExactSpec.pre6 enc Try.prog Try.f3 Rows.vspaceWalkExactRow.domain false) (Rows.vspaceWalkExactSpec.post enc Try.prog Try.f3 false true false false) := by
  refine returnsInHanded_of_change (C := Try.checked) Try.own started (by kernel_rfl) Try.func3
    (ChangeSpec.witness6 (enc := enc) (C := Try.checked) false ⟨#[], #[.slice none 0 0, .slice none 0 0, .agg #[.int .i64 0, .int .i64 0, .int .i64 0, .int .i64 0, .int .i64 0, .int .i64 0, .bool false], .int .i64 0], []⟩ 8 (by kernel_rfl) (by kernel_rfl) (by kernel_rfl) (by kernel_rfl)) ?_
  intro W base args ds gs before hval hW hcnd _
  refine law_calls (P := Try.prog) (pts := [22, 23, 25, 3]) (tb := 4) [.rd tSPT, .rd tSAc, .g tSCp, .c (.int .i64)] (by kernel_rfl) (by kernel_rfl) Try.laidOut (by kernel_rfl) (by kernel_rfl) (by kernel_rfl) rfl ?_ vwx_law W base args ds gs before hval hW
  intro ds hds
  match ds, hds with
  | [d0, d1, d2, d3], _ => exact ⟨rfl, rfl, rfl⟩
theorem vspaceWalkExact_holds : Rows.VspaceWalkExactSaid :=
  OpenClaim.holds_of_wide 3 Try.f3 rfl rfl rfl rfl rfl rfl rfl ⟨rfl, rfl, rfl, rfl, rfl⟩ rfl rfl rfl rfl rfl (by kernel_rfl) Try.func3 (by kernel_rfl)
    (of_decide_eq_true (by kernel_rfl)) (by unfold Func.isWrapper; first | (rw [if_pos (by decide +kernel)]; kernel_rfl) | (rw [if_neg (by decide +kernel)]; exact ⟨rfl, rfl⟩))
    (fun os started H enc _ => vspaceWalkExact_lifted os started H enc)
end Go.Proofs.Ytcpdakiailaneaa
namespace Go.AL
open Go.Proofs
set_option linter.unusedVariables false
set_option linter.unusedSimpArgs false
end Go.AL
