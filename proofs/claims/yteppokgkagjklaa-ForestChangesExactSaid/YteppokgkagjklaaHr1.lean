/-
  ForestConflictExact and ForestChangesExact: the rows. By an AI agent.
-/
import Derived.Test.YteppokgkagjklaaH7
namespace Go.AL
open Go.Proofs
set_option linter.unusedVariables false
set_option linter.unusedSimpArgs false
theorem cex_law : ∀ a : ArgT [.rd tSEn, .g tSId, .rd tSCp, .g tRg], ArgsW [.rd tSEn, .g tSId, .rd tSCp, .g tRg] a → ∀ vs, ArgsV [.rd tSEn, .g tSId, .rd tSCp, .g tRg] a vs → FnP Try.prog 4 vs (RessV [.v .bool] (true : Bool)) :=
  fun a hw vs hv => (cex_true a hw).elim fun f h => fnX_ok (C := C_cex) (Lt := Lt_cex) (fn := Try.f4) (rs := [.tmp 8]) [.rd tSEn, .g tSId, .rd tSCp, .g tRg] [.v (.bool)] mixed es_cex Try.func4 rfl rfl rfl (by kernel_rfl) (by kernel_rfl) f h vs hv
end Go.AL
namespace Go.Proofs.Yteppokgkagjklaa
open Go.ChangeShapes Go.WideShapes Go.ChangeAt Go.RowKit Go.AL
set_option maxRecDepth 100000 in
theorem forestConflictExact_lifted (os : Os) (started : os.Started) (H : Type) (enc : TypeId × Value → H) :
    ReturnsInHanded {} Try.checked os 4 .any (Rows.forestConflictExactSpec.pre6 enc Try.prog Try.f4 Rows.forestConflictExactRow.domain false) (Rows.forestConflictExactSpec.post enc Try.prog Try.f4 false true false false) := by
  refine returnsInHanded_of_change (C := Try.checked) Try.own started (by kernel_rfl) Try.func4
    (ChangeSpec.witness6 (enc := enc) (C := Try.checked) false ⟨#[], #[.slice none 0 0, .agg #[.int .i64 0, .int .i64 0, .int .i64 0], .slice none 0 0, .agg #[.int .i64 0, .int .i64 0]], []⟩ 8 (by kernel_rfl) (by kernel_rfl) (by kernel_rfl) (by kernel_rfl)) ?_
  intro W base args ds gs before hval hW hcnd _
  refine law_calls (P := Try.prog) (pts := [22, 25, 39, 41]) (tb := 4) [.rd tSEn, .g tSId, .rd tSCp, .g tRg] (by kernel_rfl) (by kernel_rfl) Try.laidOut (by kernel_rfl) (by kernel_rfl) (by kernel_rfl) rfl ?_ cex_law W base args ds gs before hval hW
  intro ds hds
  match ds, hds with
  | [d0, d1, d2, d3], _ => exact ⟨rfl, rfl, rfl⟩
theorem forestConflictExact_holds : Rows.ForestConflictExactSaid :=
  OpenClaim.holds_of_wide 4 Try.f4 rfl rfl rfl rfl rfl rfl rfl ⟨rfl, rfl, rfl, rfl, rfl⟩ rfl rfl rfl rfl rfl (by kernel_rfl) Try.func4 (by kernel_rfl)
    (of_decide_eq_true (by kernel_rfl)) (by unfold Func.isWrapper; first | (rw [if_pos (by decide +kernel)]; kernel_rfl) | (rw [if_neg (by decide +kernel)]; exact ⟨rfl, rfl⟩))
    (fun os started H enc _ => forestConflictExact_lifted os started H enc)
end Go.Proofs.Yteppokgkagjklaa
namespace Go.AL
open Go.Proofs
set_option linter.unusedVariables false
set_option linter.unusedSimpArgs false
theorem chx_law : ∀ a : ArgT [.rd tSEn, .g tSEn, .g tSId, .c (.int .i64)], ArgsW [.rd tSEn, .g tSEn, .g tSId, .c (.int .i64)] a → ∀ vs, ArgsV [.rd tSEn, .g tSEn, .g tSId, .c (.int .i64)] a vs → FnP Try.prog 10 vs (RessV [.v .bool] (true : Bool)) :=
  fun a hw vs hv => (chx_true a hw).elim fun f h => fnX_ok (C := C_chx) (Lt := Lt_chx) (fn := Try.f10) (rs := [.tmp 8]) [.rd tSEn, .g tSEn, .g tSId, .c (.int .i64)] [.v (.bool)] mixed es_chx Try.func10 rfl rfl rfl (by kernel_rfl) (by kernel_rfl) f h vs hv
end Go.AL
namespace Go.Proofs.Yteppokgkagjklaa
open Go.ChangeShapes Go.WideShapes Go.ChangeAt Go.RowKit Go.AL
set_option maxRecDepth 100000 in
theorem forestChangesExact_lifted (os : Os) (started : os.Started) (H : Type) (enc : TypeId × Value → H) :
    ReturnsInHanded {} Try.checked os 10 .any (Rows.forestChangesExactSpec.pre6 enc Try.prog Try.f10 Rows.forestChangesExactRow.domain false) (Rows.forestChangesExactSpec.post enc Try.prog Try.f10 false true false false) := by
  refine returnsInHanded_of_change (C := Try.checked) Try.own started (by kernel_rfl) Try.func10
    (ChangeSpec.witness6 (enc := enc) (C := Try.checked) false ⟨#[], #[.slice none 0 0, .agg #[.int .i64 0, .int .i64 0, .int .i64 0, .int .i64 0, .int .i64 0, .slice none 0 0, .int .i64 0, .int .i64 0, .int .i64 0, .int .i64 0, .int .i64 0, .int .i64 0, .bool false], .agg #[.int .i64 0, .int .i64 0, .int .i64 0], .int .i64 0], []⟩ 8 (by kernel_rfl) (by kernel_rfl) (by kernel_rfl) (by kernel_rfl)) ?_
  intro W base args ds gs before hval hW hcnd _
  refine law_calls (P := Try.prog) (pts := [22, 32, 25, 3]) (tb := 4) [.rd tSEn, .g tSEn, .g tSId, .c (.int .i64)] (by kernel_rfl) (by kernel_rfl) Try.laidOut (by kernel_rfl) (by kernel_rfl) (by kernel_rfl) rfl ?_ chx_law W base args ds gs before hval hW
  intro ds hds
  match ds, hds with
  | [d0, d1, d2, d3], _ => exact ⟨rfl, rfl, rfl⟩
theorem forestChangesExact_holds : Rows.ForestChangesExactSaid :=
  OpenClaim.holds_of_wide 10 Try.f10 rfl rfl rfl rfl rfl rfl rfl ⟨rfl, rfl, rfl, rfl, rfl⟩ rfl rfl rfl rfl rfl (by kernel_rfl) Try.func10 (by kernel_rfl)
    (of_decide_eq_true (by kernel_rfl)) (by unfold Func.isWrapper; first | (rw [if_pos (by decide +kernel)]; kernel_rfl) | (rw [if_neg (by decide +kernel)]; exact ⟨rfl, rfl⟩))
    (fun os started H enc _ => forestChangesExact_lifted os started H enc)
end Go.Proofs.Yteppokgkagjklaa
namespace Go.AL
open Go.Proofs
set_option linter.unusedVariables false
set_option linter.unusedSimpArgs false
end Go.AL
