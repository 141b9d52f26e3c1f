/-
  ForestQueriesExact and ForestTransitive: the rows. By an AI agent.
-/
import Derived.Test.YteppokgkagjklaaHs
namespace Go.AL
open Go.Proofs
set_option linter.unusedVariables false
set_option linter.unusedSimpArgs false
theorem qex_law : ∀ a : ArgT [.rd tSEn, .g tSId, .c (.int .i64), .c (.int .i64)], ArgsW [.rd tSEn, .g tSId, .c (.int .i64), .c (.int .i64)] a → ∀ vs, ArgsV [.rd tSEn, .g tSId, .c (.int .i64), .c (.int .i64)] a vs → FnP Try.prog 8 vs (RessV [.v .bool] (true : Bool)) :=
  fun a hw vs hv => (qex_true a hw).elim fun f h => fnX_ok (C := C_qex) (Lt := Lt_qex) (fn := Try.f8) (rs := [.tmp 8]) [.rd tSEn, .g tSId, .c (.int .i64), .c (.int .i64)] [.v (.bool)] mixed es_qex Try.func8 rfl rfl rfl (by kernel_rfl) (by kernel_rfl) f h vs hv
end Go.AL
namespace Go.Proofs.Yteppokgkagjklaa
open Go.ChangeShapes Go.WideShapes Go.ChangeAt Go.RowKit Go.AL
set_option maxRecDepth 100000 in
theorem forestQueriesExact_lifted (os : Os) (started : os.Started) (H : Type) (enc : TypeId × Value → H) :
    ReturnsInHanded {} Try.checked os 8 .any (Rows.forestQueriesExactSpec.pre6 enc Try.prog Try.f8 Rows.forestQueriesExactRow.domain false) (Rows.forestQueriesExactSpec.post enc Try.prog Try.f8 false true false false) := by
  refine returnsInHanded_of_change (C := Try.checked) Try.own started (by kernel_rfl) Try.func8
    (ChangeSpec.witness6 (enc := enc) (C := Try.checked) false ⟨#[], #[.slice none 0 0, .agg #[.int .i64 0, .int .i64 0, .int .i64 0], .int .i64 0, .int .i64 0], []⟩ 8 (by kernel_rfl) (by kernel_rfl) (by kernel_rfl) (by kernel_rfl)) ?_
  intro W base args ds gs before hval hW hcnd _
  refine law_calls (P := Try.prog) (pts := [22, 25, 3, 3]) (tb := 4) [.rd tSEn, .g tSId, .c (.int .i64), .c (.int .i64)] (by kernel_rfl) (by kernel_rfl) Try.laidOut (by kernel_rfl) (by kernel_rfl) (by kernel_rfl) rfl ?_ qex_law W base args ds gs before hval hW
  intro ds hds
  match ds, hds with
  | [d0, d1, d2, d3], _ => exact ⟨rfl, rfl, rfl⟩
theorem forestQueriesExact_holds : Rows.ForestQueriesExactSaid :=
  OpenClaim.holds_of_wide 8 Try.f8 rfl rfl rfl rfl rfl rfl rfl ⟨rfl, rfl, rfl, rfl, rfl⟩ rfl rfl rfl rfl rfl (by kernel_rfl) Try.func8 (by kernel_rfl)
    (of_decide_eq_true (by kernel_rfl)) (by unfold Func.isWrapper; first | (rw [if_pos (by decide +kernel)]; kernel_rfl) | (rw [if_neg (by decide +kernel)]; exact ⟨rfl, rfl⟩))
    (fun os started H enc _ => forestQueriesExact_lifted os started H enc)
end Go.Proofs.Yteppokgkagjklaa
namespace Go.AL
open Go.Proofs
set_option linter.unusedVariables false
set_option linter.unusedSimpArgs false
theorem trs_law : ∀ a : ArgT [.rd [.bool, .int .i64, .int .i64, .int .i64, .int .i64, .int .i64, .int .i64, .int .i64, .int .i64, .bool], .c (.int .i64)], ArgsW [.rd [.bool, .int .i64, .int .i64, .int .i64, .int .i64, .int .i64, .int .i64, .int .i64, .int .i64, .bool], .c (.int .i64)] a → ∀ vs, ArgsV [.rd [.bool, .int .i64, .int .i64, .int .i64, .int .i64, .int .i64, .int .i64, .int .i64, .int .i64, .bool], .c (.int .i64)] a vs → FnP Try.prog 9 vs (RessV [.v .bool] (true : Bool)) :=
  fun a hw vs hv => (trs_true a).elim fun f h => fnX_ok (C := C_trs) (Lt := Lt_trs) (fn := Try.f9) (rs := [.tmp 4]) [.rd [.bool, .int .i64, .int .i64, .int .i64, .int .i64, .int .i64, .int .i64, .int .i64, .int .i64, .bool], .c (.int .i64)] [.v (.bool)] mixed es_trs Try.func9 rfl rfl rfl (by kernel_rfl) (by kernel_rfl) f h vs hv
end Go.AL
namespace Go.Proofs.Yteppokgkagjklaa
open Go.ChangeShapes Go.WideShapes Go.ChangeAt Go.RowKit Go.AL
set_option maxRecDepth 100000 in
theorem forestTransitive_lifted (os : Os) (started : os.Started) (H : Type) (enc : TypeId × Value → H) :
    ReturnsInHanded {} Try.checked os 9 .any (Rows.forestTransitiveSpec.pre6 enc Try.prog Try.f9 Rows.forestTransitiveRow.domain false) (Rows.forestTransitiveSpec.post enc Try.prog Try.f9 false true false false) := by
  refine returnsInHanded_of_change (C := Try.checked) Try.own started (by kernel_rfl) Try.func9
    (ChangeSpec.witness6 (enc := enc) (C := Try.checked) false ⟨#[], #[.slice none 0 0, .int .i64 0], []⟩ 8 (by kernel_rfl) (by kernel_rfl) (by kernel_rfl) (by kernel_rfl)) ?_
  intro W base args ds gs before hval hW hcnd _
  refine law_calls (P := Try.prog) (pts := [23, 3]) (tb := 4) [.rd [.bool, .int .i64, .int .i64, .int .i64, .int .i64, .int .i64, .int .i64, .int .i64, .int .i64, .bool], .c (.int .i64)] (by kernel_rfl) (by kernel_rfl) Try.laidOut (by kernel_rfl) (by kernel_rfl) (by kernel_rfl) rfl ?_ trs_law W base args ds gs before hval hW
  intro ds hds
  match ds, hds with
  | [d0, d1], _ => exact ⟨rfl, rfl, rfl⟩
theorem forestTransitive_holds : Rows.ForestTransitiveSaid :=
  OpenClaim.holds_of_wide 9 Try.f9 rfl rfl rfl rfl rfl rfl rfl ⟨rfl, rfl, rfl, rfl, rfl⟩ rfl rfl rfl rfl rfl (by kernel_rfl) Try.func9 (by kernel_rfl)
    (of_decide_eq_true (by kernel_rfl)) (by unfold Func.isWrapper; first | (rw [if_pos (by decide +kernel)]; kernel_rfl) | (rw [if_neg (by decide +kernel)]; exact ⟨rfl, rfl⟩))
    (fun os started H enc _ => forestTransitive_lifted os started H enc)
end Go.Proofs.Yteppokgkagjklaa
namespace Go.AL
open Go.Proofs
set_option linter.unusedVariables false
set_option linter.unusedSimpArgs false
end Go.AL
