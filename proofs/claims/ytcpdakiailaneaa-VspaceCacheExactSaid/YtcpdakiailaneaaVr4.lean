/-
  VspaceCacheExact returns true at every input and leaves its arguments as they were; no condition. By an AI agent.
-/
import Derived.Test.YtcpdakiailaneaaVx
import Derived.Test.YtcpdakiailaneaaVrb
namespace Go.AL
open Go.Proofs
set_option linter.unusedVariables false
set_option linter.unusedSimpArgs false
theorem vcx_law : ∀ a : ArgT [.rd tSTr, .g tSTr, .c (.int .i64), .c (.int .i64), .g tSId, .rd tSId, .rd [.int .i64]], ArgsW [.rd tSTr, .g tSTr, .c (.int .i64), .c (.int .i64), .g tSId, .rd tSId, .rd [.int .i64]] a → ∀ vs, ArgsV [.rd tSTr, .g tSTr, .c (.int .i64), .c (.int .i64), .g tSId, .rd tSId, .rd [.int .i64]] a vs → FnP Try.prog 7 vs (RessV [.v .bool] (true : Bool)) :=
  fun a hw vs hv => (vcx_true a).elim fun f h => fnX_ok (C := C_vcx) (Lt := Lt_vcx) (fn := Try.f7) (rs := [.tmp 14]) [.rd tSTr, .g tSTr, .c (.int .i64), .c (.int .i64), .g tSId, .rd tSId, .rd [.int .i64]] [.v (.bool)] mixed es_vcx Try.func7 rfl rfl rfl (by kernel_rfl) (by kernel_rfl) f h vs hv
end Go.AL
namespace Go.Proofs.Ytcpdakiailaneaa
open Go.ChangeShapes Go.WideShapes Go.ChangeAt Go.RowKit Go.AL
set_option maxRecDepth 100000 in
theorem vspaceCacheExact_lifted (os : Os) (started : os.Started) (H : Type) (enc : TypeId × Value → H) :
    ReturnsInHanded {} Try.checked os 7 .any (Rows.vspaceCacheExactSpec.pre6 enc Try.prog Try.f7 Rows.vspaceCacheExactRow.domain false) (Rows.vspaceCacheExactSpec.post enc Try.prog Try.f7 false true false false) := by
  refine returnsInHanded_of_change (C := Try.checked) Try.own started (by kernel_rfl) Try.func7
    (ChangeSpec.witness6 (enc := enc) (C := Try.checked) false ⟨#[], #[.slice none 0 0, .agg #[.int .i64 0, .int .i64 0, .int .i64 0, .int .i64 0, .slice none 0 0, .slice none 0 0], .int .i64 0, .int .i64 0, .agg #[.int .i64 0, .int .i64 0, .int .i64 0], .slice none 0 0, .slice none 0 0], []⟩ 8 (by kernel_rfl) (by kernel_rfl) (by kernel_rfl) (by kernel_rfl)) ?_
  intro W base args ds gs before hval hW hcnd _
  refine law_calls (P := Try.prog) (pts := [67, 45, 3, 3, 39, 40, 43]) (tb := 4) [.rd tSTr, .g tSTr, .c (.int .i64), .c (.int .i64), .g tSId, .rd tSId, .rd [.int .i64]] (by kernel_rfl) (by kernel_rfl) Try.laidOut (by kernel_rfl) (by kernel_rfl) (by kernel_rfl) rfl ?_ vcx_law W base args ds gs before hval hW
  intro ds hds
  match ds, hds with
  | [d0, d1, d2, d3, d4, d5, d6], _ => exact ⟨rfl, rfl, rfl⟩
theorem vspaceCacheExact_holds : Rows.VspaceCacheExactSaid :=
  OpenClaim.holds_of_wide 7 Try.f7 rfl rfl rfl rfl rfl rfl rfl ⟨rfl, rfl, rfl, rfl, rfl⟩ rfl rfl rfl rfl rfl (by kernel_rfl) Try.func7 (by kernel_rfl)
    (of_decide_eq_true (by kernel_rfl)) (by unfold Func.isWrapper; first | (rw [if_pos (by decide +kernel)]; kernel_rfl) | (rw [if_neg (by decide +kernel)]; exact ⟨rfl, rfl⟩))
    (fun os started H enc _ => vspaceCacheExact_lifted os started H enc)
end Go.Proofs.Ytcpdakiailaneaa
namespace Go.AL
open Go.Proofs
set_option linter.unusedVariables false
set_option linter.unusedSimpArgs false
end Go.AL
