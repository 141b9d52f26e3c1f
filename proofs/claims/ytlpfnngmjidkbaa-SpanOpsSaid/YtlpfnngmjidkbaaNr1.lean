/-
  SpanOps returns true at every input and leaves its arguments as they were; no condition. By an AI agent.
-/
import Derived.Test.YtlpfnngmjidkbaaN5
import Derived.Test.YtlpfnngmjidkbaaNrb
namespace Go.AL
open Go.Proofs
set_option linter.unusedVariables false
set_option linter.unusedSimpArgs false
theorem spo_law : ∀ a : ArgT [.rd [.int .i64], .c (.int .i64), .c (.int .i64), .c (.int .i64), .c (.int .i64)], ArgsW [.rd [.int .i64], .c (.int .i64), .c (.int .i64), .c (.int .i64), .c (.int .i64)] a → ∀ vs, ArgsV [.rd [.int .i64], .c (.int .i64), .c (.int .i64), .c (.int .i64), .c (.int .i64)] a vs → FnP Try.prog 3 vs (RessV [.v .bool] (true : Bool)) :=
  fun a hw vs hv => (spo_true a).elim fun f h => fnX_ok (C := C_spo) (Lt := Lt_spo) (fn := Try.f3) (rs := [.tmp 10]) [.rd [.int .i64], .c (.int .i64), .c (.int .i64), .c (.int .i64), .c (.int .i64)] [.v (.bool)] mixed es_spo Try.func3 rfl rfl rfl (by kernel_rfl) (by kernel_rfl) f h vs hv
end Go.AL
namespace Go.Proofs.Ytlpfnngmjidkbaa
open Go.ChangeShapes Go.WideShapes Go.ChangeAt Go.RowKit Go.AL
set_option maxRecDepth 100000 in
theorem spanOps_lifted (os : Os) (started : os.Started) (H : Type) (enc : TypeId × Value → H) :
    ReturnsInHanded {} Try.checked os 3 .any (Rows.spanOpsSpec.pre6 enc Try.prog Try.f3 Rows.spanOpsRow.domain false) (Rows.spanOpsSpec.post enc Try.prog Try.f3 false true false false) := by
  refine returnsInHanded_of_change (C := Try.checked) Try.own started (by kernel_rfl) Try.func3
    (ChangeSpec.witness6 (enc := enc) (C := Try.checked) false ⟨#[], #[.slice none 0 0, .int .i64 0, .int .i64 0, .int .i64 0, .int .i64 0], []⟩ 8 (by kernel_rfl) (by kernel_rfl) (by kernel_rfl) (by kernel_rfl)) ?_
  intro W base args ds gs before hval hW hcnd _
  refine law_calls (P := Try.prog) (pts := [22, 3, 3, 3, 3]) (tb := 4) [.rd [.int .i64], .c (.int .i64), .c (.int .i64), .c (.int .i64), .c (.int .i64)] (by kernel_rfl) (by kernel_rfl) Try.laidOut (by kernel_rfl) (by kernel_rfl) (by kernel_rfl) rfl ?_ spo_law W base args ds gs before hval hW
  intro ds hds
  match ds, hds with
  | [d0, d1, d2, d3, d4], _ => exact ⟨rfl, rfl, rfl⟩
theorem spanOps_holds : Rows.SpanOpsSaid :=
  OpenClaim.holds_of_wide 3 Try.f3 rfl rfl rfl rfl rfl rfl rfl ⟨rfl, rfl, rfl, rfl, rfl⟩ rfl rfl rfl rfl rfl (by kernel_rfl) Try.func3 (by kernel_rfl)
    (of_decide_eq_true (by kernel_rfl)) (by unfold Func.isWrapper; first | (rw [if_pos (by decide +kernel)]; kernel_rfl) | (rw [if_neg (by decide +kernel)]; exact ⟨rfl, rfl⟩))
    (fun os started H enc _ => spanOps_lifted os started H enc)
end Go.Proofs.Ytlpfnngmjidkbaa
namespace Go.AL
open Go.Proofs
set_option linter.unusedVariables false
set_option linter.unusedSimpArgs false
end Go.AL
