/-
  SlotEntriesExact returns true at every input and leaves its arguments as they were; no condition. By an AI agent.
-/
import Derived.Test.YtjlcdgjcbienbaaSe
import Derived.Test.YtjlcdgjcbienbaaSlb
namespace Go.AL
open Go.Proofs
set_option linter.unusedVariables false
set_option linter.unusedSimpArgs false
theorem sexl_law : ∀ a : ArgT [.rd tSSl, .c (.int .i64)], ArgsW [.rd tSSl, .c (.int .i64)] a → ∀ vs, ArgsV [.rd tSSl, .c (.int .i64)] a vs → FnP Try.prog 10 vs (RessV [.v .bool] (true : Bool)) :=
  fun a hw vs hv => (sexl_true a).elim fun f h => fnX_ok (C := C_sexl) (Lt := Lt_sexl) (fn := Try.f10) (rs := [.tmp 4]) [.rd tSSl, .c (.int .i64)] [.v (.bool)] mixed es_sexl Try.func10 rfl rfl rfl (by kernel_rfl) (by kernel_rfl) f h vs hv
end Go.AL
namespace Go.Proofs.Ytjlcdgjcbienbaa
open Go.ChangeShapes Go.WideShapes Go.ChangeAt Go.RowKit Go.AL
set_option maxRecDepth 100000 in
theorem slotEntriesExact_lifted (os : Os) (started : os.Started) (H : Type) (enc : TypeId × Value → H) :
    ReturnsInHanded {} Try.checked os 10 .any (Rows.slotEntriesExactSpec.pre6 enc Try.prog Try.f10 Rows.slotEntriesExactRow.domain false) (Rows.slotEntriesExactSpec.post enc Try.prog Try.f10 false true false false) := by
  refine returnsInHanded_of_change (C := Try.checked) Try.own started (by kernel_rfl) Try.func10
    (ChangeSpec.witness6 (enc := enc) (C := Try.checked) false ⟨#[], #[.slice none 0 0, .int .i64 0], []⟩ 8 (by kernel_rfl) (by kernel_rfl) (by kernel_rfl) (by kernel_rfl)) ?_
  intro W base args ds gs before hval hW hcnd _
  refine law_calls (P := Try.prog) (pts := [22, 3]) (tb := 4) [.rd tSSl, .c (.int .i64)] (by kernel_rfl) (by kernel_rfl) Try.laidOut (by kernel_rfl) (by kernel_rfl) (by kernel_rfl) rfl ?_ sexl_law W base args ds gs before hval hW
  intro ds hds
  match ds, hds with
  | [d0, d1], _ => exact ⟨rfl, rfl, rfl⟩
theorem slotEntriesExact_holds : Rows.SlotEntriesExactSaid :=
  OpenClaim.holds_of_wide 10 Try.f10 rfl rfl rfl rfl rfl rfl rfl ⟨rfl, rfl, rfl, rfl, rfl⟩ rfl rfl rfl rfl rfl (by kernel_rfl) Try.func10 (by kernel_rfl)
    (of_decide_eq_true (by kernel_rfl)) (by unfold Func.isWrapper; first | (rw [if_pos (by decide +kernel)]; kernel_rfl) | (rw [if_neg (by decide +kernel)]; exact ⟨rfl, rfl⟩))
    (fun os started H enc _ => slotEntriesExact_lifted os started H enc)
end Go.Proofs.Ytjlcdgjcbienbaa
namespace Go.AL
open Go.Proofs
set_option linter.unusedVariables false
set_option linter.unusedSimpArgs false
end Go.AL
