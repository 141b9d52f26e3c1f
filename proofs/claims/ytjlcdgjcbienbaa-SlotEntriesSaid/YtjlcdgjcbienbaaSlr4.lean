/-
  SlotEntries returns true at every input and leaves its arguments as they were; no condition. By an AI agent.
-/
import Derived.Test.YtjlcdgjcbienbaaSg
import Derived.Test.YtjlcdgjcbienbaaSlb
namespace Go.AL
open Go.Proofs
set_option linter.unusedVariables false
set_option linter.unusedSimpArgs false
theorem senx_law : ∀ a : ArgT [.rd tSSt, .rd [.int .i64], .rd [.int .i64], .c (.int .i64)], ArgsW [.rd tSSt, .rd [.int .i64], .rd [.int .i64], .c (.int .i64)] a → ∀ vs, ArgsV [.rd tSSt, .rd [.int .i64], .rd [.int .i64], .c (.int .i64)] a vs → FnP Try.prog 11 vs (RessV [.v .bool] (true : Bool)) :=
  fun a hw vs hv => (senx_true a).elim fun f h => fnX_ok (C := C_senx) (Lt := Lt_senx) (fn := Try.f11) (rs := [.tmp 8]) [.rd tSSt, .rd [.int .i64], .rd [.int .i64], .c (.int .i64)] [.v (.bool)] mixed es_senx Try.func11 rfl rfl rfl (by kernel_rfl) (by kernel_rfl) f h vs hv
end Go.AL
namespace Go.Proofs.Ytjlcdgjcbienbaa
open Go.ChangeShapes Go.WideShapes Go.ChangeAt Go.RowKit Go.AL
set_option maxRecDepth 100000 in
theorem slotEntries_lifted (os : Os) (started : os.Started) (H : Type) (enc : TypeId × Value → H) :
    ReturnsInHanded {} Try.checked os 11 .any (Rows.slotEntriesSpec.pre6 enc Try.prog Try.f11 Rows.slotEntriesRow.domain false) (Rows.slotEntriesSpec.post enc Try.prog Try.f11 false true false false) := by
  refine returnsInHanded_of_change (C := Try.checked) Try.own started (by kernel_rfl) Try.func11
    (ChangeSpec.witness6 (enc := enc) (C := Try.checked) false ⟨#[], #[.slice none 0 0, .slice none 0 0, .slice none 0 0, .int .i64 0], []⟩ 8 (by kernel_rfl) (by kernel_rfl) (by kernel_rfl) (by kernel_rfl)) ?_
  intro W base args ds gs before hval hW hcnd _
  refine law_calls (P := Try.prog) (pts := [23, 24, 24, 3]) (tb := 4) [.rd tSSt, .rd [.int .i64], .rd [.int .i64], .c (.int .i64)] (by kernel_rfl) (by kernel_rfl) Try.laidOut (by kernel_rfl) (by kernel_rfl) (by kernel_rfl) rfl ?_ senx_law W base args ds gs before hval hW
  intro ds hds
  match ds, hds with
  | [d0, d1, d2, d3], _ => exact ⟨rfl, rfl, rfl⟩
theorem slotEntries_holds : Rows.SlotEntriesSaid :=
  OpenClaim.holds_of_wide 11 Try.f11 rfl rfl rfl rfl rfl rfl rfl ⟨rfl, rfl, rfl, rfl, rfl⟩ rfl rfl rfl rfl rfl (by kernel_rfl) Try.func11 (by kernel_rfl)
    (of_decide_eq_true (by kernel_rfl)) (by unfold Func.isWrapper; first | (rw [if_pos (by decide +kernel)]; kernel_rfl) | (rw [if_neg (by decide +kernel)]; exact ⟨rfl, rfl⟩))
    (fun os started H enc _ => slotEntries_lifted os started H enc)
end Go.Proofs.Ytjlcdgjcbienbaa
namespace Go.AL
open Go.Proofs
set_option linter.unusedVariables false
set_option linter.unusedSimpArgs false
end Go.AL
