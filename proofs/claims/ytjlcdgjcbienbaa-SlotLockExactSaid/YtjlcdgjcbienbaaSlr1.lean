/-
  SlotReserveExact, SlotPutExact and SlotLockExact return true at every input and leave their arguments as they were; no condition. By an AI agent.
-/
import Derived.Test.YtjlcdgjcbienbaaSl1
import Derived.Test.YtjlcdgjcbienbaaSlb
namespace Go.AL
open Go.Proofs
set_option linter.unusedVariables false
set_option linter.unusedSimpArgs false
theorem rexl_law : ∀ a : ArgT [.rd tSSl, .rd [.int .i64], .c (.int .i64)], ArgsW [.rd tSSl, .rd [.int .i64], .c (.int .i64)] a → ∀ vs, ArgsV [.rd tSSl, .rd [.int .i64], .c (.int .i64)] a vs → FnP Try.prog 4 vs (RessV [.v .bool] (true : Bool)) :=
  fun a hw vs hv => (rexl_true a).elim fun f h => fnX_ok (C := C_rexl) (Lt := Lt_rexl) (fn := Try.f4) (rs := [.tmp 6]) [.rd tSSl, .rd [.int .i64], .c (.int .i64)] [.v (.bool)] mixed es_rexl Try.func4 rfl rfl rfl (by kernel_rfl) (by kernel_rfl) f h vs hv
end Go.AL
namespace Go.Proofs.Ytjlcdgjcbienbaa
open Go.ChangeShapes Go.WideShapes Go.ChangeAt Go.RowKit Go.AL
set_option maxRecDepth 100000 in
theorem slotReserveExact_lifted (os : Os) (started : os.Started) (H : Type) (enc : TypeId × Value → H) :
    ReturnsInHanded {} Try.checked os 4 .any (Rows.slotReserveExactSpec.pre6 enc Try.prog Try.f4 Rows.slotReserveExactRow.domain false) (Rows.slotReserveExactSpec.post enc Try.prog Try.f4 false true false false) := by
  refine returnsInHanded_of_change (C := Try.checked) Try.own started (by kernel_rfl) Try.func4
    (ChangeSpec.witness6 (enc := enc) (C := Try.checked) false ⟨#[], #[.slice none 0 0, .slice none 0 0, .int .i64 0], []⟩ 8 (by kernel_rfl) (by kernel_rfl) (by kernel_rfl) (by kernel_rfl)) ?_
  intro W base args ds gs before hval hW hcnd _
  refine law_calls (P := Try.prog) (pts := [22, 24, 3]) (tb := 4) [.rd tSSl, .rd [.int .i64], .c (.int .i64)] (by kernel_rfl) (by kernel_rfl) Try.laidOut (by kernel_rfl) (by kernel_rfl) (by kernel_rfl) rfl ?_ rexl_law W base args ds gs before hval hW
  intro ds hds
  match ds, hds with
  | [d0, d1, d2], _ => exact ⟨rfl, rfl, rfl⟩
theorem slotReserveExact_holds : Rows.SlotReserveExactSaid :=
  OpenClaim.holds_of_wide 4 Try.f4 rfl rfl rfl rfl rfl rfl rfl ⟨rfl, rfl, rfl, rfl, rfl⟩ rfl rfl rfl rfl rfl (by kernel_rfl) Try.func4 (by kernel_rfl)
    (of_decide_eq_true (by kernel_rfl)) (by unfold Func.isWrapper; first | (rw [if_pos (by decide +kernel)]; kernel_rfl) | (rw [if_neg (by decide +kernel)]; exact ⟨rfl, rfl⟩))
    (fun os started H enc _ => slotReserveExact_lifted os started H enc)
end Go.Proofs.Ytjlcdgjcbienbaa
namespace Go.AL
open Go.Proofs
set_option linter.unusedVariables false
set_option linter.unusedSimpArgs false
theorem pexl_law : ∀ a : ArgT [.rd tSSl, .c (.int .i64), .g tSNd], ArgsW [.rd tSSl, .c (.int .i64), .g tSNd] a → ∀ vs, ArgsV [.rd tSSl, .c (.int .i64), .g tSNd] a vs → FnP Try.prog 6 vs (RessV [.v .bool] (true : Bool)) :=
  fun a hw vs hv => (pexl_true a).elim fun f h => fnX_ok (C := C_pexl) (Lt := Lt_pexl) (fn := Try.f6) (rs := [.tmp 6]) [.rd tSSl, .c (.int .i64), .g tSNd] [.v (.bool)] mixed es_pexl Try.func6 rfl rfl rfl (by kernel_rfl) (by kernel_rfl) f h vs hv
end Go.AL
namespace Go.Proofs.Ytjlcdgjcbienbaa
open Go.ChangeShapes Go.WideShapes Go.ChangeAt Go.RowKit Go.AL
set_option maxRecDepth 100000 in
theorem slotPutExact_lifted (os : Os) (started : os.Started) (H : Type) (enc : TypeId × Value → H) :
    ReturnsInHanded {} Try.checked os 6 .any (Rows.slotPutExactSpec.pre6 enc Try.prog Try.f6 Rows.slotPutExactRow.domain false) (Rows.slotPutExactSpec.post enc Try.prog Try.f6 false true false false) := by
  refine returnsInHanded_of_change (C := Try.checked) Try.own started (by kernel_rfl) Try.func6
    (ChangeSpec.witness6 (enc := enc) (C := Try.checked) false ⟨#[], #[.slice none 0 0, .int .i64 0, .agg #[.int .i64 0, .int .i64 0, .int .i64 0, .slice none 0 0, .int .i64 0, .int .i64 0, .int .i64 0, .int .i64 0, .int .i64 0, .int .i64 0, .bool false]], []⟩ 8 (by kernel_rfl) (by kernel_rfl) (by kernel_rfl) (by kernel_rfl)) ?_
  intro W base args ds gs before hval hW hcnd _
  refine law_calls (P := Try.prog) (pts := [22, 3, 31]) (tb := 4) [.rd tSSl, .c (.int .i64), .g tSNd] (by kernel_rfl) (by kernel_rfl) Try.laidOut (by kernel_rfl) (by kernel_rfl) (by kernel_rfl) rfl ?_ pexl_law W base args ds gs before hval hW
  intro ds hds
  match ds, hds with
  | [d0, d1, d2], _ => exact ⟨rfl, rfl, rfl⟩
theorem slotPutExact_holds : Rows.SlotPutExactSaid :=
  OpenClaim.holds_of_wide 6 Try.f6 rfl rfl rfl rfl rfl rfl rfl ⟨rfl, rfl, rfl, rfl, rfl⟩ rfl rfl rfl rfl rfl (by kernel_rfl) Try.func6 (by kernel_rfl)
    (of_decide_eq_true (by kernel_rfl)) (by unfold Func.isWrapper; first | (rw [if_pos (by decide +kernel)]; kernel_rfl) | (rw [if_neg (by decide +kernel)]; exact ⟨rfl, rfl⟩))
    (fun os started H enc _ => slotPutExact_lifted os started H enc)
end Go.Proofs.Ytjlcdgjcbienbaa
namespace Go.AL
open Go.Proofs
set_option linter.unusedVariables false
set_option linter.unusedSimpArgs false
theorem lexl_law : ∀ a : ArgT [.rd tSSl, .rd tSId, .g tSId], ArgsW [.rd tSSl, .rd tSId, .g tSId] a → ∀ vs, ArgsV [.rd tSSl, .rd tSId, .g tSId] a vs → FnP Try.prog 8 vs (RessV [.v .bool] (true : Bool)) :=
  fun a hw vs hv => (lexl_true a).elim fun f h => fnX_ok (C := C_lexl) (Lt := Lt_lexl) (fn := Try.f8) (rs := [.tmp 6]) [.rd tSSl, .rd tSId, .g tSId] [.v (.bool)] mixed es_lexl Try.func8 rfl rfl rfl (by kernel_rfl) (by kernel_rfl) f h vs hv
end Go.AL
namespace Go.Proofs.Ytjlcdgjcbienbaa
open Go.ChangeShapes Go.WideShapes Go.ChangeAt Go.RowKit Go.AL
set_option maxRecDepth 100000 in
theorem slotLockExact_lifted (os : Os) (started : os.Started) (H : Type) (enc : TypeId × Value → H) :
    ReturnsInHanded {} Try.checked os 8 .any (Rows.slotLockExactSpec.pre6 enc Try.prog Try.f8 Rows.slotLockExactRow.domain false) (Rows.slotLockExactSpec.post enc Try.prog Try.f8 false true false false) := by
  refine returnsInHanded_of_change (C := Try.checked) Try.own started (by kernel_rfl) Try.func8
    (ChangeSpec.witness6 (enc := enc) (C := Try.checked) false ⟨#[], #[.slice none 0 0, .slice none 0 0, .agg #[.int .i64 0, .int .i64 0, .int .i64 0]], []⟩ 8 (by kernel_rfl) (by kernel_rfl) (by kernel_rfl) (by kernel_rfl)) ?_
  intro W base args ds gs before hval hW hcnd _
  refine law_calls (P := Try.prog) (pts := [22, 27, 26]) (tb := 4) [.rd tSSl, .rd tSId, .g tSId] (by kernel_rfl) (by kernel_rfl) Try.laidOut (by kernel_rfl) (by kernel_rfl) (by kernel_rfl) rfl ?_ lexl_law W base args ds gs before hval hW
  intro ds hds
  match ds, hds with
  | [d0, d1, d2], _ => exact ⟨rfl, rfl, rfl⟩
theorem slotLockExact_holds : Rows.SlotLockExactSaid :=
  OpenClaim.holds_of_wide 8 Try.f8 rfl rfl rfl rfl rfl rfl rfl ⟨rfl, rfl, rfl, rfl, rfl⟩ rfl rfl rfl rfl rfl (by kernel_rfl) Try.func8 (by kernel_rfl)
    (of_decide_eq_true (by kernel_rfl)) (by unfold Func.isWrapper; first | (rw [if_pos (by decide +kernel)]; kernel_rfl) | (rw [if_neg (by decide +kernel)]; exact ⟨rfl, rfl⟩))
    (fun os started H enc _ => slotLockExact_lifted os started H enc)
end Go.Proofs.Ytjlcdgjcbienbaa
namespace Go.AL
open Go.Proofs
set_option linter.unusedVariables false
set_option linter.unusedSimpArgs false
end Go.AL
