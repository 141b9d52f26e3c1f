/-
  SlotValidExact, SlotReserveRelease, SlotPutTake and SlotLockSweep return true at every input and leave their arguments as they were; no condition. By an AI agent.
-/
import Derived.Test.YtjlcdgjcbienbaaSl2
import Derived.Test.YtjlcdgjcbienbaaSlb
namespace Go.AL
open Go.Proofs
set_option linter.unusedVariables false
set_option linter.unusedSimpArgs false
theorem vexl_law : ∀ a : ArgT [.rd tSSl, .rd tSSt, .rd [.int .i64], .rd [.int .i64], .c (.int .i64), .g tSSl, .g tSId], ArgsW [.rd tSSl, .rd tSSt, .rd [.int .i64], .rd [.int .i64], .c (.int .i64), .g tSSl, .g tSId] a → ∀ vs, ArgsV [.rd tSSl, .rd tSSt, .rd [.int .i64], .rd [.int .i64], .c (.int .i64), .g tSSl, .g tSId] a vs → FnP Try.prog 3 vs (RessV [.v .bool] (true : Bool)) :=
  fun a hw vs hv => (vexl_true a).elim fun f h => fnX_ok (C := C_vexl) (Lt := Lt_vexl) (fn := Try.f3) (rs := [.tmp 14]) [.rd tSSl, .rd tSSt, .rd [.int .i64], .rd [.int .i64], .c (.int .i64), .g tSSl, .g tSId] [.v (.bool)] mixed es_vexl Try.func3 rfl rfl rfl (by kernel_rfl) (by kernel_rfl) f h vs hv
end Go.AL
namespace Go.Proofs.Ytjlcdgjcbienbaa
open Go.ChangeShapes Go.WideShapes Go.ChangeAt Go.RowKit Go.AL
set_option maxRecDepth 100000 in
theorem slotValidExact_lifted (os : Os) (started : os.Started) (H : Type) (enc : TypeId × Value → H) :
    ReturnsInHanded {} Try.checked os 3 .any (Rows.slotValidExactSpec.pre6 enc Try.prog Try.f3 Rows.slotValidExactRow.domain false) (Rows.slotValidExactSpec.post enc Try.prog Try.f3 false true false false) := by
  refine returnsInHanded_of_change (C := Try.checked) Try.own started (by kernel_rfl) Try.func3
    (ChangeSpec.witness6 (enc := enc) (C := Try.checked) false ⟨#[], #[.slice none 0 0, .slice none 0 0, .slice none 0 0, .slice none 0 0, .int .i64 0, .agg #[.int .i64 0, .int .i64 0, .int .i64 0, .slice none 0 0, .int .i64 0, .int .i64 0, .int .i64 0, .int .i64 0, .int .i64 0, .int .i64 0, .bool false, .int .i64 0, .int .i64 0, .int .i64 0, .int .i64 0], .agg #[.int .i64 0, .int .i64 0, .int .i64 0]], []⟩ 8 (by kernel_rfl) (by kernel_rfl) (by kernel_rfl) (by kernel_rfl)) ?_
  intro W base args ds gs before hval hW hcnd _
  refine law_calls (P := Try.prog) (pts := [22, 23, 24, 24, 3, 33, 26]) (tb := 4) [.rd tSSl, .rd tSSt, .rd [.int .i64], .rd [.int .i64], .c (.int .i64), .g tSSl, .g tSId] (by kernel_rfl) (by kernel_rfl) Try.laidOut (by kernel_rfl) (by kernel_rfl) (by kernel_rfl) rfl ?_ vexl_law W base args ds gs before hval hW
  intro ds hds
  match ds, hds with
  | [d0, d1, d2, d3, d4, d5, d6], _ => exact ⟨rfl, rfl, rfl⟩
theorem slotValidExact_holds : Rows.SlotValidExactSaid :=
  OpenClaim.holds_of_wide 3 Try.f3 rfl rfl rfl rfl rfl rfl rfl ⟨rfl, rfl, rfl, rfl, rfl⟩ rfl rfl rfl rfl rfl (by kernel_rfl) Try.func3 (by kernel_rfl)
    (of_decide_eq_true (by kernel_rfl)) (by unfold Func.isWrapper; first | (rw [if_pos (by decide +kernel)]; kernel_rfl) | (rw [if_neg (by decide +kernel)]; exact ⟨rfl, rfl⟩))
    (fun os started H enc _ => slotValidExact_lifted os started H enc)
end Go.Proofs.Ytjlcdgjcbienbaa
namespace Go.AL
open Go.Proofs
set_option linter.unusedVariables false
set_option linter.unusedSimpArgs false
theorem rrll_law : ∀ a : ArgT [.rd tSSt, .rd [.int .i64], .c (.int .i64), .c (.int .i64)], ArgsW [.rd tSSt, .rd [.int .i64], .c (.int .i64), .c (.int .i64)] a → ∀ vs, ArgsV [.rd tSSt, .rd [.int .i64], .c (.int .i64), .c (.int .i64)] a vs → FnP Try.prog 5 vs (RessV [.v .bool] (true : Bool)) :=
  fun a hw vs hv => (rrll_true a).elim fun f h => fnX_ok (C := C_rrll) (Lt := Lt_rrll) (fn := Try.f5) (rs := [.tmp 8]) [.rd tSSt, .rd [.int .i64], .c (.int .i64), .c (.int .i64)] [.v (.bool)] mixed es_rrll Try.func5 rfl rfl rfl (by kernel_rfl) (by kernel_rfl) f h vs hv
end Go.AL
namespace Go.Proofs.Ytjlcdgjcbienbaa
open Go.ChangeShapes Go.WideShapes Go.ChangeAt Go.RowKit Go.AL
set_option maxRecDepth 100000 in
theorem slotReserveRelease_lifted (os : Os) (started : os.Started) (H : Type) (enc : TypeId × Value → H) :
    ReturnsInHanded {} Try.checked os 5 .any (Rows.slotReserveReleaseSpec.pre6 enc Try.prog Try.f5 Rows.slotReserveReleaseRow.domain false) (Rows.slotReserveReleaseSpec.post enc Try.prog Try.f5 false true false false) := by
  refine returnsInHanded_of_change (C := Try.checked) Try.own started (by kernel_rfl) Try.func5
    (ChangeSpec.witness6 (enc := enc) (C := Try.checked) false ⟨#[], #[.slice none 0 0, .slice none 0 0, .int .i64 0, .int .i64 0], []⟩ 8 (by kernel_rfl) (by kernel_rfl) (by kernel_rfl) (by kernel_rfl)) ?_
  intro W base args ds gs before hval hW hcnd _
  refine law_calls (P := Try.prog) (pts := [23, 24, 3, 3]) (tb := 4) [.rd tSSt, .rd [.int .i64], .c (.int .i64), .c (.int .i64)] (by kernel_rfl) (by kernel_rfl) Try.laidOut (by kernel_rfl) (by kernel_rfl) (by kernel_rfl) rfl ?_ rrll_law W base args ds gs before hval hW
  intro ds hds
  match ds, hds with
  | [d0, d1, d2, d3], _ => exact ⟨rfl, rfl, rfl⟩
theorem slotReserveRelease_holds : Rows.SlotReserveReleaseSaid :=
  OpenClaim.holds_of_wide 5 Try.f5 rfl rfl rfl rfl rfl rfl rfl ⟨rfl, rfl, rfl, rfl, rfl⟩ rfl rfl rfl rfl rfl (by kernel_rfl) Try.func5 (by kernel_rfl)
    (of_decide_eq_true (by kernel_rfl)) (by unfold Func.isWrapper; first | (rw [if_pos (by decide +kernel)]; kernel_rfl) | (rw [if_neg (by decide +kernel)]; exact ⟨rfl, rfl⟩))
    (fun os started H enc _ => slotReserveRelease_lifted os started H enc)
end Go.Proofs.Ytjlcdgjcbienbaa
namespace Go.AL
open Go.Proofs
set_option linter.unusedVariables false
set_option linter.unusedSimpArgs false
theorem ptkl_law : ∀ a : ArgT [.rd tSSt, .rd [.int .i64], .c (.int .i64), .c (.int .i64)], ArgsW [.rd tSSt, .rd [.int .i64], .c (.int .i64), .c (.int .i64)] a → ∀ vs, ArgsV [.rd tSSt, .rd [.int .i64], .c (.int .i64), .c (.int .i64)] a vs → FnP Try.prog 7 vs (RessV [.v .bool] (true : Bool)) :=
  fun a hw vs hv => (ptkl_true a).elim fun f h => fnX_ok (C := C_ptkl) (Lt := Lt_ptkl) (fn := Try.f7) (rs := [.tmp 8]) [.rd tSSt, .rd [.int .i64], .c (.int .i64), .c (.int .i64)] [.v (.bool)] mixed es_ptkl Try.func7 rfl rfl rfl (by kernel_rfl) (by kernel_rfl) f h vs hv
end Go.AL
namespace Go.Proofs.Ytjlcdgjcbienbaa
open Go.ChangeShapes Go.WideShapes Go.ChangeAt Go.RowKit Go.AL
set_option maxRecDepth 100000 in
theorem slotPutTake_lifted (os : Os) (started : os.Started) (H : Type) (enc : TypeId × Value → H) :
    ReturnsInHanded {} Try.checked os 7 .any (Rows.slotPutTakeSpec.pre6 enc Try.prog Try.f7 Rows.slotPutTakeRow.domain false) (Rows.slotPutTakeSpec.post enc Try.prog Try.f7 false true false false) := by
  refine returnsInHanded_of_change (C := Try.checked) Try.own started (by kernel_rfl) Try.func7
    (ChangeSpec.witness6 (enc := enc) (C := Try.checked) false ⟨#[], #[.slice none 0 0, .slice none 0 0, .int .i64 0, .int .i64 0], []⟩ 8 (by kernel_rfl) (by kernel_rfl) (by kernel_rfl) (by kernel_rfl)) ?_
  intro W base args ds gs before hval hW hcnd _
  refine law_calls (P := Try.prog) (pts := [23, 24, 3, 3]) (tb := 4) [.rd tSSt, .rd [.int .i64], .c (.int .i64), .c (.int .i64)] (by kernel_rfl) (by kernel_rfl) Try.laidOut (by kernel_rfl) (by kernel_rfl) (by kernel_rfl) rfl ?_ ptkl_law W base args ds gs before hval hW
  intro ds hds
  match ds, hds with
  | [d0, d1, d2, d3], _ => exact ⟨rfl, rfl, rfl⟩
theorem slotPutTake_holds : Rows.SlotPutTakeSaid :=
  OpenClaim.holds_of_wide 7 Try.f7 rfl rfl rfl rfl rfl rfl rfl ⟨rfl, rfl, rfl, rfl, rfl⟩ rfl rfl rfl rfl rfl (by kernel_rfl) Try.func7 (by kernel_rfl)
    (of_decide_eq_true (by kernel_rfl)) (by unfold Func.isWrapper; first | (rw [if_pos (by decide +kernel)]; kernel_rfl) | (rw [if_neg (by decide +kernel)]; exact ⟨rfl, rfl⟩))
    (fun os started H enc _ => slotPutTake_lifted os started H enc)
end Go.Proofs.Ytjlcdgjcbienbaa
namespace Go.AL
open Go.Proofs
set_option linter.unusedVariables false
set_option linter.unusedSimpArgs false
theorem lswl_law : ∀ a : ArgT [.rd tSSt, .rd [.int .i64], .rd [.int .i64]], ArgsW [.rd tSSt, .rd [.int .i64], .rd [.int .i64]] a → ∀ vs, ArgsV [.rd tSSt, .rd [.int .i64], .rd [.int .i64]] a vs → FnP Try.prog 9 vs (RessV [.v .bool] (true : Bool)) :=
  fun a hw vs hv => (lswl_true a).elim fun f h => fnX_ok (C := C_lswl) (Lt := Lt_lswl) (fn := Try.f9) (rs := [.tmp 6]) [.rd tSSt, .rd [.int .i64], .rd [.int .i64]] [.v (.bool)] mixed es_lswl Try.func9 rfl rfl rfl (by kernel_rfl) (by kernel_rfl) f h vs hv
end Go.AL
namespace Go.Proofs.Ytjlcdgjcbienbaa
open Go.ChangeShapes Go.WideShapes Go.ChangeAt Go.RowKit Go.AL
set_option maxRecDepth 100000 in
theorem slotLockSweep_lifted (os : Os) (started : os.Started) (H : Type) (enc : TypeId × Value → H) :
    ReturnsInHanded {} Try.checked os 9 .any (Rows.slotLockSweepSpec.pre6 enc Try.prog Try.f9 Rows.slotLockSweepRow.domain false) (Rows.slotLockSweepSpec.post enc Try.prog Try.f9 false true false false) := by
  refine returnsInHanded_of_change (C := Try.checked) Try.own started (by kernel_rfl) Try.func9
    (ChangeSpec.witness6 (enc := enc) (C := Try.checked) false ⟨#[], #[.slice none 0 0, .slice none 0 0, .slice none 0 0], []⟩ 8 (by kernel_rfl) (by kernel_rfl) (by kernel_rfl) (by kernel_rfl)) ?_
  intro W base args ds gs before hval hW hcnd _
  refine law_calls (P := Try.prog) (pts := [23, 24, 24]) (tb := 4) [.rd tSSt, .rd [.int .i64], .rd [.int .i64]] (by kernel_rfl) (by kernel_rfl) Try.laidOut (by kernel_rfl) (by kernel_rfl) (by kernel_rfl) rfl ?_ lswl_law W base args ds gs before hval hW
  intro ds hds
  match ds, hds with
  | [d0, d1, d2], _ => exact ⟨rfl, rfl, rfl⟩
theorem slotLockSweep_holds : Rows.SlotLockSweepSaid :=
  OpenClaim.holds_of_wide 9 Try.f9 rfl rfl rfl rfl rfl rfl rfl ⟨rfl, rfl, rfl, rfl, rfl⟩ rfl rfl rfl rfl rfl (by kernel_rfl) Try.func9 (by kernel_rfl)
    (of_decide_eq_true (by kernel_rfl)) (by unfold Func.isWrapper; first | (rw [if_pos (by decide +kernel)]; kernel_rfl) | (rw [if_neg (by decide +kernel)]; exact ⟨rfl, rfl⟩))
    (fun os started H enc _ => slotLockSweep_lifted os started H enc)
end Go.Proofs.Ytjlcdgjcbienbaa
namespace Go.AL
open Go.Proofs
set_option linter.unusedVariables false
set_option linter.unusedSimpArgs false
end Go.AL
