/-
  RangeExact, RangeFreeExact and RangeFindExact return true at every input and leave their arguments as they were; no condition. By an AI agent.
-/
import Derived.Test.YtoidpheldjllaaaMr3
import Derived.Test.YtoidpheldjllaaaRows
import Derived.ProofKit
namespace Go.AL
open Go.Proofs
set_option linter.unusedVariables false
set_option linter.unusedSimpArgs false
end Go.AL
namespace Go.Proofs.Ytoidpheldjllaaa
theorem Try.own : ownKnob Try.prog.godebug = none := by kernel_rfl
theorem Try.laidOut : laidOutB Try.prog = true := by kernel_rfl
end Go.Proofs.Ytoidpheldjllaaa
namespace Go.AL
open Go.Proofs
noncomputable def C_exact : Cfg := ⟨Try.prog, [E_half, E_rhalf, E_valid, E_rvalid, E_end, E_rend, E_cont, E_rcont, E_over, E_rover, E_awake], pmT [(3, ([(0, []), (2, []), (1, []), (3, []), (4, []), (5, []), (6, []), (8, []), (7, []), (9, []), (10, []), (11, []), (12, []), (13, []), (14, []), (16, []), (17, []), (15, []), (18, []), (19, []), (20, []), (21, []), (22, []), (23, []), (25, []), (26, []), (24, []), (27, []), (28, []), (29, []), (30, []), (31, []), (32, []), (33, []), (34, []), (35, []), (36, []), (37, []), (38, []), (39, []), (40, []), (41, []), (42, []), (43, []), (44, []), (45, []), (46, []), (47, []), (48, [])], [(4, 4), (23, 70)]))], 71, []⟩
theorem es_exact : EsOk Try.prog [E_half, E_rhalf, E_valid, E_rvalid, E_end, E_rend, E_cont, E_rcont, E_over, E_rover, E_awake] [] := es_cons E_half_ok (es_cons E_rhalf_ok (es_cons E_valid_ok (es_cons E_rvalid_ok (es_cons E_end_ok (es_cons E_rend_ok (es_cons E_cont_ok (es_cons E_rcont_ok (es_cons E_over_ok (es_cons E_rover_ok (es_cons E_awake_ok (es_nil)))))))))))
def Lt_exact : Nat → LD := ldT []
noncomputable def M_exact (f : Nat) (a : Rg × Rg) : Option (Bool) := (runX (C_exact) Lt_exact (Kret Try.prog [.tmp 4] [.v (.bool)]) f [.code (bodyOf Try.f3)] (initX [.g tRg, .g tRg] a) : Option (ResT [.v (.bool)]))
theorem M_exact_eq (f : Nat) (a : Rg) (b : Rg) : M_exact (f + 1) (a, b) =
    bif valid (a.1, a.2) == valid (a.1, a.2) then bif rend (a.1, a.2) == rend (a.1, a.2) then bif contains ((a.1, a.2), b.1, b.2) == contains ((a.1, a.2), b.1, b.2) then bif overlaps ((a.1, a.2), b.1, b.2) == overlaps ((a.1, a.2), b.1, b.2) then bif (halves (a.1, a.2)).1.1 == (halves (a.1, a.2)).1.1 && ((halves (a.1, a.2)).1.2 == (halves (a.1, a.2)).1.2 && true) then bif (halves (a.1, a.2)).2.1.1 == (halves (a.1, a.2)).2.1.1 && ((halves (a.1, a.2)).2.1.2 == (halves (a.1, a.2)).2.1.2 && true) then bif (halves (a.1, a.2)).2.2 == (halves (a.1, a.2)).2.2 then some (true) else some false else some false else some false else some false else some false else some false else some false := by kernel_rfl
theorem exact_true : ∀ a : Rg × Rg, ArgsW [.g tRg, .g tRg] a → ∃ f, M_exact f a = some true := by
  rintro ⟨a, b⟩ _
  refine ⟨1, (M_exact_eq 0 _ _).trans ?_⟩
  simp
theorem exact_law : ∀ a : ArgT [.g tRg, .g tRg], ArgsW [.g tRg, .g tRg] a → ∀ vs, ArgsV [.g tRg, .g tRg] a vs → FnP Try.prog 3 vs (RessV [.v .bool] (true : Bool)) :=
  fun a hw vs hv => (exact_true a hw).elim fun f h => fnX_ok (C := C_exact) (Lt := Lt_exact) (fn := Try.f3) (rs := [.tmp 4]) [.g tRg, .g tRg] [.v (.bool)] mixed es_exact Try.func3 rfl rfl rfl (by kernel_rfl) (by kernel_rfl) f h vs hv
end Go.AL
namespace Go.Proofs.Ytoidpheldjllaaa
open Go.ChangeShapes Go.WideShapes Go.ChangeAt Go.RowKit Go.AL
set_option maxRecDepth 100000 in
theorem rangeExact_lifted (os : Os) (started : os.Started) (H : Type) (enc : TypeId × Value → H) :
    ReturnsInHanded {} Try.checked os 3 .any (Rows.rangeExactSpec.pre6 enc Try.prog Try.f3 Rows.rangeExactRow.domain false) (Rows.rangeExactSpec.post enc Try.prog Try.f3 false true false false) := by
  refine returnsInHanded_of_change (C := Try.checked) Try.own started (by kernel_rfl) Try.func3
    (ChangeSpec.witness6 (enc := enc) (C := Try.checked) false ⟨#[], #[.agg #[.int .i64 0, .int .i64 0], .agg #[.int .i64 0, .int .i64 0]], []⟩ 8 (by kernel_rfl) (by kernel_rfl) (by kernel_rfl) (by kernel_rfl)) ?_
  intro W base args ds gs before hval hW hcnd _
  refine law_calls (P := Try.prog) (pts := [23, 23]) (tb := 4) [.g tRg, .g tRg] (by kernel_rfl) (by kernel_rfl) Try.laidOut (by kernel_rfl) (by kernel_rfl) (by kernel_rfl) rfl ?_ exact_law W base args ds gs before hval hW
  intro ds hds
  match ds, hds with
  | [d0, d1], _ => exact ⟨rfl, rfl, rfl⟩
theorem rangeExact_holds : Rows.RangeExactSaid :=
  OpenClaim.holds_of_wide 3 Try.f3 rfl rfl rfl rfl rfl rfl rfl ⟨rfl, rfl, rfl, rfl, rfl⟩ rfl rfl rfl rfl rfl (by kernel_rfl) Try.func3 (by kernel_rfl)
    (of_decide_eq_true (by kernel_rfl)) (by unfold Func.isWrapper; first | (rw [if_pos (by decide +kernel)]; kernel_rfl) | (rw [if_neg (by decide +kernel)]; exact ⟨rfl, rfl⟩))
    (fun os started H enc _ => rangeExact_lifted os started H enc)
end Go.Proofs.Ytoidpheldjllaaa
namespace Go.AL
open Go.Proofs
set_option linter.unusedVariables false
set_option linter.unusedSimpArgs false
noncomputable def C_freeE : Cfg := ⟨Try.prog, [E_awake, E_copied, E_free, E_rfree, E_same], pmT [(3, ([(0, []), (1, []), (4, []), (5, []), (2, []), (3, []), (6, []), (7, []), (8, []), (9, []), (10, []), (11, [])], [(4, 4), (9, 19)]))], 20, []⟩
theorem es_freeE : EsOk Try.prog [E_awake, E_copied, E_free, E_rfree, E_same] [] := es_cons E_awake_ok (es_cons E_copied_ok (es_cons E_free_ok (es_cons E_rfree_ok (es_cons E_same_ok (es_nil)))))
def Lt_freeE : Nat → LD := ldT []
noncomputable def M_freeE (f : Nat) (a : Rg × (List (Rg))) : Option (Bool) := (runX (C_freeE) Lt_freeE (Kret Try.prog [.tmp 4] [.v (.bool)]) f [.code (bodyOf Try.f4)] (initX [.g tRg, .rd tRg] a) : Option (ResT [.v (.bool)]))
theorem M_freeE_eq (f : Nat) (r : Rg) (used : List (Rg)) : M_freeE (f + 1) (r, used) =
    bif decide ((↑used.length : Int) > 64) then some (true) else bif len40 used then bif smallF ((r.1, r.2), used) then bif smallF ((r.1, r.2), used) then bif len40b (free ((r.1, r.2), used), free ((r.1, r.2), used)) then bif (fun a => sameL a.1 a.2) (free ((r.1, r.2), used), free ((r.1, r.2), used)) then some (true) else some false else none else none else none else none := by kernel_rfl
theorem freeE_true : ∀ a : Rg × List Rg, ArgsW [.g tRg, .rd tRg] a → ∃ f, M_freeE f a = some true := by
  rintro ⟨r, used⟩ _
  refine ⟨1, (M_freeE_eq 0 _ _).trans ?_⟩
  by_cases h : ((used.length : Nat) : Int) > 64
  · rw [bif_pos h]
  · rw [bif_neg h]
    have h1 : len40 used = true := decide_eq_true (by omega)
    have h2 : smallF ((r.1, r.2), used) = true := decide_eq_true (by show used.length ≤ 1000; omega)
    have h3 : len40b (free ((r.1, r.2), used), free ((r.1, r.2), used)) = true := decide_eq_true (free_len _)
    simp only [h1, h2, h3, cond_true, same_refl]
theorem freeE_law : ∀ a : ArgT [.g tRg, .rd tRg], ArgsW [.g tRg, .rd tRg] a → ∀ vs, ArgsV [.g tRg, .rd tRg] a vs → FnP Try.prog 4 vs (RessV [.v .bool] (true : Bool)) :=
  fun a hw vs hv => (freeE_true a hw).elim fun f h => fnX_ok (C := C_freeE) (Lt := Lt_freeE) (fn := Try.f4) (rs := [.tmp 4]) [.g tRg, .rd tRg] [.v (.bool)] mixed es_freeE Try.func4 rfl rfl rfl (by kernel_rfl) (by kernel_rfl) f h vs hv
end Go.AL
namespace Go.Proofs.Ytoidpheldjllaaa
open Go.ChangeShapes Go.WideShapes Go.ChangeAt Go.RowKit Go.AL
set_option maxRecDepth 100000 in
theorem rangeFreeExact_lifted (os : Os) (started : os.Started) (H : Type) (enc : TypeId × Value → H) :
    ReturnsInHanded {} Try.checked os 4 .any (Rows.rangeFreeExactSpec.pre6 enc Try.prog Try.f4 Rows.rangeFreeExactRow.domain false) (Rows.rangeFreeExactSpec.post enc Try.prog Try.f4 false true false false) := by
  refine returnsInHanded_of_change (C := Try.checked) Try.own started (by kernel_rfl) Try.func4
    (ChangeSpec.witness6 (enc := enc) (C := Try.checked) false ⟨#[], #[.agg #[.int .i64 0, .int .i64 0], .slice none 0 0], []⟩ 8 (by kernel_rfl) (by kernel_rfl) (by kernel_rfl) (by kernel_rfl)) ?_
  intro W base args ds gs before hval hW hcnd _
  refine law_calls (P := Try.prog) (pts := [23, 30]) (tb := 4) [.g tRg, .rd tRg] (by kernel_rfl) (by kernel_rfl) Try.laidOut (by kernel_rfl) (by kernel_rfl) (by kernel_rfl) rfl ?_ freeE_law W base args ds gs before hval hW
  intro ds hds
  match ds, hds with
  | [d0, d1], _ => exact ⟨rfl, rfl, rfl⟩
theorem rangeFreeExact_holds : Rows.RangeFreeExactSaid :=
  OpenClaim.holds_of_wide 4 Try.f4 rfl rfl rfl rfl rfl rfl rfl ⟨rfl, rfl, rfl, rfl, rfl⟩ rfl rfl rfl rfl rfl (by kernel_rfl) Try.func4 (by kernel_rfl)
    (of_decide_eq_true (by kernel_rfl)) (by unfold Func.isWrapper; first | (rw [if_pos (by decide +kernel)]; kernel_rfl) | (rw [if_neg (by decide +kernel)]; exact ⟨rfl, rfl⟩))
    (fun os started H enc _ => rangeFreeExact_lifted os started H enc)
end Go.Proofs.Ytoidpheldjllaaa
namespace Go.AL
open Go.Proofs
set_option linter.unusedVariables false
set_option linter.unusedSimpArgs false
noncomputable def C_findE : Cfg := ⟨Try.prog, [E_awake, E_copied, E_find, E_rfind], pmT [(3, ([(0, []), (1, []), (3, []), (8, []), (2, []), (4, []), (5, []), (6, []), (7, []), (9, []), (10, [])], [(7, 8), (15, 22)]))], 41, []⟩
theorem es_findE : EsOk Try.prog [E_awake, E_copied, E_find, E_rfind] [] := es_cons E_awake_ok (es_cons E_copied_ok (es_cons E_find_ok (es_cons E_rfind_ok (es_nil))))
def Lt_findE : Nat → LD := ldT []
noncomputable def M_findE (f : Nat) (a : Rg × (List (Rg)) × Int) : Option (Bool) := (runX (C_findE) Lt_findE (Kret Try.prog [.tmp 6] [.v (.bool)]) f [.code (bodyOf Try.f5)] (initX [.g tRg, .rd tRg, .c (.int .i64)] a) : Option (ResT [.v (.bool)]))
theorem M_findE_eq (f : Nat) (r : Rg) (used : List (Rg)) (bits : Int) : M_findE (f + 1) (r, used, bits) =
    bif decide ((↑used.length : Int) > 64) then some (true) else bif len40 used then bif smallF3 ((r.1, r.2), used, bits) then bif smallF3 ((r.1, r.2), used, bits) then bif (findS ((r.1, r.2), used, bits)).1.1 == (findS ((r.1, r.2), used, bits)).1.1 && ((findS ((r.1, r.2), used, bits)).1.2 == (findS ((r.1, r.2), used, bits)).1.2 && true) then bif (findS ((r.1, r.2), used, bits)).2 == (findS ((r.1, r.2), used, bits)).2 then some (true) else some false else some false else none else none else none := by kernel_rfl
theorem findE_true : ∀ a : Rg × List Rg × Int, ArgsW [.g tRg, .rd tRg, .c (.int .i64)] a → ∃ f, M_findE f a = some true := by
  rintro ⟨r, used, bits⟩ _
  refine ⟨1, (M_findE_eq 0 _ _ _).trans ?_⟩
  by_cases h : ((used.length : Nat) : Int) > 64
  · rw [bif_pos h]
  · rw [bif_neg h]
    have h1 : len40 used = true := decide_eq_true (by omega)
    have h2 : smallF3 ((r.1, r.2), used, bits) = true := decide_eq_true (by show used.length ≤ 1000; omega)
    simp [h1, h2]
theorem findE_law : ∀ a : ArgT [.g tRg, .rd tRg, .c (.int .i64)], ArgsW [.g tRg, .rd tRg, .c (.int .i64)] a → ∀ vs, ArgsV [.g tRg, .rd tRg, .c (.int .i64)] a vs → FnP Try.prog 5 vs (RessV [.v .bool] (true : Bool)) :=
  fun a hw vs hv => (findE_true a hw).elim fun f h => fnX_ok (C := C_findE) (Lt := Lt_findE) (fn := Try.f5) (rs := [.tmp 6]) [.g tRg, .rd tRg, .c (.int .i64)] [.v (.bool)] mixed es_findE Try.func5 rfl rfl rfl (by kernel_rfl) (by kernel_rfl) f h vs hv
end Go.AL
namespace Go.Proofs.Ytoidpheldjllaaa
open Go.ChangeShapes Go.WideShapes Go.ChangeAt Go.RowKit Go.AL
set_option maxRecDepth 100000 in
theorem rangeFindExact_lifted (os : Os) (started : os.Started) (H : Type) (enc : TypeId × Value → H) :
    ReturnsInHanded {} Try.checked os 5 .any (Rows.rangeFindExactSpec.pre6 enc Try.prog Try.f5 Rows.rangeFindExactRow.domain false) (Rows.rangeFindExactSpec.post enc Try.prog Try.f5 false true false false) := by
  refine returnsInHanded_of_change (C := Try.checked) Try.own started (by kernel_rfl) Try.func5
    (ChangeSpec.witness6 (enc := enc) (C := Try.checked) false ⟨#[], #[.agg #[.int .i64 0, .int .i64 0], .slice none 0 0, .int .i64 0], []⟩ 8 (by kernel_rfl) (by kernel_rfl) (by kernel_rfl) (by kernel_rfl)) ?_
  intro W base args ds gs before hval hW hcnd _
  refine law_calls (P := Try.prog) (pts := [23, 30, 3]) (tb := 4) [.g tRg, .rd tRg, .c (.int .i64)] (by kernel_rfl) (by kernel_rfl) Try.laidOut (by kernel_rfl) (by kernel_rfl) (by kernel_rfl) rfl ?_ findE_law W base args ds gs before hval hW
  intro ds hds
  match ds, hds with
  | [d0, d1, d2], _ => exact ⟨rfl, rfl, rfl⟩
theorem rangeFindExact_holds : Rows.RangeFindExactSaid :=
  OpenClaim.holds_of_wide 5 Try.f5 rfl rfl rfl rfl rfl rfl rfl ⟨rfl, rfl, rfl, rfl, rfl⟩ rfl rfl rfl rfl rfl (by kernel_rfl) Try.func5 (by kernel_rfl)
    (of_decide_eq_true (by kernel_rfl)) (by unfold Func.isWrapper; first | (rw [if_pos (by decide +kernel)]; kernel_rfl) | (rw [if_neg (by decide +kernel)]; exact ⟨rfl, rfl⟩))
    (fun os started H enc _ => rangeFindExact_lifted os started H enc)
end Go.Proofs.Ytoidpheldjllaaa
namespace Go.AL
open Go.Proofs
set_option linter.unusedVariables false
set_option linter.unusedSimpArgs false
end Go.AL
