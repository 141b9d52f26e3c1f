/-
  RangeCoveredExact, RangeHalves, RangePartition and RangeCovered return true at every input and leave their arguments as they were; no condition. By an AI agent.
-/
import Derived.Test.YtoidpheldjllaaaMrt
import Derived.Test.YtoidpheldjllaaaMr4
namespace Go.AL
open Go.Proofs
set_option linter.unusedVariables false
set_option linter.unusedSimpArgs false
noncomputable def C_cex : Cfg := ⟨Try.prog, [E_awake, E_copied, E_covp, E_rcov], pmT [], 16, []⟩
theorem es_cex : EsOk Try.prog [E_awake, E_copied, E_covp, E_rcov] [] := es_cons E_awake_ok (es_cons E_copied_ok (es_cons E_covp_ok (es_cons E_rcov_ok (es_nil))))
def Lt_cex : Nat → LD := ldT []
noncomputable def M_cex (f : Nat) (a : (List (Rg))) : Option (Bool) := (runX (C_cex) Lt_cex (Kret Try.prog [.tmp 2] [.v (.bool)]) f [.code (bodyOf Try.f11)] (initX [.rd tRg] a) : Option (ResT [.v (.bool)]))
theorem M_cex_eq (f : Nat) (l : List (Rg)) : M_cex (f + 1) l =
    bif decide ((↑l.length : Int) > 64) then some true else bif len40 l then bif lenM l then bif len20 l then bif covS l == rcovS l then some true else some false else none else none else none := by kernel_rfl
noncomputable def F_cex : (List (Rg)) → Bool
  | l => bif decide ((↑l.length : Int) > 64) then true else bif covS l == rcovS l then true else false
noncomputable def P_cex : (List (Rg)) → Bool
  | l => bif decide ((↑l.length : Int) > 64) then true else len40 l && (lenM l && len20 l)
theorem cex_auto : ∀ a : (List (Rg)), Rns (fun f => M_cex f a) (P_cex a) (F_cex a)
  | l => ev_step (fun f => M_cex_eq f _) (ev_bif ev_some (ev_chk (ev_chk (ev_chk1 (ev_bift ev_some ev_some)))))
theorem cex_true : ∀ a : List Rg, ∃ f, M_cex f a = some true := by
  intro l
  have hP : P_cex l = true := by
    show (bif decide ((l.length : Int) > 64) then true else len40 l && (lenM l && len20 l)) = true
    by_cases h : (l.length : Int) > 64
    · rw [decide_eq_true h]; rfl
    · rw [decide_eq_false h, cond_false]
      simp only [len40, lenM, len20, Bool.and_eq_true, decide_eq_true_eq]
      omega
  have hF : F_cex l = true := by
    show (bif decide ((l.length : Int) > 64) then true else bif covS l == rcovS l then true else false) = true
    rw [cov_eq]; simp
  have := cex_auto l hP
  rw [hF] at this; exact this
theorem cex_law : ∀ a : ArgT [.rd tRg], ArgsW [.rd tRg] a → ∀ vs, ArgsV [.rd tRg] a vs → FnP Try.prog 11 vs (RessV [.v .bool] (true : Bool)) :=
  fun a hw vs hv => (cex_true a).elim fun f h => fnX_ok (C := C_cex) (Lt := Lt_cex) (fn := Try.f11) (rs := [.tmp 2]) [.rd tRg] [.v (.bool)] mixed es_cex Try.func11 rfl rfl rfl (by kernel_rfl) (by kernel_rfl) f h vs hv
end Go.AL
namespace Go.Proofs.Ytoidpheldjllaaa
open Go.ChangeShapes Go.WideShapes Go.ChangeAt Go.RowKit Go.AL
set_option maxRecDepth 100000 in
theorem rangeCoveredExact_lifted (os : Os) (started : os.Started) (H : Type) (enc : TypeId × Value → H) :
    ReturnsInHanded {} Try.checked os 11 .any (Rows.rangeCoveredExactSpec.pre6 enc Try.prog Try.f11 Rows.rangeCoveredExactRow.domain false) (Rows.rangeCoveredExactSpec.post enc Try.prog Try.f11 false true false false) := by
  refine returnsInHanded_of_change (C := Try.checked) Try.own started (by kernel_rfl) Try.func11
    (ChangeSpec.witness6 (enc := enc) (C := Try.checked) false ⟨#[], #[.slice none 0 0], []⟩ 8 (by kernel_rfl) (by kernel_rfl) (by kernel_rfl) (by kernel_rfl)) ?_
  intro W base args ds gs before hval hW hcnd _
  refine law_calls (P := Try.prog) (pts := [30]) (tb := 4) [.rd tRg] (by kernel_rfl) (by kernel_rfl) Try.laidOut (by kernel_rfl) (by kernel_rfl) (by kernel_rfl) rfl ?_ cex_law W base args ds gs before hval hW
  intro ds hds
  match ds, hds with
  | [d0], _ => exact ⟨rfl, rfl, rfl⟩
theorem rangeCoveredExact_holds : Rows.RangeCoveredExactSaid :=
  OpenClaim.holds_of_wide 11 Try.f11 rfl rfl rfl rfl rfl rfl rfl ⟨rfl, rfl, rfl, rfl, rfl⟩ rfl rfl rfl rfl rfl (by kernel_rfl) Try.func11 (by kernel_rfl)
    (of_decide_eq_true (by kernel_rfl)) (by unfold Func.isWrapper; first | (rw [if_pos (by decide +kernel)]; kernel_rfl) | (rw [if_neg (by decide +kernel)]; exact ⟨rfl, rfl⟩))
    (fun os started H enc _ => rangeCoveredExact_lifted os started H enc)
end Go.Proofs.Ytoidpheldjllaaa
namespace Go.AL
open Go.Proofs
set_option linter.unusedVariables false
set_option linter.unusedSimpArgs false
noncomputable def C_hal : Cfg := ⟨Try.prog, [E_block, E_half, E_awake, E_end, E_over, E_cont, E_covp], pmT [(5, ([(0, []), (1, []), (2, []), (3, []), (4, []), (5, []), (6, []), (7, []), (8, []), (9, []), (11, []), (12, []), (10, []), (13, []), (14, []), (15, []), (16, []), (18, []), (17, []), (19, []), (20, []), (21, []), (22, []), (23, []), (24, []), (25, []), (26, []), (27, []), (28, []), (29, []), (30, []), (31, []), (32, []), (33, []), (34, []), (35, []), (36, []), (37, []), (38, []), (39, []), (40, []), (41, []), (42, []), (44, []), (45, []), (46, []), (47, []), (43, []), (48, []), (49, []), (50, []), (51, []), (52, []), (53, [])], [(4, 4), (36, 88)]))], 89, []⟩
theorem es_hal : EsOk Try.prog [E_block, E_half, E_awake, E_end, E_over, E_cont, E_covp] [] := es_cons E_block_ok (es_cons E_half_ok (es_cons E_awake_ok (es_cons E_end_ok (es_cons E_over_ok (es_cons E_cont_ok (es_cons E_covp_ok (es_nil)))))))
def Lt_hal : Nat → LD := ldT []
noncomputable def M_hal (f : Nat) (a : Int × Int) : Option (Bool) := (runX (C_hal) Lt_hal (Kret Try.prog [.tmp 4] [.v (.bool)]) f [.code (bodyOf Try.f12)] (initX [.c (.int .i64), .c (.int .i64)] a) : Option (ResT [.v (.bool)]))
theorem M_hal_eq (f : Nat) (base : Int) (bits : Int) : M_hal (f + 1) (base, bits) =
    bif (block (base, bits)).2 == 6 then bif !(halves (block (base, bits))).2.2 then bif (halves (block (base, bits))).1.1 == 0 && ((halves (block (base, bits))).1.2 == 0 && true) then bif (halves (block (base, bits))).2.1.1 == 0 && ((halves (block (base, bits))).2.1.2 == 0 && true) then some true else some false else some false else some false else bif (halves (block (base, bits))).2.2 then bif (halves (block (base, bits))).1.1 == (block (base, bits)).1 then bif rend (halves (block (base, bits))).1 == (halves (block (base, bits))).2.1.1 then bif rend (halves (block (base, bits))).2.1 == rend (block (base, bits)) then bif !overlaps ((halves (block (base, bits))).1, (halves (block (base, bits))).2.1) then bif contains (block (base, bits), (halves (block (base, bits))).1) then bif contains (block (base, bits), (halves (block (base, bits))).2.1) then bif decide (0 ≤ IntKind.u64.wrap (block (base, bits)).2) then bif covS [(halves (block (base, bits))).1, (halves (block (base, bits))).2.1, block (base, bits)] == IntKind.i64.wrap (1 * 2 ^ min (IntKind.u64.wrap (block (base, bits)).2).toNat IntKind.i64.bits) then some true else some false else none else some false else some false else some false else some false else some false else some false else some false := by kernel_rfl
noncomputable def F_hal : (Int × Int) → Bool
  | (base, bits) => bif (block (base, bits)).2 == 6 then bif !(halves (block (base, bits))).2.2 then bif (halves (block (base, bits))).1.1 == 0 && ((halves (block (base, bits))).1.2 == 0 && true) then bif (halves (block (base, bits))).2.1.1 == 0 && ((halves (block (base, bits))).2.1.2 == 0 && true) then true else false else false else false else bif (halves (block (base, bits))).2.2 then bif (halves (block (base, bits))).1.1 == (block (base, bits)).1 then bif rend (halves (block (base, bits))).1 == (halves (block (base, bits))).2.1.1 then bif rend (halves (block (base, bits))).2.1 == rend (block (base, bits)) then bif !overlaps ((halves (block (base, bits))).1, (halves (block (base, bits))).2.1) then bif contains (block (base, bits), (halves (block (base, bits))).1) then bif contains (block (base, bits), (halves (block (base, bits))).2.1) then bif covS [(halves (block (base, bits))).1, (halves (block (base, bits))).2.1, block (base, bits)] == IntKind.i64.wrap (1 * 2 ^ min (IntKind.u64.wrap (block (base, bits)).2).toNat IntKind.i64.bits) then true else false else false else false else false else false else false else false else false
noncomputable def P_hal : (Int × Int) → Bool
  | (base, bits) => bif (block (base, bits)).2 == 6 then true else bif (halves (block (base, bits))).2.2 then bif (halves (block (base, bits))).1.1 == (block (base, bits)).1 then bif rend (halves (block (base, bits))).1 == (halves (block (base, bits))).2.1.1 then bif rend (halves (block (base, bits))).2.1 == rend (block (base, bits)) then bif !overlaps ((halves (block (base, bits))).1, (halves (block (base, bits))).2.1) then bif contains (block (base, bits), (halves (block (base, bits))).1) then bif contains (block (base, bits), (halves (block (base, bits))).2.1) then decide (0 ≤ IntKind.u64.wrap (block (base, bits)).2) else true else true else true else true else true else true else true
theorem hal_auto : ∀ a : Int × Int, Rns (fun f => M_hal f a) (P_hal a) (F_hal a)
  | (base, bits) => ev_step (fun f => M_hal_eq f _ _) (ev_bif (ev_bift (ev_bift (ev_bift ev_some ev_some) ev_some) ev_some) (ev_bif (ev_bif (ev_bif (ev_bif (ev_bif (ev_bif (ev_bif (ev_chk1 (ev_bift ev_some ev_some)) ev_some) ev_some) ev_some) ev_some) ev_some) ev_some) ev_some))
theorem halves_hi {r : Rg} (h : valid r = true) (h7 : 7 ≤ r.2) : halves r = (lowH r, highH r, true) := by
  rw [half_valid h, show (r.2 == 6) = false from by simp; omega]; rfl
theorem hal_true : ∀ a : Int × Int, ∃ f, M_hal f a = some true := by
  rintro ⟨base, bits⟩
  have hr := block_valid (base, bits)
  have e : P_hal (base, bits) = true ∧ F_hal (base, bits) = true := by
    simp only [P_hal, F_hal]
    generalize block (base, bits) = r at hr ⊢
    obtain ⟨v1, v2, v3, v4, v5⟩ := valid_elim hr
    by_cases h6 : r.2 = 6
    · have e6 : (r.2 == 6) = true := by simp [h6]
      have eh : halves r = ((0, 0), (0, 0), false) := by rw [half_valid hr, e6]; rfl
      rw [e6, eh]; exact ⟨rfl, rfl⟩
    · have e6 : (r.2 == 6) = false := by simp [h6]
      have h7 : 7 ≤ r.2 := by omega
      have e2 := p2_pred (k := r.2) (by omega)
      have hp := p2_pos (r.2 - 1)
      have hu : IntKind.u64.wrap r.2 = r.2 := u64_id (by omega) (by omega)
      have hs := sh1 (k := r.2) (by omega) (by omega)
      have hl := low_valid hr h7
      have hh := high_valid hr h7
      have el : rend (lowH r) = r.1 + p2 (r.2 - 1) := by show (bif valid (lowH r) then (lowH r).1 + p2 (lowH r).2 else 0) = _; rw [hl]; rfl
      have eh2 : rend (highH r) = r.1 + p2 r.2 := by show (bif valid (highH r) then (highH r).1 + p2 (highH r).2 else 0) = _; rw [hh]; show r.1 + p2 (r.2 - 1) + p2 (r.2 - 1) = _; omega
      have er : rend r = r.1 + p2 r.2 := by simp [rend, hr]
      have eo : overlaps (lowH r, highH r) = false := by
        cases h : overlaps (lowH r, highH r) with
        | false => rfl
        | true => have := over_elim h; simp only [lowH, highH] at this; omega
      have e1 : (lowH r).1 = r.1 := rfl
      have e3 : (highH r).1 = r.1 + p2 (r.2 - 1) := rfl
      rw [e6, halves_hi hr h7]
      simp only [cond_false, cond_true, e1, e3, el, eh2, er, eo, low_in hr h7, high_in hr h7, hu, hs, covS_halves hr h7, beq_self_eq_true, Bool.not_false, show decide (0 ≤ r.2) = true from decide_eq_true (by omega), and_self]
  have := hal_auto (base, bits) e.1
  rw [e.2] at this; exact this
theorem hal_law : ∀ a : ArgT [.c (.int .i64), .c (.int .i64)], ArgsW [.c (.int .i64), .c (.int .i64)] a → ∀ vs, ArgsV [.c (.int .i64), .c (.int .i64)] a vs → FnP Try.prog 12 vs (RessV [.v .bool] (true : Bool)) :=
  fun a hw vs hv => (hal_true a).elim fun f h => fnX_ok (C := C_hal) (Lt := Lt_hal) (fn := Try.f12) (rs := [.tmp 4]) [.c (.int .i64), .c (.int .i64)] [.v (.bool)] mixed es_hal Try.func12 rfl rfl rfl (by kernel_rfl) (by kernel_rfl) f h vs hv
end Go.AL
namespace Go.Proofs.Ytoidpheldjllaaa
open Go.ChangeShapes Go.WideShapes Go.ChangeAt Go.RowKit Go.AL
set_option maxRecDepth 100000 in
theorem rangeHalves_lifted (os : Os) (started : os.Started) (H : Type) (enc : TypeId × Value → H) :
    ReturnsInHanded {} Try.checked os 12 .any (Rows.rangeHalvesSpec.pre6 enc Try.prog Try.f12 Rows.rangeHalvesRow.domain false) (Rows.rangeHalvesSpec.post enc Try.prog Try.f12 false true false false) := by
  refine returnsInHanded_of_change (C := Try.checked) Try.own started (by kernel_rfl) Try.func12
    (ChangeSpec.witness6 (enc := enc) (C := Try.checked) false ⟨#[], #[.int .i64 0, .int .i64 0], []⟩ 8 (by kernel_rfl) (by kernel_rfl) (by kernel_rfl) (by kernel_rfl)) ?_
  intro W base args ds gs before hval hW hcnd _
  refine law_calls (P := Try.prog) (pts := [3, 3]) (tb := 4) [.c (.int .i64), .c (.int .i64)] (by kernel_rfl) (by kernel_rfl) Try.laidOut (by kernel_rfl) (by kernel_rfl) (by kernel_rfl) rfl ?_ hal_law W base args ds gs before hval hW
  intro ds hds
  match ds, hds with
  | [d0, d1], _ => exact ⟨rfl, rfl, rfl⟩
theorem rangeHalves_holds : Rows.RangeHalvesSaid :=
  OpenClaim.holds_of_wide 12 Try.f12 rfl rfl rfl rfl rfl rfl rfl ⟨rfl, rfl, rfl, rfl, rfl⟩ rfl rfl rfl rfl rfl (by kernel_rfl) Try.func12 (by kernel_rfl)
    (of_decide_eq_true (by kernel_rfl)) (by unfold Func.isWrapper; first | (rw [if_pos (by decide +kernel)]; kernel_rfl) | (rw [if_neg (by decide +kernel)]; exact ⟨rfl, rfl⟩))
    (fun os started H enc _ => rangeHalves_lifted os started H enc)
end Go.Proofs.Ytoidpheldjllaaa
namespace Go.AL
open Go.Proofs
set_option linter.unusedVariables false
set_option linter.unusedSimpArgs false
noncomputable def C_part : Cfg := ⟨Try.prog, [E_small, E_smalls, E_copied, E_free, E_rcont, E_awake, E_rend, E_rover, E_covp], pmT [(3, ([(0, []), (1, []), (2, []), (3, []), (4, [])], [(9, 9), (21, 24)])), (9, ([(0, []), (1, []), (2, []), (3, []), (4, []), (5, []), (6, []), (7, []), (8, []), (9, [])], [(11, 11), (31, 39)])), (10, ([(0, []), (1, []), (2, []), (3, []), (4, []), (5, [])], [(40, 45)])), (18, ([(0, []), (1, []), (2, []), (3, []), (4, []), (5, []), (6, []), (7, []), (8, []), (9, []), (10, []), (11, []), (12, []), (13, []), (14, []), (15, []), (16, []), (17, []), (18, []), (19, []), (20, []), (21, []), (22, []), (23, []), (24, [])], [(66, 90)])), (23, ([(0, []), (1, []), (2, []), (3, []), (4, []), (5, []), (6, []), (7, []), (8, [])], [(97, 105)])), (26, ([(0, []), (1, []), (4, []), (5, []), (6, []), (7, []), (2, []), (3, []), (8, []), (9, []), (10, []), (11, []), (12, [])], [(6, 6), (115, 126)]))], 127, []⟩
theorem es_part : EsOk Try.prog [E_small, E_smalls, E_copied, E_free, E_rcont, E_awake, E_rend, E_rover, E_covp] [] := es_cons E_small_ok (es_cons E_smalls_ok (es_cons E_copied_ok (es_cons E_free_ok (es_cons E_rcont_ok (es_cons E_awake_ok (es_cons E_rend_ok (es_cons E_rover_ok (es_cons E_covp_ok (es_nil)))))))))
def Lt_part : Nat → LD := ldT [(0, ⟨[.box 7 7 23 2 tRg, .list 8 999 23 2 tRg, .list 9 998 23 2 tRg, .list 10 997 23 2 tRg, .c 11 (.bool), .c 12 (.int .i64)], []⟩), (2, ⟨[.box 7 7 23 2 tRg, .list 8 999 23 2 tRg, .list 9 998 23 2 tRg, .list 10 997 23 2 tRg, .c 13 (.int .i64), .c 14 (.int .i64)], []⟩), (4, ⟨[.box 7 7 23 2 tRg, .list 8 999 23 2 tRg, .list 9 998 23 2 tRg, .list 10 997 23 2 tRg, .c 13 (.int .i64), .c 14 (.int .i64), .c 15 (.int .i64)], []⟩)]
noncomputable def M_part (f : Nat) (a : Int × Int × (List (Int))) : Option (Bool) := (runX (C_part) Lt_part (Kret Try.prog [.tmp 6] [.v (.bool)]) f [.code (bodyOf Try.f13)] (initX [.c (.int .i64), .c (.int .i64), .rd [.int .i64]] a) : Option (ResT [.v (.bool)]))
noncomputable def L_part_0 (f : Nat) (x : Rg × (List (Rg)) × (List (Rg)) × (List (Rg)) × Bool × Int) : Option (Bool) := (runX (C_part) Lt_part (Kret Try.prog [.tmp 6] [.v (.bool)]) f (headOf Try.f13 0) ((Lt_part 0).mk' x) : Option (ResT [.v (.bool)]))
noncomputable def L_part_2 (f : Nat) (x : Rg × (List (Rg)) × (List (Rg)) × (List (Rg)) × Int × Int) : Option (Bool) := (runX (C_part) Lt_part (Kret Try.prog [.tmp 6] [.v (.bool)]) f (headOf Try.f13 2) ((Lt_part 2).mk' x) : Option (ResT [.v (.bool)]))
noncomputable def L_part_4 (f : Nat) (x : Rg × (List (Rg)) × (List (Rg)) × (List (Rg)) × Int × Int × Int) : Option (Bool) := (runX (C_part) Lt_part (Kret Try.prog [.tmp 6] [.v (.bool)]) f (headOf Try.f13 4) ((Lt_part 4).mk' x) : Option (ResT [.v (.bool)]))
theorem M_part_eq (f : Nat) (base : Int) (bits : Int) (l : List (Int)) : M_part (f + 1) (base, bits, l) =
    bif len40 (smallsN 40 l) then bif smallF (small (base, bits), smallsN 40 l) then L_part_0 f (small (base, bits), smallsN 40 l, free (small (base, bits), smallsN 40 l), [], false, 0) else none else none := by kernel_rfl
theorem L_part_0_eq (f : Nat) (r : Rg) (used : List (Rg)) (free0 : List (Rg)) (inside : List (Rg)) (whole : Bool) (i : Int) : L_part_0 (f + 1) (r, used, free0, inside, whole, i) =
    bif decide (i < (↑used.length : Int)) then bif whole then bif decide (0 ≤ i) && decide (i < (↑used.length : Int)) then bif contains (r, used.getD i.toNat (0, 0)) then bif decide (0 ≤ i) && decide (i < (↑used.length : Int)) then bif decide ((inside.length + [used.getD i.toNat (0, 0)].length) * 16 ≤ 140737488355328) then L_part_0 f (r, used, free0, inside ++ [used.getD i.toNat (0, 0)], true, IntKind.i64.wrap (i + 1)) else none else none else L_part_0 f (r, used, free0, inside, true, IntKind.i64.wrap (i + 1)) else none else bif decide (0 ≤ i) && decide (i < (↑used.length : Int)) then bif decide (0 ≤ i) && decide (i < (↑used.length : Int)) then bif contains (r, used.getD i.toNat (0, 0)) then bif decide (0 ≤ i) && decide (i < (↑used.length : Int)) then bif decide ((inside.length + [used.getD i.toNat (0, 0)].length) * 16 ≤ 140737488355328) then L_part_0 f (r, used, free0, inside ++ [used.getD i.toNat (0, 0)], contains (used.getD i.toNat (0, 0), r), IntKind.i64.wrap (i + 1)) else none else none else L_part_0 f (r, used, free0, inside, contains (used.getD i.toNat (0, 0), r), IntKind.i64.wrap (i + 1)) else none else none else bif whole then bif (↑free0.length : Int) == 0 then some true else some false else L_part_2 f (r, used, free0, inside, 0, 0) := by kernel_rfl
theorem L_part_2_eq (f : Nat) (r : Rg) (used : List (Rg)) (free0 : List (Rg)) (inside : List (Rg)) (sum : Int) (i : Int) : L_part_2 (f + 1) (r, used, free0, inside, sum, i) =
    bif decide (i < (↑free0.length : Int)) then bif decide (0 ≤ i) && decide (i < (↑free0.length : Int)) then bif !contains (r, free0.getD i.toNat (0, 0)) then some false else bif decide (i > 0) then bif decide (0 ≤ i) && decide (i < (↑free0.length : Int)) then bif decide (0 ≤ IntKind.i64.wrap (i - 1)) && decide (IntKind.i64.wrap (i - 1) < (↑free0.length : Int)) then bif decide ((free0.getD i.toNat (0, 0)).1 < rend (free0.getD (IntKind.i64.wrap (i - 1)).toNat (0, 0))) then some false else L_part_4 f (r, used, free0, inside, sum, i, 0) else none else none else L_part_4 f (r, used, free0, inside, sum, i, 0) else none else bif decide (0 ≤ IntKind.u64.wrap r.2) then bif lenM inside then bif IntKind.i64.wrap (sum + covS inside) == IntKind.i64.wrap (1 * 2 ^ min (IntKind.u64.wrap r.2).toNat IntKind.i64.bits) then some true else some false else none else none := by kernel_rfl
theorem L_part_4_eq (f : Nat) (r : Rg) (used : List (Rg)) (free0 : List (Rg)) (inside : List (Rg)) (sum : Int) (i : Int) (k : Int) : L_part_4 (f + 1) (r, used, free0, inside, sum, i, k) =
    bif decide (k < (↑used.length : Int)) then bif decide (0 ≤ i) && decide (i < (↑free0.length : Int)) then bif decide (0 ≤ k) && decide (k < (↑used.length : Int)) then bif overlaps (free0.getD i.toNat (0, 0), used.getD k.toNat (0, 0)) then some false else L_part_4 f (r, used, free0, inside, sum, i, IntKind.i64.wrap (k + 1)) else none else none else bif decide (0 ≤ i) && decide (i < (↑free0.length : Int)) then bif decide (0 ≤ IntKind.u64.wrap (free0.getD i.toNat (0, 0)).2) then L_part_2 f (r, used, free0, inside, IntKind.i64.wrap (sum + IntKind.i64.wrap (1 * 2 ^ min (IntKind.u64.wrap (free0.getD i.toNat (0, 0)).2).toNat IntKind.i64.bits)), IntKind.i64.wrap (i + 1)) else none else none := by kernel_rfl
noncomputable def F_part_4 (K_2 : (Rg × (List (Rg)) × (List (Rg)) × (List (Rg)) × Int × Nat) → Bool) : List (Rg) → (Rg × (List (Rg)) × (List (Rg)) × (List (Rg)) × Int × Nat × Nat) → Bool
  | [], (r, used, free0, inside, sum, i, k) => K_2 (r, used, free0, inside, IntKind.i64.wrap (sum + IntKind.i64.wrap (1 * 2 ^ min (IntKind.u64.wrap (free0.getD (↑i : Int).toNat (0, 0)).2).toNat IntKind.i64.bits)), i + 1)
  | uu :: rest, (r, used, free0, inside, sum, i, k) => bif overlaps (free0.getD (↑i : Int).toNat (0, 0), uu) then false else F_part_4 K_2 rest (r, used, free0, inside, sum, i, k + 1)
noncomputable def P_part_4 (KP_2 : (Rg × (List (Rg)) × (List (Rg)) × (List (Rg)) × Int × Nat) → Bool) : List (Rg) → (Rg × (List (Rg)) × (List (Rg)) × (List (Rg)) × Int × Nat × Nat) → Bool
  | [], (r, used, free0, inside, sum, i, k) => decide (0 ≤ IntKind.u64.wrap (free0.getD (↑i : Int).toNat (0, 0)).2) && KP_2 (r, used, free0, inside, IntKind.i64.wrap (sum + IntKind.i64.wrap (1 * 2 ^ min (IntKind.u64.wrap (free0.getD (↑i : Int).toNat (0, 0)).2).toNat IntKind.i64.bits)), i + 1)
  | uu :: rest, (r, used, free0, inside, sum, i, k) => bif overlaps (free0.getD (↑i : Int).toNat (0, 0), uu) then true else P_part_4 KP_2 rest (r, used, free0, inside, sum, i, k + 1)
theorem A_part_4 {K_2 : (Rg × (List (Rg)) × (List (Rg)) × (List (Rg)) × Int × Nat) → Bool} {KP_2 : (Rg × (List (Rg)) × (List (Rg)) × (List (Rg)) × Int × Nat) → Bool} {rest_2 : List (Rg)} (hK_2 : ∀ (r : Rg) (used : List (Rg)) (free0 : List (Rg)) (inside : List (Rg)) (sum : Int) (i : Nat) (hd : free0.drop i = rest_2) (hl : free0.length ≤ 1099511627776), Rns (fun f => L_part_2 f (r, used, free0, inside, sum, ((i : Nat) : Int))) (KP_2 (r, used, free0, inside, sum, i)) (K_2 (r, used, free0, inside, sum, i))) : ∀ (rest : List (Rg)) (r : Rg) (used : List (Rg)) (free0 : List (Rg)) (inside : List (Rg)) (sum : Int) (i : Nat) (k : Nat) (hd : used.drop k = rest) (hl : used.length ≤ 1099511627776) (hd_2 : free0.drop (i + 1) = rest_2) (hl_2 : free0.length ≤ 1099511627776) (ht_2 : i < free0.length), Rns (fun f => L_part_4 f (r, used, free0, inside, sum, ((i : Nat) : Int), ((k : Nat) : Int))) (P_part_4 KP_2 rest (r, used, free0, inside, sum, i, k)) (F_part_4 K_2 rest (r, used, free0, inside, sum, i, k))
  | [], r, used, free0, inside, sum, i, k, hd, hl, hd_2, hl_2, ht_2 => ev_step (T := fun f => bif decide (0 ≤ IntKind.u64.wrap (free0.getD (↑i : Int).toNat (0, 0)).2) then L_part_2 f (r, used, free0, inside, IntKind.i64.wrap (sum + IntKind.i64.wrap (1 * 2 ^ min (IntKind.u64.wrap (free0.getD (↑i : Int).toNat (0, 0)).2).toNat IntKind.i64.bits)), (↑(i + 1) : Int)) else none) (fun f => (L_part_4_eq f _ _ _ _ _ _ _).trans (by simp only [ge_dec (drop_ge hd), ge0, Bool.and_self, Bool.true_and, cond_true, cond_false, List.length_set, wrap_succ ht_2 hl_2, lt_dec ht_2, getD_set ht_2])) (ev_chk (hK_2 _ _ _ _ _ _ (by first | exact hd_2 | exact drop_setS hd_2 | exact drop_setS (drop_setS hd_2)) (by first | exact hl_2 | simpa using hl_2)))
  | uu :: rest, r, used, free0, inside, sum, i, k, hd, hl, hd_2, hl_2, ht_2 => ev_step (T := fun f => bif overlaps (free0.getD (↑i : Int).toNat (0, 0), uu) then some false else L_part_4 f (r, used, free0, inside, sum, (↑i : Int), (↑(k + 1) : Int))) (fun f => (L_part_4_eq f _ _ _ _ _ _ _).trans (by simp only [lt_dec (drop_lt hd), drop_get hd, wrap_succ (drop_lt hd) hl, getD_set (drop_lt hd), ge0, Bool.and_self, Bool.true_and, cond_true, cond_false, List.length_set, wrap_succ ht_2 hl_2, lt_dec ht_2, getD_set ht_2])) (ev_bif ev_some (A_part_4 hK_2 rest _ _ _ _ _ _ _ (by first | exact drop_succ hd | exact drop_set hd | exact drop_setS (drop_set hd)) (by first | exact hl | simpa using hl) (by first | exact hd_2 | exact drop_setS hd_2 | exact drop_setS (drop_setS hd_2)) (by first | exact hl_2 | simpa using hl_2) (by first | exact ht_2 | simpa using ht_2)))
noncomputable def F_part_2 : List (Rg) → (Rg × (List (Rg)) × (List (Rg)) × (List (Rg)) × Int × Nat) → Bool
  | [], (r, used, free0, inside, sum, i) => bif IntKind.i64.wrap (sum + covS inside) == IntKind.i64.wrap (1 * 2 ^ min (IntKind.u64.wrap r.2).toNat IntKind.i64.bits) then true else false
  | uu :: rest, (r, used, free0, inside, sum, i) => bif !contains (r, uu) then false else bif decide ((↑i : Int) > 0) then bif decide (uu.1 < rend (free0.getD (IntKind.i64.wrap ((↑i : Int) - 1)).toNat (0, 0))) then false else F_part_4 (F_part_2 rest) used (r, used, free0, inside, sum, i, 0) else F_part_4 (F_part_2 rest) used (r, used, free0, inside, sum, i, 0)
noncomputable def P_part_2 : List (Rg) → (Rg × (List (Rg)) × (List (Rg)) × (List (Rg)) × Int × Nat) → Bool
  | [], (r, used, free0, inside, sum, i) => decide (0 ≤ IntKind.u64.wrap r.2) && lenM inside
  | uu :: rest, (r, used, free0, inside, sum, i) => bif !contains (r, uu) then true else bif decide ((↑i : Int) > 0) then decide (0 ≤ IntKind.i64.wrap ((↑i : Int) - 1)) && decide (IntKind.i64.wrap ((↑i : Int) - 1) < (↑free0.length : Int)) && bif decide (uu.1 < rend (free0.getD (IntKind.i64.wrap ((↑i : Int) - 1)).toNat (0, 0))) then true else decide (used.length ≤ 1099511627776) && P_part_4 (P_part_2 rest) used (r, used, free0, inside, sum, i, 0) else decide (used.length ≤ 1099511627776) && P_part_4 (P_part_2 rest) used (r, used, free0, inside, sum, i, 0)
theorem A_part_2 : ∀ (rest : List (Rg)) (r : Rg) (used : List (Rg)) (free0 : List (Rg)) (inside : List (Rg)) (sum : Int) (i : Nat) (hd : free0.drop i = rest) (hl : free0.length ≤ 1099511627776), Rns (fun f => L_part_2 f (r, used, free0, inside, sum, ((i : Nat) : Int))) (P_part_2 rest (r, used, free0, inside, sum, i)) (F_part_2 rest (r, used, free0, inside, sum, i))
  | [], r, used, free0, inside, sum, i, hd, hl => ev_step (T := fun f => bif decide (0 ≤ IntKind.u64.wrap r.2) then bif lenM inside then bif IntKind.i64.wrap (sum + covS inside) == IntKind.i64.wrap (1 * 2 ^ min (IntKind.u64.wrap r.2).toNat IntKind.i64.bits) then some true else some false else none else none) (fun f => (L_part_2_eq f _ _ _ _ _ _).trans (by simp only [ge_dec (drop_ge hd), ge0, Bool.and_self, Bool.true_and, cond_true, cond_false, List.length_set])) (ev_chk (ev_chk1 (ev_bift ev_some ev_some)))
  | uu :: rest, r, used, free0, inside, sum, i, hd, hl => ev_step (T := fun f => bif !contains (r, uu) then some false else bif decide ((↑i : Int) > 0) then bif decide (0 ≤ IntKind.i64.wrap ((↑i : Int) - 1)) && decide (IntKind.i64.wrap ((↑i : Int) - 1) < (↑free0.length : Int)) then bif decide (uu.1 < rend (free0.getD (IntKind.i64.wrap ((↑i : Int) - 1)).toNat (0, 0))) then some false else L_part_4 f (r, used, free0, inside, sum, (↑i : Int), 0) else none else L_part_4 f (r, used, free0, inside, sum, (↑i : Int), 0)) (fun f => (L_part_2_eq f _ _ _ _ _ _).trans (by simp only [lt_dec (drop_lt hd), drop_get hd, wrap_succ (drop_lt hd) hl, getD_set (drop_lt hd), ge0, Bool.and_self, Bool.true_and, cond_true, cond_false, List.length_set])) (ev_bif ev_some (ev_bif (ev_chk (ev_bif ev_some (ev_and fun hh => A_part_4 (A_part_2 rest) _ _ _ _ _ _ _ _ rfl (of_decide_eq_true hh) (by first | exact drop_succ hd | exact drop_set hd | exact drop_setS (drop_set hd)) (by first | exact hl | simpa using hl) (by first | exact drop_lt hd | simpa using drop_lt hd)))) (ev_and fun hh => A_part_4 (A_part_2 rest) _ _ _ _ _ _ _ _ rfl (of_decide_eq_true hh) (by first | exact drop_succ hd | exact drop_set hd | exact drop_setS (drop_set hd)) (by first | exact hl | simpa using hl) (by first | exact drop_lt hd | simpa using drop_lt hd))))
noncomputable def F_part_0 : List (Rg) → (Rg × (List (Rg)) × (List (Rg)) × (List (Rg)) × Bool × Nat) → Bool
  | [], (r, used, free0, inside, whole, i) => bif whole then bif (↑free0.length : Int) == 0 then true else false else F_part_2 free0 (r, used, free0, inside, 0, 0)
  | uu :: rest, (r, used, free0, inside, whole, i) => bif whole then bif contains (r, uu) then F_part_0 rest (r, used, free0, inside ++ [uu], true, i + 1) else F_part_0 rest (r, used, free0, inside, true, i + 1) else bif contains (r, uu) then F_part_0 rest (r, used, free0, inside ++ [uu], contains (uu, r), i + 1) else F_part_0 rest (r, used, free0, inside, contains (uu, r), i + 1)
noncomputable def P_part_0 : List (Rg) → (Rg × (List (Rg)) × (List (Rg)) × (List (Rg)) × Bool × Nat) → Bool
  | [], (r, used, free0, inside, whole, i) => bif whole then true else decide (free0.length ≤ 1099511627776) && P_part_2 free0 (r, used, free0, inside, 0, 0)
  | uu :: rest, (r, used, free0, inside, whole, i) => bif whole then bif contains (r, uu) then decide ((inside.length + [uu].length) * 16 ≤ 140737488355328) && P_part_0 rest (r, used, free0, inside ++ [uu], true, i + 1) else P_part_0 rest (r, used, free0, inside, true, i + 1) else bif contains (r, uu) then decide ((inside.length + [uu].length) * 16 ≤ 140737488355328) && P_part_0 rest (r, used, free0, inside ++ [uu], contains (uu, r), i + 1) else P_part_0 rest (r, used, free0, inside, contains (uu, r), i + 1)
theorem A_part_0 : ∀ (rest : List (Rg)) (r : Rg) (used : List (Rg)) (free0 : List (Rg)) (inside : List (Rg)) (whole : Bool) (i : Nat) (hd : used.drop i = rest) (hl : used.length ≤ 1099511627776), Rns (fun f => L_part_0 f (r, used, free0, inside, whole, ((i : Nat) : Int))) (P_part_0 rest (r, used, free0, inside, whole, i)) (F_part_0 rest (r, used, free0, inside, whole, i))
  | [], r, used, free0, inside, whole, i, hd, hl => ev_step (T := fun f => bif whole then bif (↑free0.length : Int) == 0 then some true else some false else L_part_2 f (r, used, free0, inside, 0, 0)) (fun f => (L_part_0_eq f _ _ _ _ _ _).trans (by simp only [ge_dec (drop_ge hd), ge0, Bool.and_self, Bool.true_and, cond_true, cond_false, List.length_set])) (ev_bif (ev_bift ev_some ev_some) (ev_and fun hh => A_part_2 _ _ _ _ _ _ _ rfl (of_decide_eq_true hh)))
  | uu :: rest, r, used, free0, inside, whole, i, hd, hl => ev_step (T := fun f => bif whole then bif contains (r, uu) then bif decide ((inside.length + [uu].length) * 16 ≤ 140737488355328) then L_part_0 f (r, used, free0, inside ++ [uu], true, (↑(i + 1) : Int)) else none else L_part_0 f (r, used, free0, inside, true, (↑(i + 1) : Int)) else bif contains (r, uu) then bif decide ((inside.length + [uu].length) * 16 ≤ 140737488355328) then L_part_0 f (r, used, free0, inside ++ [uu], contains (uu, r), (↑(i + 1) : Int)) else none else L_part_0 f (r, used, free0, inside, contains (uu, r), (↑(i + 1) : Int))) (fun f => (L_part_0_eq f _ _ _ _ _ _).trans (by simp only [lt_dec (drop_lt hd), drop_get hd, wrap_succ (drop_lt hd) hl, getD_set (drop_lt hd), ge0, Bool.and_self, Bool.true_and, cond_true, cond_false, List.length_set])) (ev_bif (ev_bif (ev_chk (A_part_0 rest _ _ _ _ _ _ (by first | exact drop_succ hd | exact drop_set hd | exact drop_setS (drop_set hd)) (by first | exact hl | simpa using hl))) (A_part_0 rest _ _ _ _ _ _ (by first | exact drop_succ hd | exact drop_set hd | exact drop_setS (drop_set hd)) (by first | exact hl | simpa using hl))) (ev_bif (ev_chk (A_part_0 rest _ _ _ _ _ _ (by first | exact drop_succ hd | exact drop_set hd | exact drop_setS (drop_set hd)) (by first | exact hl | simpa using hl))) (A_part_0 rest _ _ _ _ _ _ (by first | exact drop_succ hd | exact drop_set hd | exact drop_setS (drop_set hd)) (by first | exact hl | simpa using hl))))
noncomputable def F_part : (Int × Int × (List (Int))) → Bool
  | (base, bits, l) => F_part_0 (smallsN 40 l) (small (base, bits), smallsN 40 l, free (small (base, bits), smallsN 40 l), [], false, 0)
noncomputable def P_part : (Int × Int × (List (Int))) → Bool
  | (base, bits, l) => len40 (smallsN 40 l) && (smallF (small (base, bits), smallsN 40 l) && (decide ((smallsN 40 l).length ≤ 1099511627776) && P_part_0 (smallsN 40 l) (small (base, bits), smallsN 40 l, free (small (base, bits), smallsN 40 l), [], false, 0)))
theorem part_auto : ∀ a : Int × Int × (List (Int)), Rns (fun f => M_part f a) (P_part a) (F_part a)
  | (base, bits, l) => ev_step (fun f => M_part_eq f _ _ _) (ev_chk (ev_chk (ev_and fun hh => A_part_0 _ _ _ _ _ _ _ rfl (of_decide_eq_true hh))))
theorem part_4 {K2 : (Rg × List Rg × List Rg × List Rg × Int × Nat) → Bool} (r : Rg) (used free0 inside : List Rg) (sum : Int) (i : Nat) (f : Rg) (hf : free0.getD i (0, 0) = f) (hv : valid f = true) : ∀ (rest : List Rg) (k : Nat), (∀ x ∈ rest, overlaps (f, x) = false) →
    K2 (r, used, free0, inside, IntKind.i64.wrap (sum + p2 f.2), i + 1) = true → P_part_4 K2 rest (r, used, free0, inside, sum, i, k) = true ∧ F_part_4 K2 rest (r, used, free0, inside, sum, i, k) = true
  | [], k, h, hK => by
    obtain ⟨v1, v2, v3, v4, v5⟩ := valid_elim hv
    have hu : IntKind.u64.wrap f.2 = f.2 := u64_id (by omega) (by omega)
    have hs := sh1 (k := f.2) (by omega) (by omega)
    have hg : free0.getD (Int.toNat ((i : Nat) : Int)) (0, 0) = f := by simpa using hf
    simp only [P_part_4, F_part_4, hg, hu, hs, hK, show decide (0 ≤ f.2) = true from decide_eq_true (by omega), Bool.and_self, and_self]
  | x :: rest, k, h, hK => by
    have ih := part_4 r used free0 inside sum i f hf hv rest (k + 1) (fun y hy => h y (List.mem_cons_of_mem _ hy)) hK
    have hg : free0.getD (Int.toNat ((i : Nat) : Int)) (0, 0) = f := by simpa using hf
    simp only [P_part_4, F_part_4, hg, h x List.mem_cons_self, cond_false]
    exact ih
theorem part_2 (r : Rg) (hr : valid r = true) (used inside : List Rg) (hu : used.length ≤ 1000) (hi : inside.length ≤ 1000) (h16 : r.2 ≤ 16) :
    ∀ (rest pre : List Rg), (∀ f ∈ pre ++ rest, contains (r, f) = true ∧ ∀ x ∈ used, overlaps (f, x) = false) → (pre ++ rest).Pairwise Asc → sumF (pre ++ rest) ≤ p2 r.2 → (pre ++ rest).length ≤ 1099511627776 → 0 ≤ sumF rest → 0 ≤ sumF pre →
      sumF (pre ++ rest) + covS inside = p2 r.2 →
      P_part_2 rest (r, used, pre ++ rest, inside, sumF pre, pre.length) = true ∧ F_part_2 rest (r, used, pre ++ rest, inside, sumF pre, pre.length) = true
  | [], pre, hf, hp, hs, hl, h0, h1, he => by
    obtain ⟨v1, v2, v3, v4, v5⟩ := valid_elim hr
    rw [List.append_nil] at he hs
    have h6 := p2_le40 (k := r.2) (by omega)
    have huw : IntKind.u64.wrap r.2 = r.2 := u64_id (by omega) (by omega)
    have hsh := sh1 (k := r.2) (by omega) (by omega)
    have hw : IntKind.i64.wrap (sumF pre + covS inside) = p2 r.2 := by rw [i64_id (by omega) (by omega), he]
    simp only [P_part_2, F_part_2, huw, hsh, hw, lenM, beq_self_eq_true, cond_true, show decide (0 ≤ r.2) = true from decide_eq_true (by omega), Bool.true_and, decide_eq_true_eq, and_true]
    omega
  | f :: rest, pre, hf, hp, hs, hl, h0, h1, he => by
    obtain ⟨hc, hx⟩ := hf f (by simp)
    have hfv := (cont_elim hc).2.1
    obtain ⟨v1, v2, v3, v4, v5⟩ := valid_elim hfv
    have hpf := p2_pos f.2
    have h40 := p2_le40 (k := r.2) (by omega)
    simp only [sumF_app, sumF] at hs he h0
    have hr0 : 0 ≤ sumF rest := by
      clear hs he h0 hp hl hf
      induction rest with
      | nil => simp [sumF]
      | cons y t ih => have := p2_pos y.2; simp only [sumF]; omega
    have e0 : sumF (pre ++ [f]) = sumF pre + p2 f.2 := by rw [sumF_app]; simp [sumF]
    have ih := part_2 r hr used inside hu hi h16 rest (pre ++ [f]) (by simpa using hf) (by simpa using hp) (by rw [sumF_app, e0]; omega) (by simpa using hl) hr0 (by rw [e0]; omega) (by rw [sumF_app, e0]; omega)
    rw [show pre ++ [f] ++ rest = pre ++ f :: rest by simp, e0, show (pre ++ [f]).length = pre.length + 1 by simp] at ih
    have hw : IntKind.i64.wrap (sumF pre + p2 f.2) = sumF pre + p2 f.2 := i64_id (by omega) (by omega)
    have hg : (pre ++ f :: rest).getD pre.length (0, 0) = f := by simp
    have hP := part_4 (K2 := P_part_2 rest) r used (pre ++ f :: rest) inside (sumF pre) pre.length f hg hfv used 0 hx (by rw [hw]; exact ih.1)
    have hF := part_4 (K2 := F_part_2 rest) r used (pre ++ f :: rest) inside (sumF pre) pre.length f hg hfv used 0 hx (by rw [hw]; exact ih.2)
    have hul : decide (used.length ≤ 1099511627776) = true := decide_eq_true (by omega)
    simp only [P_part_2, F_part_2, hc, Bool.not_true, cond_false, hP.1, hF.2, hul, Bool.and_self, Bool.and_true]
    cases hz : decide (((pre.length : Nat) : Int) > 0) with
    | false => exact ⟨rfl, rfl⟩
    | true =>
      have hz := of_decide_eq_true hz
      have hi1 : IntKind.i64.wrap (((pre.length : Nat) : Int) - 1) = ((pre.length - 1 : Nat) : Int) := by
        have := hl; simp at this
        rw [i64_id (by omega) (by omega)]; omega
      obtain ⟨q, y, rfl⟩ : ∃ q y, pre = q ++ [y] := ⟨pre.dropLast, pre.getLast (by intro h; rw [h] at hz; simp at hz), (List.dropLast_concat_getLast _).symm⟩
      have hgy : (q ++ [y] ++ f :: rest).getD (Int.toNat (((q ++ [y]).length - 1 : Nat) : Int)) (0, 0) = y := by simp
      have hasc : Asc y f := (List.pairwise_append.1 hp).2.2 y (by simp) f List.mem_cons_self
      have hyv := (cont_elim (hf y (by simp)).1).2.1
      have hd : decide (f.1 < rend y) = false := decide_eq_false (by unfold Asc at hasc; simp only [rend, hyv, cond_true]; omega)
      rw [hi1, hgy, hd]
      simp only [cond_true, cond_false, Bool.and_true, Bool.and_eq_true, decide_eq_true_eq, and_true]
      simp only [List.length_append, List.length_cons, List.length_nil]
      omega
theorem part_0 (r : Rg) (used fr : List Rg) (hP : ∀ inside w, inside = used.filter (fun x => contains (r, x)) → w = used.any (fun x => contains (x, r)) → w = false → P_part_2 fr (r, used, fr, inside, 0, 0) = true ∧ F_part_2 fr (r, used, fr, inside, 0, 0) = true)
    (hw : used.any (fun x => contains (x, r)) = true → fr = []) (hl : fr.length ≤ 1099511627776) (hu : used.length ≤ 1000) : ∀ (rest pre : List Rg), pre ++ rest = used →
      P_part_0 rest (r, used, fr, pre.filter (fun x => contains (r, x)), pre.any (fun x => contains (x, r)), pre.length) = true ∧ F_part_0 rest (r, used, fr, pre.filter (fun x => contains (r, x)), pre.any (fun x => contains (x, r)), pre.length) = true
  | [], pre, h => by
    rw [List.append_nil] at h
    subst h
    simp only [P_part_0, F_part_0]
    cases hc : pre.any (fun x => contains (x, r)) with
    | true => rw [hw hc]; exact ⟨rfl, rfl⟩
    | false =>
      have := hP _ _ rfl rfl hc
      simp only [cond_false, this.1, this.2, Bool.and_true, decide_eq_true_eq, and_true]
      exact hl
  | x :: rest, pre, h => by
    have ih := part_0 r used fr hP hw hl hu rest (pre ++ [x]) (by simpa using h)
    have hpl : (pre.filter (fun x => contains (r, x))).length ≤ 1000 := by
      have := List.length_filter_le (fun x => contains (r, x)) pre
      have h2 := congrArg List.length h
      simp at h2; omega
    rw [List.filter_append, List.any_append, show (pre ++ [x]).length = pre.length + 1 by simp] at ih
    simp only [List.filter_cons, List.filter_nil, List.any_cons, List.any_nil, Bool.or_false] at ih
    simp only [P_part_0, F_part_0]
    have hs : decide (((pre.filter (fun x => contains (r, x))).length + [x].length) * 16 ≤ 140737488355328) = true := decide_eq_true (by simp only [List.length_singleton]; omega)
    rw [hs, Bool.true_and]
    cases h1 : pre.any (fun x => contains (x, r)) <;> cases h2 : contains (r, x) <;> simp only [h1, h2, Bool.true_or, Bool.false_or, if_true, Bool.false_eq_true, if_false, List.append_nil] at ih <;> exact ih
theorem part_true : ∀ a : Int × Int × List Int, ∃ f, M_part f a = some true := by
  rintro ⟨base, bits, l⟩
  have hr := small_valid (base, bits)
  have h16 := small_bits (base, bits)
  have hu := smalls_len 40 l
  have e : P_part (base, bits, l) = true ∧ F_part (base, bits, l) = true := by
    simp only [P_part, F_part]
    generalize small (base, bits) = r at hr h16 ⊢
    generalize smallsN 40 l = used at hu ⊢
    have hl := free_len (r, used)
    have key := part_0 r used (free (r, used)) (fun inside w hi hw hf => by
        rw [hw] at hf
        have hs := partition hr used hf
        rw [← hi] at hs
        have h0 : ∀ l : List Rg, 0 ≤ sumF l := fun l => by
          induction l with
          | nil => simp [sumF]
          | cons y t ih => have := p2_pos y.2; simp only [sumF]; omega
        have hil : inside.length ≤ 1000 := by rw [hi]; have := List.length_filter_le (fun x => contains (r, x)) used; omega
        exact part_2 r hr used inside (by omega) hil h16 (free (r, used)) [] (fun f hf' => ⟨free_in r hr used f hf', free_apart r hr used f hf'⟩) (free_asc r hr used) (free_sum r hr used).1 hl (h0 _) (by simp [sumF]) hs)
      (fun hw => by rw [free_eq, hr, hw]; rfl) hl (by omega) used [] rfl
    have e1 : len40 used = true := decide_eq_true (by omega)
    have e2 : smallF (r, used) = true := decide_eq_true (by show used.length ≤ 1000; omega)
    have e3 : decide (used.length ≤ 1099511627776) = true := decide_eq_true (by omega)
    rw [e1, e2, e3]
    exact ⟨key.1, key.2⟩
  have := part_auto (base, bits, l) e.1
  rw [e.2] at this; exact this
theorem part_law : ∀ a : ArgT [.c (.int .i64), .c (.int .i64), .rd [.int .i64]], ArgsW [.c (.int .i64), .c (.int .i64), .rd [.int .i64]] a → ∀ vs, ArgsV [.c (.int .i64), .c (.int .i64), .rd [.int .i64]] a vs → FnP Try.prog 13 vs (RessV [.v .bool] (true : Bool)) :=
  fun a hw vs hv => (part_true a).elim fun f h => fnX_ok (C := C_part) (Lt := Lt_part) (fn := Try.f13) (rs := [.tmp 6]) [.c (.int .i64), .c (.int .i64), .rd [.int .i64]] [.v (.bool)] mixed es_part Try.func13 rfl rfl rfl (by kernel_rfl) (by kernel_rfl) f h vs hv
end Go.AL
namespace Go.Proofs.Ytoidpheldjllaaa
open Go.ChangeShapes Go.WideShapes Go.ChangeAt Go.RowKit Go.AL
set_option maxRecDepth 100000 in
theorem rangePartition_lifted (os : Os) (started : os.Started) (H : Type) (enc : TypeId × Value → H) :
    ReturnsInHanded {} Try.checked os 13 .any (Rows.rangePartitionSpec.pre6 enc Try.prog Try.f13 Rows.rangePartitionRow.domain false) (Rows.rangePartitionSpec.post enc Try.prog Try.f13 false true false false) := by
  refine returnsInHanded_of_change (C := Try.checked) Try.own started (by kernel_rfl) Try.func13
    (ChangeSpec.witness6 (enc := enc) (C := Try.checked) false ⟨#[], #[.int .i64 0, .int .i64 0, .slice none 0 0], []⟩ 8 (by kernel_rfl) (by kernel_rfl) (by kernel_rfl) (by kernel_rfl)) ?_
  intro W base args ds gs before hval hW hcnd _
  refine law_calls (P := Try.prog) (pts := [3, 3, 40]) (tb := 4) [.c (.int .i64), .c (.int .i64), .rd [.int .i64]] (by kernel_rfl) (by kernel_rfl) Try.laidOut (by kernel_rfl) (by kernel_rfl) (by kernel_rfl) rfl ?_ part_law W base args ds gs before hval hW
  intro ds hds
  match ds, hds with
  | [d0, d1, d2], _ => exact ⟨rfl, rfl, rfl⟩
theorem rangePartition_holds : Rows.RangePartitionSaid :=
  OpenClaim.holds_of_wide 13 Try.f13 rfl rfl rfl rfl rfl rfl rfl ⟨rfl, rfl, rfl, rfl, rfl⟩ rfl rfl rfl rfl rfl (by kernel_rfl) Try.func13 (by kernel_rfl)
    (of_decide_eq_true (by kernel_rfl)) (by unfold Func.isWrapper; first | (rw [if_pos (by decide +kernel)]; kernel_rfl) | (rw [if_neg (by decide +kernel)]; exact ⟨rfl, rfl⟩))
    (fun os started H enc _ => rangePartition_lifted os started H enc)
end Go.Proofs.Ytoidpheldjllaaa
namespace Go.AL
open Go.Proofs
set_option linter.unusedVariables false
set_option linter.unusedSimpArgs false
noncomputable def C_rcd : Cfg := ⟨Try.prog, [E_smalls, E_small, E_copied, E_covp, E_awake], pmT [(6, ([(0, []), (1, []), (2, []), (3, []), (4, []), (5, []), (6, []), (7, []), (8, []), (9, []), (10, []), (11, [])], [(8, 8), (22, 32)])), (9, ([(0, []), (2, []), (3, []), (1, []), (4, []), (5, []), (6, [])], [(12, 12), (39, 44)]))], 75, []⟩
theorem es_rcd : EsOk Try.prog [E_smalls, E_small, E_copied, E_covp, E_awake] [] := es_cons E_smalls_ok (es_cons E_small_ok (es_cons E_copied_ok (es_cons E_covp_ok (es_cons E_awake_ok (es_nil)))))
def Lt_rcd : Nat → LD := ldT [(0, ⟨[.c 1 (.int .i64), .c 2 (.int .i64), .list 7 999 23 2 tRg, .list 8 998 23 2 tRg, .c 9 (.int .i64)], []⟩)]
noncomputable def M_rcd (f : Nat) (a : (List (Int)) × Int × Int) : Option (Bool) := (runX (C_rcd) Lt_rcd (Kret Try.prog [.tmp 6] [.v (.bool)]) f [.code (bodyOf Try.f14)] (initX [.rd [.int .i64], .c (.int .i64), .c (.int .i64)] a) : Option (ResT [.v (.bool)]))
noncomputable def L_rcd_0 (f : Nat) (x : Int × Int × (List (Rg)) × (List (Rg)) × Int) : Option (Bool) := (runX (C_rcd) Lt_rcd (Kret Try.prog [.tmp 6] [.v (.bool)]) f (headOf Try.f14 0) ((Lt_rcd 0).mk' x) : Option (ResT [.v (.bool)]))
theorem M_rcd_eq (f : Nat) (l : List (Int)) (base : Int) (bits : Int) : M_rcd (f + 1) (l, base, bits) =
    L_rcd_0 f (base, bits, smallsN 40 l, [], IntKind.i64.wrap ((↑(smallsN 40 l).length : Int) - 1)) := by kernel_rfl
theorem L_rcd_0_eq (f : Nat) (base : Int) (bits : Int) (a : List (Rg)) (b : List (Rg)) (i : Int) : L_rcd_0 (f + 1) (base, bits, a, b, i) =
    bif decide (i ≥ 0) then bif decide (0 ≤ i) && decide (i < (↑a.length : Int)) then bif decide (0 ≤ i) && decide (i < (↑a.length : Int)) then bif decide ((b.length + [a.getD i.toNat (0, 0), a.getD i.toNat (0, 0)].length) * 16 ≤ 140737488355328) then L_rcd_0 f (base, bits, a, b ++ [a.getD i.toNat (0, 0), a.getD i.toNat (0, 0)], IntKind.i64.wrap (i - 1)) else none else none else none else bif len40 a then bif lenM a then bif len40 a then bif decide ((a.length + [small (base, bits)].length) * 16 ≤ 140737488355328) then bif lenM (a ++ [small (base, bits)]) then bif lenM b then bif covS b == covS a then bif decide (covS (a ++ [small (base, bits)]) ≥ covS a) then bif decide (0 ≤ IntKind.u64.wrap (small (base, bits)).2) then bif decide (covS (a ++ [small (base, bits)]) ≤ IntKind.i64.wrap (covS a + IntKind.i64.wrap (1 * 2 ^ min (IntKind.u64.wrap (small (base, bits)).2).toNat IntKind.i64.bits))) then bif decide (0 ≤ IntKind.u64.wrap (small (base, bits)).2) then bif decide (covS (a ++ [small (base, bits)]) ≥ IntKind.i64.wrap (1 * 2 ^ min (IntKind.u64.wrap (small (base, bits)).2).toNat IntKind.i64.bits)) then some true else some false else none else some false else none else some false else some false else none else none else none else none else none else none := by kernel_rfl
theorem rcd_end (base bits : Int) (a b : List Rg) (hu : a.length ≤ 40) (hb : b.length ≤ 80) (hm : ∀ r, r ∈ b ↔ r ∈ a) (i : Int) (hi : i < 0) : ∃ f, L_rcd_0 f (base, bits, a, b, i) = some true := by
  refine ⟨1, (L_rcd_0_eq 0 _ _ _ _ _).trans ?_⟩
  have hr := small_valid (base, bits)
  have h16 := small_bits (base, bits)
  generalize small (base, bits) = x at hr h16 ⊢
  obtain ⟨v1, v2, v3, v4, v5⟩ := valid_elim hr
  obtain ⟨c1, c2, c3⟩ := covS_app a hr
  have huw : IntKind.u64.wrap x.2 = x.2 := u64_id (by omega) (by omega)
  have hs := sh1 (k := x.2) (by omega) (by omega)
  have h6 := p2_le40 (k := x.2) (by omega)
  have hp := p2_pos x.2
  have hb0 : 0 ≤ covS a ∧ covS a ≤ 1099511627776 := by
    rw [covS_cn (N := 1099511627776) (by rfl)]
    unfold cn
    have := List.countP_le_length (p := inL a) (l := List.range 1099511627776)
    rw [List.length_range] at this
    omega
  have hw : IntKind.i64.wrap (covS a + p2 x.2) = covS a + p2 x.2 := i64_id (by omega) (by omega)
  rw [show decide (i ≥ 0) = false from decide_eq_false (by omega)]
  rw [show len40 a = true from decide_eq_true (by omega), show lenM a = true from decide_eq_true (by omega), show lenM (a ++ [x]) = true from decide_eq_true (by simp; omega), show lenM b = true from decide_eq_true (by omega), covS_mem hm]
  simp only [cond_false, cond_true, beq_self_eq_true, huw, hs, hw, decide_eq_true c1, decide_eq_true c2, show decide (covS (a ++ [x]) ≥ covS a) = true from decide_eq_true c1, show decide (covS (a ++ [x]) ≥ p2 x.2) = true from decide_eq_true c3, show decide (0 ≤ x.2) = true from decide_eq_true (by omega)]
  rw [bif_pos (by simp only [List.length_singleton]; omega)]
theorem rcd_loop (base bits : Int) (a : List Rg) (hu : a.length ≤ 40) : ∀ (n : Nat) (b : List Rg), n ≤ a.length → b.length + 2 * n ≤ 80 → (∀ r, r ∈ b ↔ r ∈ a.drop n) → ∃ f, L_rcd_0 f (base, bits, a, b, (n : Int) - 1) = some true
  | 0, b, hn, hb, hm => rcd_end base bits a b hu (by omega) (by simpa using hm) _ (by omega)
  | n + 1, b, hn, hb, hm => by
    have hlt : n < a.length := by omega
    have hg : a.getD (Int.toNat (((n + 1 : Nat) : Int) - 1)) (0, 0) = a[n] := by
      rw [show Int.toNat (((n + 1 : Nat) : Int) - 1) = n by omega, List.getD_eq_getElem?_getD, List.getElem?_eq_getElem hlt]; rfl
    obtain ⟨f, hf⟩ := rcd_loop base bits a hu n (b ++ [a[n], a[n]]) (by omega) (by simp; omega) (fun r => by
      rw [List.drop_eq_getElem_cons hlt, List.mem_append, hm r]
      simp only [List.mem_cons, List.not_mem_nil, or_false, or_self]
      exact Or.comm)
    refine ⟨f + 1, (L_rcd_0_eq f _ _ _ _ _).trans ?_⟩
    rw [hg, bif_pos (by omega), show (decide (0 ≤ ((n + 1 : Nat) : Int) - 1) && decide (((n + 1 : Nat) : Int) - 1 < (a.length : Nat))) = true by simp; omega, cond_true, cond_true, bif_pos (by simp only [List.length_cons, List.length_nil]; omega), i64_id (by omega) (by omega), show ((n + 1 : Nat) : Int) - 1 - 1 = (n : Int) - 1 by omega]
    exact hf
theorem rcd_true : ∀ a : List Int × Int × Int, ∃ f, M_rcd f a = some true := by
  rintro ⟨l, base, bits⟩
  have hu := smalls_len 40 l
  obtain ⟨f, hf⟩ := rcd_loop base bits (smallsN 40 l) hu (smallsN 40 l).length [] (Nat.le_refl _) (by simp; omega) (by simp)
  refine ⟨f + 1, (M_rcd_eq f _ _ _).trans ?_⟩
  rw [i64_id (by omega) (by omega)]
  exact hf
theorem rcd_law : ∀ a : ArgT [.rd [.int .i64], .c (.int .i64), .c (.int .i64)], ArgsW [.rd [.int .i64], .c (.int .i64), .c (.int .i64)] a → ∀ vs, ArgsV [.rd [.int .i64], .c (.int .i64), .c (.int .i64)] a vs → FnP Try.prog 14 vs (RessV [.v .bool] (true : Bool)) :=
  fun a hw vs hv => (rcd_true a).elim fun f h => fnX_ok (C := C_rcd) (Lt := Lt_rcd) (fn := Try.f14) (rs := [.tmp 6]) [.rd [.int .i64], .c (.int .i64), .c (.int .i64)] [.v (.bool)] mixed es_rcd Try.func14 rfl rfl rfl (by kernel_rfl) (by kernel_rfl) f h vs hv
end Go.AL
namespace Go.Proofs.Ytoidpheldjllaaa
open Go.ChangeShapes Go.WideShapes Go.ChangeAt Go.RowKit Go.AL
set_option maxRecDepth 100000 in
theorem rangeCovered_lifted (os : Os) (started : os.Started) (H : Type) (enc : TypeId × Value → H) :
    ReturnsInHanded {} Try.checked os 14 .any (Rows.rangeCoveredSpec.pre6 enc Try.prog Try.f14 Rows.rangeCoveredRow.domain false) (Rows.rangeCoveredSpec.post enc Try.prog Try.f14 false true false false) := by
  refine returnsInHanded_of_change (C := Try.checked) Try.own started (by kernel_rfl) Try.func14
    (ChangeSpec.witness6 (enc := enc) (C := Try.checked) false ⟨#[], #[.slice none 0 0, .int .i64 0, .int .i64 0], []⟩ 8 (by kernel_rfl) (by kernel_rfl) (by kernel_rfl) (by kernel_rfl)) ?_
  intro W base args ds gs before hval hW hcnd _
  refine law_calls (P := Try.prog) (pts := [40, 3, 3]) (tb := 4) [.rd [.int .i64], .c (.int .i64), .c (.int .i64)] (by kernel_rfl) (by kernel_rfl) Try.laidOut (by kernel_rfl) (by kernel_rfl) (by kernel_rfl) rfl ?_ rcd_law W base args ds gs before hval hW
  intro ds hds
  match ds, hds with
  | [d0, d1, d2], _ => exact ⟨rfl, rfl, rfl⟩
theorem rangeCovered_holds : Rows.RangeCoveredSaid :=
  OpenClaim.holds_of_wide 14 Try.f14 rfl rfl rfl rfl rfl rfl rfl ⟨rfl, rfl, rfl, rfl, rfl⟩ rfl rfl rfl rfl rfl (by kernel_rfl) Try.func14 (by kernel_rfl)
    (of_decide_eq_true (by kernel_rfl)) (by unfold Func.isWrapper; first | (rw [if_pos (by decide +kernel)]; kernel_rfl) | (rw [if_neg (by decide +kernel)]; exact ⟨rfl, rfl⟩))
    (fun os started H enc _ => rangeCovered_lifted os started H enc)
end Go.Proofs.Ytoidpheldjllaaa
namespace Go.AL
open Go.Proofs
set_option linter.unusedVariables false
set_option linter.unusedSimpArgs false
end Go.AL
