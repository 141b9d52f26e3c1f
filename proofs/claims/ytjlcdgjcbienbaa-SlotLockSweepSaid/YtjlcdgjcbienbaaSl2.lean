/-
  SlotValidExact, SlotReserveRelease, SlotPutTake, SlotLockSweep: true at every input. By an AI agent.
-/
import Derived.Test.YtjlcdgjcbienbaaF2
namespace Go.AL
open Go.Proofs
set_option linter.unusedVariables false
set_option linter.unusedSimpArgs false
noncomputable def C_vexl : Cfg := ⟨Try.prog, [E_few, E_awake, E_slots, E_csl, E_cval, E_rvsl, E_place, E_find, E_rfsl, E_emp, E_remp, E_bus, E_rbus], pmT [(6, ([(0, []), (1, []), (2, []), (3, []), (5, []), (4, []), (6, []), (7, [])], [(46, 52)])), (7, ([(0, []), (2, []), (1, []), (3, []), (4, []), (5, []), (6, []), (7, []), (8, [])], [(16, 17), (53, 59)])), (9, ([(0, []), (3, []), (1, []), (2, []), (4, []), (5, []), (6, []), (7, []), (9, []), (8, []), (10, []), (11, []), (12, []), (13, []), (14, []), (16, []), (15, []), (17, []), (18, []), (19, []), (20, []), (21, []), (22, []), (23, []), (24, []), (25, []), (26, []), (27, []), (28, []), (29, []), (30, []), (31, []), (32, []), (33, []), (34, []), (35, [])], [(14, 14), (63, 97)]))], 98⟩
theorem es_vexl : EsOk Try.prog [E_few, E_awake, E_slots, E_csl, E_cval, E_rvsl, E_place, E_find, E_rfsl, E_emp, E_remp, E_bus, E_rbus] := es_cons E_few_ok (es_cons E_awake_ok (es_cons E_slots_ok (es_cons E_csl_ok (es_cons E_cval_ok (es_cons E_rvsl_ok (es_cons E_place_ok (es_cons E_find_ok (es_cons E_rfsl_ok (es_cons E_emp_ok (es_cons E_remp_ok (es_cons E_bus_ok (es_cons E_rbus_ok (es_nil)))))))))))))
def Lt_vexl : Nat → LD := ldT []
noncomputable def M_vexl (f : Nat) (a : (List (SSl)) × (List (SSt)) × (List (Int)) × (List (Int)) × Int × SSl × SId) : Option (Bool) := (runX (C_vexl) Lt_vexl (Kret Try.prog [.tmp 14] [.v (.bool)]) f [.code (bodyOf Try.f3)] (initX [.rd tSSl, .rd tSSt, .rd [.int .i64], .rd [.int .i64], .c (.int .i64), .g tSSl, .g tSId] a) : Option (ResT [.v (.bool)]))
theorem M_vexl_eq (f : Nat) (l : List (SSl)) (steps : List (SSt)) (locks : List (Int)) (ops : List (Int)) (at_ : Int) (s : SSl) (id : SId) : M_vexl (f + 1) (l, steps, locks, ops, at_, s, id) =
    bif !fewB l then some true else bif decide ((↑(List.length s.2.2.2.1) : Int) > 20) then some true else bif okSl (slotsS (steps, locks, ops)) then bif okSl (slotsS (steps, locks, ops)) then bif !cvalS (slotsS (steps, locks, ops)) then some false else bif okSl l then bif okSl l then bif okSl l then bif cvalS l != cvalS l then some false else bif place_pre (at_, (↑(slotsS (steps, locks, ops)).length : Int)) then bif decide (0 ≤ place (at_, (↑(slotsS (steps, locks, ops)).length : Int))) && decide (place (at_, (↑(slotsS (steps, locks, ops)).length : Int)) < (↑(slotsS (steps, locks, ops)).length : Int)) then bif okSl l then bif len40n l then bif len40n l then bif okSl ((slotsS (steps, locks, ops)).set (place (at_, (↑(slotsS (steps, locks, ops)).length : Int))).toNat s) then bif okSl ((slotsS (steps, locks, ops)).set (place (at_, (↑(slotsS (steps, locks, ops)).length : Int))).toNat s) then bif okSl ((slotsS (steps, locks, ops)).set (place (at_, (↑(slotsS (steps, locks, ops)).length : Int))).toNat s) then bif cvalS ((slotsS (steps, locks, ops)).set (place (at_, (↑(slotsS (steps, locks, ops)).length : Int))).toNat s) == cvalS ((slotsS (steps, locks, ops)).set (place (at_, (↑(slotsS (steps, locks, ops)).length : Int))).toNat s) then bif empB s == empB s then bif busB s == busB s then bif (findS (l, id)).2 == decide (findI (hasS id) l 0 ≥ 0) then bif (findS (l, id)).1 == if 0 > findI (hasS id) l 0 then 0 else findI (hasS id) l 0 then some true else some false else some false else some false else some false else some false else none else none else none else none else none else none else none else none else none else none else none else none else none := by kernel_rfl
noncomputable def F_vexl : ((List (SSl)) × (List (SSt)) × (List (Int)) × (List (Int)) × Int × SSl × SId) → Bool
  | (l, steps, locks, ops, at_, s, id) => bif !fewB l then true else bif decide ((↑(List.length s.2.2.2.1) : Int) > 20) then true else bif !cvalS (slotsS (steps, locks, ops)) then false else bif cvalS l != cvalS l then false else bif cvalS ((slotsS (steps, locks, ops)).set (place (at_, (↑(slotsS (steps, locks, ops)).length : Int))).toNat s) == cvalS ((slotsS (steps, locks, ops)).set (place (at_, (↑(slotsS (steps, locks, ops)).length : Int))).toNat s) then bif empB s == empB s then bif busB s == busB s then bif (findS (l, id)).2 == decide (findI (hasS id) l 0 ≥ 0) then bif (findS (l, id)).1 == if 0 > findI (hasS id) l 0 then 0 else findI (hasS id) l 0 then true else false else false else false else false else false
noncomputable def P_vexl : ((List (SSl)) × (List (SSt)) × (List (Int)) × (List (Int)) × Int × SSl × SId) → Bool
  | (l, steps, locks, ops, at_, s, id) => bif !fewB l then true else bif decide ((↑(List.length s.2.2.2.1) : Int) > 20) then true else okSl (slotsS (steps, locks, ops)) && (okSl (slotsS (steps, locks, ops)) && bif !cvalS (slotsS (steps, locks, ops)) then true else okSl l && (okSl l && (okSl l && bif cvalS l != cvalS l then true else place_pre (at_, (↑(slotsS (steps, locks, ops)).length : Int)) && (decide (0 ≤ place (at_, (↑(slotsS (steps, locks, ops)).length : Int))) && decide (place (at_, (↑(slotsS (steps, locks, ops)).length : Int)) < (↑(slotsS (steps, locks, ops)).length : Int)) && (okSl l && (len40n l && (len40n l && (okSl ((slotsS (steps, locks, ops)).set (place (at_, (↑(slotsS (steps, locks, ops)).length : Int))).toNat s) && (okSl ((slotsS (steps, locks, ops)).set (place (at_, (↑(slotsS (steps, locks, ops)).length : Int))).toNat s) && okSl ((slotsS (steps, locks, ops)).set (place (at_, (↑(slotsS (steps, locks, ops)).length : Int))).toNat s))))))))))
theorem vexl_auto : ∀ a : (List (SSl)) × (List (SSt)) × (List (Int)) × (List (Int)) × Int × SSl × SId, Rns (fun f => M_vexl f a) (P_vexl a) (F_vexl a)
  | (l, steps, locks, ops, at_, s, id) => ev_step (fun f => M_vexl_eq f _ _ _ _ _ _ _) (ev_bif ev_some (ev_bif ev_some (ev_chk (ev_chk (ev_bif ev_some (ev_chk (ev_chk (ev_chk (ev_bif ev_some (ev_chk (ev_chk (ev_chk (ev_chk (ev_chk (ev_chk (ev_chk (ev_chk1 (ev_bift (ev_bift (ev_bift (ev_bift (ev_bift ev_some ev_some) ev_some) ev_some) ev_some) ev_some))))))))))))))))))
theorem findS_fst (l : List SSl) (id : SId) : (findS (l, id)).1 = if 0 > findI (hasS id) l 0 then 0 else findI (hasS id) l 0 := by
  simp only [findS]
  by_cases h : findI (hasS id) l 0 ≥ 0
  · rw [decide_eq_true h, if_neg (by omega)]; rfl
  · rw [decide_eq_false h, if_pos (by omega)]; rfl
theorem vexl_true : ∀ a, ∃ f, M_vexl f a = some true := by
  rintro ⟨l, steps, locks, ops, at_, s, id⟩
  have h : P_vexl (l, steps, locks, ops, at_, s, id) = true ∧ F_vexl (l, steps, locks, ops, at_, s, id) = true := by
    simp only [P_vexl, F_vexl]
    cases hf : fewB l
    · exact ⟨rfl, rfl⟩
    have h := few_okSl hf
    by_cases hw : ((List.length s.2.2.2.1 : Nat) : Int) > 20
    · simp only [decide_eq_true hw]; exact ⟨rfl, rfl⟩
    have e1 : len40n s.2.2.2.1 = true := decide_eq_true (by omega)
    have e2 : len40n l = true := decide_eq_true (by have := okSl_len h; omega)
    have v1 := slots_valid (steps, locks, ops)
    have v2 := slots_ok (steps, locks, ops)
    have v3 := slotsS_len (steps, locks, ops)
    generalize slotsS (steps, locks, ops) = v at *
    have hn : ((v.length : Nat) : Int) = 12 := by omega
    simp only [hn]
    have hp := place_range at_ (s := 12) (by omega)
    have hq : place_pre (at_, 12) = true := decide_eq_true (by show (12 : Int) ≤ _; omega)
    generalize place (at_, 12) = i at *
    simp [hw, h, e1, e2, v1, v2, hq, hp.1, hp.2, okSl_set v2 _ e1, findS_snd, findS_fst]
  have h1 := vexl_auto (l, steps, locks, ops, at_, s, id) h.1
  rw [h.2] at h1; exact h1
noncomputable def C_rrll : Cfg := ⟨Try.prog, [E_slots, E_place, E_csl, E_res, E_bus, E_awake, E_rel, E_ssl, E_cval], pmT [], 125⟩
theorem es_rrll : EsOk Try.prog [E_slots, E_place, E_csl, E_res, E_bus, E_awake, E_rel, E_ssl, E_cval] := es_cons E_slots_ok (es_cons E_place_ok (es_cons E_csl_ok (es_cons E_res_ok (es_cons E_bus_ok (es_cons E_awake_ok (es_cons E_rel_ok (es_cons E_ssl_ok (es_cons E_cval_ok (es_nil)))))))))
def Lt_rrll : Nat → LD := ldT [(0, ⟨[.list 9 999 33 15 tSSl, .c 10 (.int .i64), .c 11 (.int .i64), .list 13 998 33 15 tSSl, .c 17 (.int .i64)], []⟩)]
noncomputable def M_rrll (f : Nat) (a : (List (SSt)) × (List (Int)) × Int × Int) : Option (Bool) := (runX (C_rrll) Lt_rrll (Kret Try.prog [.tmp 8] [.v (.bool)]) f [.code (bodyOf Try.f5)] (initX [.rd tSSt, .rd [.int .i64], .c (.int .i64), .c (.int .i64)] a) : Option (ResT [.v (.bool)]))
noncomputable def L_rrll_0 (f : Nat) (x : (List (SSl)) × Int × Int × (List (SSl)) × Int) : Option (Bool) := (runX (C_rrll) Lt_rrll (Kret Try.prog [.tmp 8] [.v (.bool)]) f (headOf Try.f5 0) ((Lt_rrll 0).mk' x) : Option (ResT [.v (.bool)]))
theorem M_rrll_eq (f : Nat) (steps : List (SSt)) (locks : List (Int)) (a : Int) (b : Int) : M_rrll (f + 1) (steps, locks, a, b) =
    bif place_pre (a, (↑(slotsS (steps, locks, [])).length : Int)) then bif place_pre (b, (↑(slotsS (steps, locks, [])).length : Int)) then bif place (b, (↑(slotsS (steps, locks, [])).length : Int)) != place (a, (↑(slotsS (steps, locks, [])).length : Int)) then bif okSl (slotsS (steps, locks, [])) then bif resPre (slotsS (steps, locks, []), [place (a, (↑(slotsS (steps, locks, [])).length : Int)), place (b, (↑(slotsS (steps, locks, [])).length : Int))], 9) then bif decide (0 ≤ place (a, (↑(slotsS (steps, locks, [])).length : Int))) && decide (place (a, (↑(slotsS (steps, locks, [])).length : Int)) < (↑(slotsS (steps, locks, [])).length : Int)) then bif busB ((slotsS (steps, locks, [])).getD (place (a, (↑(slotsS (steps, locks, [])).length : Int))).toNat (0, 0, 0, [], 0, 0, 0, 0, 0, 0, false, 0, 0, 0, 0)) then bif (resS (slotsS (steps, locks, []), [place (a, (↑(slotsS (steps, locks, [])).length : Int)), place (b, (↑(slotsS (steps, locks, [])).length : Int))], 9)).2 == 4 then bif (↑(List.length (resS (slotsS (steps, locks, []), [place (a, (↑(slotsS (steps, locks, [])).length : Int)), place (b, (↑(slotsS (steps, locks, [])).length : Int))], 9)).1) : Int) == 0 then some true else some false else some false else bif decide (0 ≤ place (b, (↑(slotsS (steps, locks, [])).length : Int))) && decide (place (b, (↑(slotsS (steps, locks, [])).length : Int)) < (↑(slotsS (steps, locks, [])).length : Int)) then bif busB ((slotsS (steps, locks, [])).getD (place (b, (↑(slotsS (steps, locks, [])).length : Int))).toNat (0, 0, 0, [], 0, 0, 0, 0, 0, 0, false, 0, 0, 0, 0)) then bif (resS (slotsS (steps, locks, []), [place (a, (↑(slotsS (steps, locks, [])).length : Int)), place (b, (↑(slotsS (steps, locks, [])).length : Int))], 9)).2 == 4 then bif (↑(List.length (resS (slotsS (steps, locks, []), [place (a, (↑(slotsS (steps, locks, [])).length : Int)), place (b, (↑(slotsS (steps, locks, [])).length : Int))], 9)).1) : Int) == 0 then some true else some false else some false else bif okSl (resS (slotsS (steps, locks, []), [place (a, (↑(slotsS (steps, locks, [])).length : Int)), place (b, (↑(slotsS (steps, locks, [])).length : Int))], 9)).1 then bif resPre ((resS (slotsS (steps, locks, []), [place (a, (↑(slotsS (steps, locks, [])).length : Int)), place (b, (↑(slotsS (steps, locks, [])).length : Int))], 9)).1, [place (b, (↑(slotsS (steps, locks, [])).length : Int))], 10) then bif (resS (slotsS (steps, locks, []), [place (a, (↑(slotsS (steps, locks, [])).length : Int)), place (b, (↑(slotsS (steps, locks, [])).length : Int))], 9)).2 != 0 then some false else bif (resS ((resS (slotsS (steps, locks, []), [place (a, (↑(slotsS (steps, locks, [])).length : Int)), place (b, (↑(slotsS (steps, locks, [])).length : Int))], 9)).1, [place (b, (↑(slotsS (steps, locks, [])).length : Int))], 10)).2 != 4 then some false else bif (↑(List.length (resS (slotsS (steps, locks, []), [place (a, (↑(slotsS (steps, locks, [])).length : Int)), place (b, (↑(slotsS (steps, locks, [])).length : Int))], 9)).1) : Int) != (↑(slotsS (steps, locks, [])).length : Int) then some false else L_rrll_0 f (slotsS (steps, locks, []), place (a, (↑(slotsS (steps, locks, [])).length : Int)), place (b, (↑(slotsS (steps, locks, [])).length : Int)), (resS (slotsS (steps, locks, []), [place (a, (↑(slotsS (steps, locks, [])).length : Int)), place (b, (↑(slotsS (steps, locks, [])).length : Int))], 9)).1, 0) else none else none else none else none else none else none else bif okSl (slotsS (steps, locks, [])) then bif resPre (slotsS (steps, locks, []), [place (a, (↑(slotsS (steps, locks, [])).length : Int))], 9) then bif decide (0 ≤ place (a, (↑(slotsS (steps, locks, [])).length : Int))) && decide (place (a, (↑(slotsS (steps, locks, [])).length : Int)) < (↑(slotsS (steps, locks, [])).length : Int)) then bif busB ((slotsS (steps, locks, [])).getD (place (a, (↑(slotsS (steps, locks, [])).length : Int))).toNat (0, 0, 0, [], 0, 0, 0, 0, 0, 0, false, 0, 0, 0, 0)) then bif (resS (slotsS (steps, locks, []), [place (a, (↑(slotsS (steps, locks, [])).length : Int))], 9)).2 == 4 then bif (↑(List.length (resS (slotsS (steps, locks, []), [place (a, (↑(slotsS (steps, locks, [])).length : Int))], 9)).1) : Int) == 0 then some true else some false else some false else bif decide (0 ≤ place (b, (↑(slotsS (steps, locks, [])).length : Int))) && decide (place (b, (↑(slotsS (steps, locks, [])).length : Int)) < (↑(slotsS (steps, locks, [])).length : Int)) then bif busB ((slotsS (steps, locks, [])).getD (place (b, (↑(slotsS (steps, locks, [])).length : Int))).toNat (0, 0, 0, [], 0, 0, 0, 0, 0, 0, false, 0, 0, 0, 0)) then bif (resS (slotsS (steps, locks, []), [place (a, (↑(slotsS (steps, locks, [])).length : Int))], 9)).2 == 4 then bif (↑(List.length (resS (slotsS (steps, locks, []), [place (a, (↑(slotsS (steps, locks, [])).length : Int))], 9)).1) : Int) == 0 then some true else some false else some false else bif okSl (resS (slotsS (steps, locks, []), [place (a, (↑(slotsS (steps, locks, [])).length : Int))], 9)).1 then bif resPre ((resS (slotsS (steps, locks, []), [place (a, (↑(slotsS (steps, locks, [])).length : Int))], 9)).1, [place (b, (↑(slotsS (steps, locks, [])).length : Int))], 10) then bif (resS (slotsS (steps, locks, []), [place (a, (↑(slotsS (steps, locks, [])).length : Int))], 9)).2 != 0 then some false else bif (resS ((resS (slotsS (steps, locks, []), [place (a, (↑(slotsS (steps, locks, [])).length : Int))], 9)).1, [place (b, (↑(slotsS (steps, locks, [])).length : Int))], 10)).2 != 4 then some false else bif (↑(List.length (resS (slotsS (steps, locks, []), [place (a, (↑(slotsS (steps, locks, [])).length : Int))], 9)).1) : Int) != (↑(slotsS (steps, locks, [])).length : Int) then some false else L_rrll_0 f (slotsS (steps, locks, []), place (a, (↑(slotsS (steps, locks, [])).length : Int)), place (b, (↑(slotsS (steps, locks, [])).length : Int)), (resS (slotsS (steps, locks, []), [place (a, (↑(slotsS (steps, locks, [])).length : Int))], 9)).1, 0) else none else none else none else none else none else none else none else none := by kernel_rfl
theorem L_rrll_0_eq (f : Nat) (l : List (SSl)) (i : Int) (k : Int) (m : List (SSl)) (j : Int) : L_rrll_0 (f + 1) (l, i, k, m, j) =
    bif decide (j < (↑l.length : Int)) then bif decide (0 ≤ j) && decide (j < (↑m.length : Int)) then bif j == i then bif busB (m.getD j.toNat (0, 0, 0, [], 0, 0, 0, 0, 0, 0, false, 0, 0, 0, 0)) != true then some false else L_rrll_0 f (l, i, k, m, IntKind.i64.wrap (j + 1)) else bif j == k then bif busB (m.getD j.toNat (0, 0, 0, [], 0, 0, 0, 0, 0, 0, false, 0, 0, 0, 0)) != true then some false else L_rrll_0 f (l, i, k, m, IntKind.i64.wrap (j + 1)) else bif decide (0 ≤ j) && decide (j < (↑l.length : Int)) then bif busB (m.getD j.toNat (0, 0, 0, [], 0, 0, 0, 0, 0, 0, false, 0, 0, 0, 0)) != busB (l.getD j.toNat (0, 0, 0, [], 0, 0, 0, 0, 0, 0, false, 0, 0, 0, 0)) then some false else L_rrll_0 f (l, i, k, m, IntKind.i64.wrap (j + 1)) else none else none else bif okSl m then bif okSl (relS (m, 9)) then bif decide (relS (m, 9) = l) then bif okSl m then bif cvalS m then some true else some false else none else some false else none else none := by kernel_rfl
noncomputable def F_rrll_0 : List (SSl) → ((List (SSl)) × Int × Int × (List (SSl)) × Nat) → Bool
  | [], (l, i, k, m, j) => bif decide (relS (m, 9) = l) then bif cvalS m then true else false else false
  | uu :: rest, (l, i, k, m, j) => bif (↑j : Int) == i then bif busB (m.getD (↑j : Int).toNat (0, 0, 0, [], 0, 0, 0, 0, 0, 0, false, 0, 0, 0, 0)) != true then false else F_rrll_0 rest (l, i, k, m, j + 1) else bif (↑j : Int) == k then bif busB (m.getD (↑j : Int).toNat (0, 0, 0, [], 0, 0, 0, 0, 0, 0, false, 0, 0, 0, 0)) != true then false else F_rrll_0 rest (l, i, k, m, j + 1) else bif busB (m.getD (↑j : Int).toNat (0, 0, 0, [], 0, 0, 0, 0, 0, 0, false, 0, 0, 0, 0)) != busB uu then false else F_rrll_0 rest (l, i, k, m, j + 1)
noncomputable def P_rrll_0 : List (SSl) → ((List (SSl)) × Int × Int × (List (SSl)) × Nat) → Bool
  | [], (l, i, k, m, j) => okSl m && (okSl (relS (m, 9)) && bif decide (relS (m, 9) = l) then okSl m else true)
  | uu :: rest, (l, i, k, m, j) => decide ((↑j : Int) < (↑m.length : Int)) && bif (↑j : Int) == i then bif busB (m.getD (↑j : Int).toNat (0, 0, 0, [], 0, 0, 0, 0, 0, 0, false, 0, 0, 0, 0)) != true then true else P_rrll_0 rest (l, i, k, m, j + 1) else bif (↑j : Int) == k then bif busB (m.getD (↑j : Int).toNat (0, 0, 0, [], 0, 0, 0, 0, 0, 0, false, 0, 0, 0, 0)) != true then true else P_rrll_0 rest (l, i, k, m, j + 1) else bif busB (m.getD (↑j : Int).toNat (0, 0, 0, [], 0, 0, 0, 0, 0, 0, false, 0, 0, 0, 0)) != busB uu then true else P_rrll_0 rest (l, i, k, m, j + 1)
theorem A_rrll_0 : ∀ (rest : List (SSl)) (l : List (SSl)) (i : Int) (k : Int) (m : List (SSl)) (j : Nat) (hd : l.drop j = rest) (hl : l.length ≤ 1099511627776), Rns (fun f => L_rrll_0 f (l, i, k, m, ((j : Nat) : Int))) (P_rrll_0 rest (l, i, k, m, j)) (F_rrll_0 rest (l, i, k, m, j))
  | [], l, i, k, m, j, hd, hl => ev_step (T := fun f => bif okSl m then bif okSl (relS (m, 9)) then bif decide (relS (m, 9) = l) then bif okSl m then bif cvalS m then some true else some false else none else some false else none else none) (fun f => (L_rrll_0_eq f _ _ _ _ _).trans (by simp only [ge_dec (drop_ge hd), ge0, Bool.and_self, Bool.true_and, cond_true, cond_false, List.length_set])) (ev_chk (ev_chk (ev_bif (ev_chk1 (ev_bift ev_some ev_some)) ev_some)))
  | uu :: rest, l, i, k, m, j, hd, hl => ev_step (T := fun f => bif decide ((↑j : Int) < (↑m.length : Int)) then bif (↑j : Int) == i then bif busB (m.getD (↑j : Int).toNat (0, 0, 0, [], 0, 0, 0, 0, 0, 0, false, 0, 0, 0, 0)) != true then some false else L_rrll_0 f (l, i, k, m, (↑(j + 1) : Int)) else bif (↑j : Int) == k then bif busB (m.getD (↑j : Int).toNat (0, 0, 0, [], 0, 0, 0, 0, 0, 0, false, 0, 0, 0, 0)) != true then some false else L_rrll_0 f (l, i, k, m, (↑(j + 1) : Int)) else bif busB (m.getD (↑j : Int).toNat (0, 0, 0, [], 0, 0, 0, 0, 0, 0, false, 0, 0, 0, 0)) != busB uu then some false else L_rrll_0 f (l, i, k, m, (↑(j + 1) : Int)) else none) (fun f => (L_rrll_0_eq f _ _ _ _ _).trans (by simp only [lt_dec (drop_lt hd), drop_get hd, wrap_succ (drop_lt hd) hl, getD_set (drop_lt hd), ge0, Bool.and_self, Bool.true_and, cond_true, cond_false, List.length_set])) (ev_chk (ev_bif (ev_bif ev_some (A_rrll_0 rest _ _ _ _ _ (by first | exact drop_succ hd | exact drop_set hd | exact drop_setS (drop_set hd)) (by first | exact hl | simpa using hl))) (ev_bif (ev_bif ev_some (A_rrll_0 rest _ _ _ _ _ (by first | exact drop_succ hd | exact drop_set hd | exact drop_setS (drop_set hd)) (by first | exact hl | simpa using hl))) (ev_bif ev_some (A_rrll_0 rest _ _ _ _ _ (by first | exact drop_succ hd | exact drop_set hd | exact drop_setS (drop_set hd)) (by first | exact hl | simpa using hl))))))
noncomputable def F_rrll : ((List (SSt)) × (List (Int)) × Int × Int) → Bool
  | (steps, locks, a, b) => bif place (b, (↑(slotsS (steps, locks, [])).length : Int)) != place (a, (↑(slotsS (steps, locks, [])).length : Int)) then bif busB ((slotsS (steps, locks, [])).getD (place (a, (↑(slotsS (steps, locks, [])).length : Int))).toNat (0, 0, 0, [], 0, 0, 0, 0, 0, 0, false, 0, 0, 0, 0)) then bif (resS (slotsS (steps, locks, []), [place (a, (↑(slotsS (steps, locks, [])).length : Int)), place (b, (↑(slotsS (steps, locks, [])).length : Int))], 9)).2 == 4 then bif (↑(List.length (resS (slotsS (steps, locks, []), [place (a, (↑(slotsS (steps, locks, [])).length : Int)), place (b, (↑(slotsS (steps, locks, [])).length : Int))], 9)).1) : Int) == 0 then true else false else false else bif busB ((slotsS (steps, locks, [])).getD (place (b, (↑(slotsS (steps, locks, [])).length : Int))).toNat (0, 0, 0, [], 0, 0, 0, 0, 0, 0, false, 0, 0, 0, 0)) then bif (resS (slotsS (steps, locks, []), [place (a, (↑(slotsS (steps, locks, [])).length : Int)), place (b, (↑(slotsS (steps, locks, [])).length : Int))], 9)).2 == 4 then bif (↑(List.length (resS (slotsS (steps, locks, []), [place (a, (↑(slotsS (steps, locks, [])).length : Int)), place (b, (↑(slotsS (steps, locks, [])).length : Int))], 9)).1) : Int) == 0 then true else false else false else bif (resS (slotsS (steps, locks, []), [place (a, (↑(slotsS (steps, locks, [])).length : Int)), place (b, (↑(slotsS (steps, locks, [])).length : Int))], 9)).2 != 0 then false else bif (resS ((resS (slotsS (steps, locks, []), [place (a, (↑(slotsS (steps, locks, [])).length : Int)), place (b, (↑(slotsS (steps, locks, [])).length : Int))], 9)).1, [place (b, (↑(slotsS (steps, locks, [])).length : Int))], 10)).2 != 4 then false else bif (↑(List.length (resS (slotsS (steps, locks, []), [place (a, (↑(slotsS (steps, locks, [])).length : Int)), place (b, (↑(slotsS (steps, locks, [])).length : Int))], 9)).1) : Int) != (↑(slotsS (steps, locks, [])).length : Int) then false else F_rrll_0 (slotsS (steps, locks, [])) (slotsS (steps, locks, []), place (a, (↑(slotsS (steps, locks, [])).length : Int)), place (b, (↑(slotsS (steps, locks, [])).length : Int)), (resS (slotsS (steps, locks, []), [place (a, (↑(slotsS (steps, locks, [])).length : Int)), place (b, (↑(slotsS (steps, locks, [])).length : Int))], 9)).1, 0) else bif busB ((slotsS (steps, locks, [])).getD (place (a, (↑(slotsS (steps, locks, [])).length : Int))).toNat (0, 0, 0, [], 0, 0, 0, 0, 0, 0, false, 0, 0, 0, 0)) then bif (resS (slotsS (steps, locks, []), [place (a, (↑(slotsS (steps, locks, [])).length : Int))], 9)).2 == 4 then bif (↑(List.length (resS (slotsS (steps, locks, []), [place (a, (↑(slotsS (steps, locks, [])).length : Int))], 9)).1) : Int) == 0 then true else false else false else bif busB ((slotsS (steps, locks, [])).getD (place (b, (↑(slotsS (steps, locks, [])).length : Int))).toNat (0, 0, 0, [], 0, 0, 0, 0, 0, 0, false, 0, 0, 0, 0)) then bif (resS (slotsS (steps, locks, []), [place (a, (↑(slotsS (steps, locks, [])).length : Int))], 9)).2 == 4 then bif (↑(List.length (resS (slotsS (steps, locks, []), [place (a, (↑(slotsS (steps, locks, [])).length : Int))], 9)).1) : Int) == 0 then true else false else false else bif (resS (slotsS (steps, locks, []), [place (a, (↑(slotsS (steps, locks, [])).length : Int))], 9)).2 != 0 then false else bif (resS ((resS (slotsS (steps, locks, []), [place (a, (↑(slotsS (steps, locks, [])).length : Int))], 9)).1, [place (b, (↑(slotsS (steps, locks, [])).length : Int))], 10)).2 != 4 then false else bif (↑(List.length (resS (slotsS (steps, locks, []), [place (a, (↑(slotsS (steps, locks, [])).length : Int))], 9)).1) : Int) != (↑(slotsS (steps, locks, [])).length : Int) then false else F_rrll_0 (slotsS (steps, locks, [])) (slotsS (steps, locks, []), place (a, (↑(slotsS (steps, locks, [])).length : Int)), place (b, (↑(slotsS (steps, locks, [])).length : Int)), (resS (slotsS (steps, locks, []), [place (a, (↑(slotsS (steps, locks, [])).length : Int))], 9)).1, 0)
noncomputable def P_rrll : ((List (SSt)) × (List (Int)) × Int × Int) → Bool
  | (steps, locks, a, b) => place_pre (a, (↑(slotsS (steps, locks, [])).length : Int)) && (place_pre (b, (↑(slotsS (steps, locks, [])).length : Int)) && bif place (b, (↑(slotsS (steps, locks, [])).length : Int)) != place (a, (↑(slotsS (steps, locks, [])).length : Int)) then okSl (slotsS (steps, locks, [])) && (resPre (slotsS (steps, locks, []), [place (a, (↑(slotsS (steps, locks, [])).length : Int)), place (b, (↑(slotsS (steps, locks, [])).length : Int))], 9) && (decide (0 ≤ place (a, (↑(slotsS (steps, locks, [])).length : Int))) && decide (place (a, (↑(slotsS (steps, locks, [])).length : Int)) < (↑(slotsS (steps, locks, [])).length : Int)) && bif busB ((slotsS (steps, locks, [])).getD (place (a, (↑(slotsS (steps, locks, [])).length : Int))).toNat (0, 0, 0, [], 0, 0, 0, 0, 0, 0, false, 0, 0, 0, 0)) then true else decide (0 ≤ place (b, (↑(slotsS (steps, locks, [])).length : Int))) && decide (place (b, (↑(slotsS (steps, locks, [])).length : Int)) < (↑(slotsS (steps, locks, [])).length : Int)) && bif busB ((slotsS (steps, locks, [])).getD (place (b, (↑(slotsS (steps, locks, [])).length : Int))).toNat (0, 0, 0, [], 0, 0, 0, 0, 0, 0, false, 0, 0, 0, 0)) then true else okSl (resS (slotsS (steps, locks, []), [place (a, (↑(slotsS (steps, locks, [])).length : Int)), place (b, (↑(slotsS (steps, locks, [])).length : Int))], 9)).1 && (resPre ((resS (slotsS (steps, locks, []), [place (a, (↑(slotsS (steps, locks, [])).length : Int)), place (b, (↑(slotsS (steps, locks, [])).length : Int))], 9)).1, [place (b, (↑(slotsS (steps, locks, [])).length : Int))], 10) && bif (resS (slotsS (steps, locks, []), [place (a, (↑(slotsS (steps, locks, [])).length : Int)), place (b, (↑(slotsS (steps, locks, [])).length : Int))], 9)).2 != 0 then true else bif (resS ((resS (slotsS (steps, locks, []), [place (a, (↑(slotsS (steps, locks, [])).length : Int)), place (b, (↑(slotsS (steps, locks, [])).length : Int))], 9)).1, [place (b, (↑(slotsS (steps, locks, [])).length : Int))], 10)).2 != 4 then true else bif (↑(List.length (resS (slotsS (steps, locks, []), [place (a, (↑(slotsS (steps, locks, [])).length : Int)), place (b, (↑(slotsS (steps, locks, [])).length : Int))], 9)).1) : Int) != (↑(slotsS (steps, locks, [])).length : Int) then true else decide ((slotsS (steps, locks, [])).length ≤ 1099511627776) && P_rrll_0 (slotsS (steps, locks, [])) (slotsS (steps, locks, []), place (a, (↑(slotsS (steps, locks, [])).length : Int)), place (b, (↑(slotsS (steps, locks, [])).length : Int)), (resS (slotsS (steps, locks, []), [place (a, (↑(slotsS (steps, locks, [])).length : Int)), place (b, (↑(slotsS (steps, locks, [])).length : Int))], 9)).1, 0)))) else okSl (slotsS (steps, locks, [])) && (resPre (slotsS (steps, locks, []), [place (a, (↑(slotsS (steps, locks, [])).length : Int))], 9) && (decide (0 ≤ place (a, (↑(slotsS (steps, locks, [])).length : Int))) && decide (place (a, (↑(slotsS (steps, locks, [])).length : Int)) < (↑(slotsS (steps, locks, [])).length : Int)) && bif busB ((slotsS (steps, locks, [])).getD (place (a, (↑(slotsS (steps, locks, [])).length : Int))).toNat (0, 0, 0, [], 0, 0, 0, 0, 0, 0, false, 0, 0, 0, 0)) then true else decide (0 ≤ place (b, (↑(slotsS (steps, locks, [])).length : Int))) && decide (place (b, (↑(slotsS (steps, locks, [])).length : Int)) < (↑(slotsS (steps, locks, [])).length : Int)) && bif busB ((slotsS (steps, locks, [])).getD (place (b, (↑(slotsS (steps, locks, [])).length : Int))).toNat (0, 0, 0, [], 0, 0, 0, 0, 0, 0, false, 0, 0, 0, 0)) then true else okSl (resS (slotsS (steps, locks, []), [place (a, (↑(slotsS (steps, locks, [])).length : Int))], 9)).1 && (resPre ((resS (slotsS (steps, locks, []), [place (a, (↑(slotsS (steps, locks, [])).length : Int))], 9)).1, [place (b, (↑(slotsS (steps, locks, [])).length : Int))], 10) && bif (resS (slotsS (steps, locks, []), [place (a, (↑(slotsS (steps, locks, [])).length : Int))], 9)).2 != 0 then true else bif (resS ((resS (slotsS (steps, locks, []), [place (a, (↑(slotsS (steps, locks, [])).length : Int))], 9)).1, [place (b, (↑(slotsS (steps, locks, [])).length : Int))], 10)).2 != 4 then true else bif (↑(List.length (resS (slotsS (steps, locks, []), [place (a, (↑(slotsS (steps, locks, [])).length : Int))], 9)).1) : Int) != (↑(slotsS (steps, locks, [])).length : Int) then true else decide ((slotsS (steps, locks, [])).length ≤ 1099511627776) && P_rrll_0 (slotsS (steps, locks, [])) (slotsS (steps, locks, []), place (a, (↑(slotsS (steps, locks, [])).length : Int)), place (b, (↑(slotsS (steps, locks, [])).length : Int)), (resS (slotsS (steps, locks, []), [place (a, (↑(slotsS (steps, locks, [])).length : Int))], 9)).1, 0)))))
theorem rrll_auto : ∀ a : (List (SSt)) × (List (Int)) × Int × Int, Rns (fun f => M_rrll f a) (P_rrll a) (F_rrll a)
  | (steps, locks, a, b) => ev_step (fun f => M_rrll_eq f _ _ _ _) (ev_chk (ev_chk (ev_bif (ev_chk (ev_chk (ev_chk (ev_bif (ev_bift (ev_bift ev_some ev_some) ev_some) (ev_chk (ev_bif (ev_bift (ev_bift ev_some ev_some) ev_some) (ev_chk (ev_chk (ev_bif ev_some (ev_bif ev_some (ev_bif ev_some (ev_and fun hh => A_rrll_0 _ _ _ _ _ _ rfl (of_decide_eq_true hh))))))))))))) (ev_chk (ev_chk (ev_chk (ev_bif (ev_bift (ev_bift ev_some ev_some) ev_some) (ev_chk (ev_bif (ev_bift (ev_bift ev_some ev_some) ev_some) (ev_chk (ev_chk (ev_bif ev_some (ev_bif ev_some (ev_bif ev_some (ev_and fun hh => A_rrll_0 _ _ _ _ _ _ rfl (of_decide_eq_true hh))))))))))))))))
theorem getD_get {l : List SSl} {j : Nat} (h : j < l.length) : l.getD j zSl = l[j] := by
  rw [List.getD_eq_getElem?_getD, List.getElem?_eq_getElem h]; rfl
theorem getD_ext {l m : List SSl} {n : Nat} (hl : l.length = n) (hm : m.length = n) (h : ∀ j, j < n → m.getD j zSl = l.getD j zSl) : m = l := by
  refine List.ext_getElem (by omega) fun j h1 h2 => ?_
  have := h j (by omega)
  rw [getD_get h1, getD_get h2] at this
  exact this
theorem map_getD {l : List SSl} (f : SSl → SSl) {j : Nat} (h : j < l.length) : (l.map f).getD j zSl = f (l.getD j zSl) := by
  rw [getD_get (by rw [List.length_map]; exact h), getD_get h, List.getElem_map]
theorem mem_getD {l : List SSl} {j : Nat} (h : j < l.length) : l.getD j zSl ∈ l := by
  rw [getD_get h]; exact List.getElem_mem h
theorem set_getD {l : List SSl} {i j : Nat} {s : SSl} (h : j < l.length) : (l.set i s).getD j zSl = if i = j then s else l.getD j zSl := by
  rw [getD_get (by rw [List.length_set]; exact h), getD_get h, List.getElem_set]
theorem vsloB_op {s : SSl} {op : Int} (h : vsloB s = true) (h1 : 0 ≤ op ∧ op ≤ 1073741824) : vsloB (setOp s op) = true := by
  simp only [vsloB, Bool.and_eq_true, decide_eq_true_eq] at h ⊢
  exact ⟨h1.1, h1.2, h.2.2⟩
structure Rr (v m : List SSl) (i k : Int) : Prop where
  rel : relS (m, 9) = v
  val : cvalS m = true
  ok : okSl m = true
  two : resS (m, [k], 10) = ([], 4)
  len : m.length = 12
  bus : ∀ j : Nat, j < 12 → busB (m.getD j zSl) = ((j : Int) == i || ((j : Int) == k || busB (v.getD j zSl)))
theorem rr_mk {v m : List SSl} {i k : Int} (v3 : v.length = 12) (hz : ∀ s ∈ v, sop s = 0) (hg : Gs v) (v2 : okSl v = true) (hk : 0 ≤ k ∧ k < 12) (hm : m.length = 12)
    (hs : ∀ j : Nat, j < 12 → m.getD j zSl = bif (j : Int) == i || (j : Int) == k then setOp (v.getD j zSl) 9 else v.getD j zSl) : Rr v m i k := by
  have bus : ∀ j : Nat, j < 12 → busB (m.getD j zSl) = ((j : Int) == i || ((j : Int) == k || busB (v.getD j zSl))) := fun j hj => by
    rw [hs j hj]
    cases (j : Int) == i <;> cases (j : Int) == k <;> rfl
  refine ⟨getD_ext v3 (by simp only [relS, List.length_map, hm]) fun j hj => ?_, cvalS_of (by omega) (hg.change fun j s' hj => ?_), okSl_mk (by omega) fun s hs' => ?_, ?_, hm, bus⟩
  · simp only [relS]
    rw [map_getD _ (by omega), hs j hj]
    have h0 := hz _ (mem_getD (l := v) (j := j) (by omega))
    cases (j : Int) == i || (j : Int) == k
    · simp only [cond_false, relF, h0]; rfl
    · have : relF 9 (setOp (v.getD j zSl) 9) = setOp (v.getD j zSl) 0 := rfl
      rw [cond_true, this, setOp_self 0 h0]
  · have hj2 : j < 12 := by have := (List.getElem?_eq_some_iff.1 hj).1; omega
    have h2 := getD_some hj
    rw [hs j hj2] at h2
    have h3 := hg.ok _ (mem_getD (l := v) (j := j) (by omega))
    refine ⟨v.getD j zSl, some_getD (by omega), ?_, ?_⟩
    · rw [← h2]; cases (j : Int) == i || (j : Int) == k <;> rfl
    · rw [← h2]
      cases (j : Int) == i || (j : Int) == k
      · exact h3
      · exact vsloB_op h3 (by omega)
  · obtain ⟨j, hj⟩ := List.getElem?_of_mem hs'
    have hj2 : j < 12 := by have := (List.getElem?_eq_some_iff.1 hj).1; omega
    have h2 := getD_some hj
    rw [hs j hj2] at h2
    rw [← h2]
    have := okSl_getD v2 j
    cases (j : Int) == i || (j : Int) == k
    · exact this
    · exact this
  · have hb := bus k.toNat (by omega)
    rw [show ((k.toNat : Nat) : Int) = k by omega] at hb
    simp only [beq_self_eq_true, Bool.true_or, Bool.or_true] at hb
    have hbad : badR ((m.length : Nat) : Int) [] [k] = false := by
      simp only [badR, decide_eq_false (show ¬ k < 0 by omega), decide_eq_false (show ¬ k ≥ ((m.length : Nat) : Int) by omega)]; rfl
    simp only [resS, hbad, rsvL, hb]; rfl
theorem rr_loop {v m : List SSl} {i k : Int} (v3 : v.length = 12) (h : Rr v m i k) (v2 : okSl v = true) : ∀ (r : List SSl) (j : Nat), v.drop j = r → F_rrll_0 r (v, i, k, m, j) = true ∧ P_rrll_0 r (v, i, k, m, j) = true
  | [], j, hd => by
    simp only [F_rrll_0, P_rrll_0, h.rel, h.val, h.ok, v2]; simp
  | u :: r, j, hd => by
    obtain ⟨i1, i2⟩ := rr_loop v3 h v2 r (j + 1) (drop_succ hd)
    have hj := drop_lt hd
    have hb := h.bus j (by omega)
    rw [getD_some (drop_get? hd)] at hb
    simp only [F_rrll_0, P_rrll_0, i1, i2, Int.toNat_natCast, show ((0, 0, 0, [], 0, 0, 0, 0, 0, 0, false, 0, 0, 0, 0) : SSl) = zSl from rfl, hb, decide_eq_true (show (j : Int) < ((m.length : Nat) : Int) by have := h.len; omega)]
    cases (j : Int) == i <;> cases (j : Int) == k <;> cases busB u <;> exact ⟨rfl, rfl⟩
theorem rrll_true : ∀ a, ∃ f, M_rrll f a = some true := by
  rintro ⟨steps, locks, a, b⟩
  have h : P_rrll (steps, locks, a, b) = true ∧ F_rrll (steps, locks, a, b) = true := by
    simp only [P_rrll, F_rrll]
    have v2 := slots_ok (steps, locks, [])
    have v3 := slotsS_len (steps, locks, [])
    have v4 := made steps locks []
    have v5 := slots_gs steps locks []
    generalize slotsS (steps, locks, []) = v at *
    have hn : ((v.length : Nat) : Int) = 12 := by omega
    simp only [hn, show ((0, 0, 0, [], 0, 0, 0, 0, 0, 0, false, 0, 0, 0, 0) : SSl) = zSl from rfl]
    have hp := place_range a (s := 12) (by omega)
    have hq : place_pre (a, 12) = true := decide_eq_true (by show (12 : Int) ≤ _; omega)
    generalize place (a, 12) = i at *
    have hp2 := place_range b (s := 12) (by omega)
    have hq2 : place_pre (b, 12) = true := decide_eq_true (by show (12 : Int) ≤ _; omega)
    generalize place (b, 12) = k at *
    have hz : ∀ s ∈ v, sop s = 0 := fun s hs => by
      obtain ⟨j, hj⟩ := List.getElem?_of_mem hs
      exact (v4 j s hj).op.2.2 rfl
    have l8 : decide (v.length ≤ 1099511627776) = true := decide_eq_true (by omega)
    have pr : ∀ (m : List SSl) (w : List Int) (op : Int), okSl m = true → w.length ≤ 2 → resPre (m, w, op) = true := fun m w op h1 h2 => by
      simp only [resPre, h1, Bool.true_and]; exact decide_eq_true (by omega)
    by_cases hik : k = i
    · subst hik
      have hbad : badR ((v.length : Nat) : Int) [] [k] = false := by
        simp only [badR, decide_eq_false (show ¬ k < 0 by omega), decide_eq_false (show ¬ k ≥ ((v.length : Nat) : Int) by omega)]; rfl
      have hr : resS (v, [k], 9) = bif busB (v.getD k.toNat zSl) then ([], 4) else (v.set k.toNat (setOp (v.getD k.toNat zSl) 9), 0) := by
        simp only [resS, hbad, rsvL]; rfl
      cases hb : busB (v.getD k.toNat zSl)
      · rw [hb] at hr
        simp only [cond_false] at hr
        have hR : Rr v (v.set k.toNat (setOp (v.getD k.toNat zSl) 9)) k k := rr_mk v3 hz v5 v2 hp (by rw [List.length_set]; exact v3) fun j hj => by
          rw [set_getD (by omega), Bool.or_self]
          by_cases e : k.toNat = j
          · rw [if_pos e, ← e, show (((k.toNat : Nat) : Int) == k) = true from beq_iff_eq.2 (by omega), cond_true]
          · rw [if_neg e, show ((j : Int) == k) = false from beq_eq_false_iff_ne.2 (by omega), cond_false]
        simp only [hr]
        generalize v.set k.toNat (setOp (v.getD k.toNat zSl) 9) = m at *
        have hl := rr_loop v3 hR v2 v 0 rfl
        have hm : ((m.length : Nat) : Int) = 12 := by have := hR.len; omega
        simp [hq, hq2, v2, hR.ok, hR.two, hl.1, hl.2, hm, pr, hp.1, hp.2, l8]
      · rw [hb] at hr
        simp only [cond_true] at hr
        simp [hr, hq, hq2, v2, pr, hp.1, hp.2]
    · have hbad : badR ((v.length : Nat) : Int) [] [i, k] = false := by
        simp only [badR, decide_eq_false (show ¬ i < 0 by omega), decide_eq_false (show ¬ i ≥ ((v.length : Nat) : Int) by omega), decide_eq_false (show ¬ k < 0 by omega), decide_eq_false (show ¬ k ≥ ((v.length : Nat) : Int) by omega), List.nil_append, memD_nil, memD_not.2 (show ¬ k ∈ [i] by simpa using hik)]; rfl
      have hr : resS (v, [i, k], 9) = bif busB (v.getD i.toNat zSl) then ([], 4) else bif busB (v.getD k.toNat zSl) then ([], 4) else ((v.set i.toNat (setOp (v.getD i.toNat zSl) 9)).set k.toNat (setOp ((v.set i.toNat (setOp (v.getD i.toNat zSl) 9)).getD k.toNat zSl) 9), 0) := by
        simp only [resS, hbad, rsvL]; rfl
      cases hb : busB (v.getD i.toNat zSl)
      · cases hc : busB (v.getD k.toNat zSl)
        · rw [hb, hc] at hr
          simp only [cond_false] at hr
          have hR : Rr v ((v.set i.toNat (setOp (v.getD i.toNat zSl) 9)).set k.toNat (setOp ((v.set i.toNat (setOp (v.getD i.toNat zSl) 9)).getD k.toNat zSl) 9)) i k := rr_mk v3 hz v5 v2 hp2 (by rw [List.length_set, List.length_set]; exact v3) fun j hj => by
            rw [set_getD (by rw [List.length_set]; omega), set_getD (by omega), set_getD (by omega), if_neg (show ¬ i.toNat = k.toNat by omega)]
            by_cases e : k.toNat = j
            · rw [if_pos e, ← e, show (((k.toNat : Nat) : Int) == k) = true from beq_iff_eq.2 (by omega), Bool.or_true, cond_true]
            · rw [if_neg e, show ((j : Int) == k) = false from beq_eq_false_iff_ne.2 (by omega), Bool.or_false]
              by_cases e : i.toNat = j
              · rw [if_pos e, ← e, show (((i.toNat : Nat) : Int) == i) = true from beq_iff_eq.2 (by omega), cond_true]
              · rw [if_neg e, show ((j : Int) == i) = false from beq_eq_false_iff_ne.2 (by omega), cond_false]
          simp only [hr]
          generalize (v.set i.toNat (setOp (v.getD i.toNat zSl) 9)).set k.toNat (setOp ((v.set i.toNat (setOp (v.getD i.toNat zSl) 9)).getD k.toNat zSl) 9) = m at *
          have hl := rr_loop v3 hR v2 v 0 rfl
          have hm : ((m.length : Nat) : Int) = 12 := by have := hR.len; omega
          simp [hq, hq2, v2, hR.ok, hR.two, hl.1, hl.2, hm, pr, hp.1, hp.2, hp2.1, hp2.2, l8, hik]
        · rw [hb, hc] at hr
          simp only [cond_true, cond_false] at hr
          simp [hr, hq, hq2, v2, pr, hp.1, hp.2, hp2.1, hp2.2, hik]
      · rw [hb] at hr
        simp only [cond_true] at hr
        simp [hr, hq, hq2, v2, pr, hp.1, hp.2, hp2.1, hp2.2, hik]
  have h1 := rrll_auto (steps, locks, a, b) h.1
  rw [h.2] at h1; exact h1
noncomputable def C_ptkl : Cfg := ⟨Try.prog, [E_slots, E_place, E_page, E_csl, E_put, E_emp, E_awake, E_find, E_tak, E_snode, E_ssl], pmT [(4, ([(0, []), (2, []), (3, []), (1, []), (4, []), (5, []), (6, []), (7, []), (8, []), (9, [])], [(12, 13), (34, 41)])), (9, ([(0, []), (2, []), (3, []), (4, []), (5, []), (6, []), (7, []), (1, []), (8, []), (9, []), (10, []), (11, []), (12, []), (13, [])], [(19, 20), (73, 84)]))], 115⟩
theorem es_ptkl : EsOk Try.prog [E_slots, E_place, E_page, E_csl, E_put, E_emp, E_awake, E_find, E_tak, E_snode, E_ssl] := es_cons E_slots_ok (es_cons E_place_ok (es_cons E_page_ok (es_cons E_csl_ok (es_cons E_put_ok (es_cons E_emp_ok (es_cons E_awake_ok (es_cons E_find_ok (es_cons E_tak_ok (es_cons E_snode_ok (es_cons E_ssl_ok (es_nil)))))))))))
def Lt_ptkl : Nat → LD := ldT []
noncomputable def M_ptkl (f : Nat) (a : (List (SSt)) × (List (Int)) × Int × Int) : Option (Bool) := (runX (C_ptkl) Lt_ptkl (Kret Try.prog [.tmp 8] [.v (.bool)]) f [.code (bodyOf Try.f7)] (initX [.rd tSSt, .rd [.int .i64], .c (.int .i64), .c (.int .i64)] a) : Option (ResT [.v (.bool)]))
theorem M_ptkl_eq (f : Nat) (steps : List (SSt)) (ops : List (Int)) (slot : Int) (op : Int) : M_ptkl (f + 1) (steps, ops, slot, op) =
    bif place_pre (slot, (↑(slotsS (steps, [], ops)).length : Int)) then bif okSl (slotsS (steps, [], ops)) then bif putPre (slotsS (steps, [], ops), place (slot, (↑(slotsS (steps, [], ops)).length : Int)), 5, IntKind.i64.wrap (1 + place (op, 1000)), 0, [], pageC) then bif decide (0 ≤ place (slot, (↑(slotsS (steps, [], ops)).length : Int))) && decide (place (slot, (↑(slotsS (steps, [], ops)).length : Int)) < (↑(slotsS (steps, [], ops)).length : Int)) then bif !empB ((slotsS (steps, [], ops)).getD (place (slot, (↑(slotsS (steps, [], ops)).length : Int))).toNat (0, 0, 0, [], 0, 0, 0, 0, 0, 0, false, 0, 0, 0, 0)) then bif (putS (slotsS (steps, [], ops), place (slot, (↑(slotsS (steps, [], ops)).length : Int)), 5, IntKind.i64.wrap (1 + place (op, 1000)), 0, [], pageC)).2 == 3 then bif (↑(List.length (putS (slotsS (steps, [], ops), place (slot, (↑(slotsS (steps, [], ops)).length : Int)), 5, IntKind.i64.wrap (1 + place (op, 1000)), 0, [], pageC)).1) : Int) == 0 then some true else some false else some false else bif len40n (putS (slotsS (steps, [], ops), place (slot, (↑(slotsS (steps, [], ops)).length : Int)), 5, IntKind.i64.wrap (1 + place (op, 1000)), 0, [], pageC)).1 then bif okSl (putS (slotsS (steps, [], ops), place (slot, (↑(slotsS (steps, [], ops)).length : Int)), 5, IntKind.i64.wrap (1 + place (op, 1000)), 0, [], pageC)).1 then bif okSl (putS (slotsS (steps, [], ops), place (slot, (↑(slotsS (steps, [], ops)).length : Int)), 5, IntKind.i64.wrap (1 + place (op, 1000)), 0, [], pageC)).1 then bif (↑(slotsS (steps, [], ops)).length : Int) != 0 then bif okSl (putS (slotsS (steps, [], ops), place (slot, (↑(slotsS (steps, [], ops)).length : Int)), 5, IntKind.i64.wrap (1 + place (op, 1000)), 0, [], pageC)).1 then bif putPre ((putS (slotsS (steps, [], ops), place (slot, (↑(slotsS (steps, [], ops)).length : Int)), 5, IntKind.i64.wrap (1 + place (op, 1000)), 0, [], pageC)).1, (IntKind.i64.wrap (place (slot, (↑(slotsS (steps, [], ops)).length : Int)) + 1)).tmod (↑(slotsS (steps, [], ops)).length : Int), 5, IntKind.i64.wrap (1 + place (op, 1000)), 0, [], pageC) then bif (putS (slotsS (steps, [], ops), place (slot, (↑(slotsS (steps, [], ops)).length : Int)), 5, IntKind.i64.wrap (1 + place (op, 1000)), 0, [], pageC)).2 == 0 then bif (findS ((putS (slotsS (steps, [], ops), place (slot, (↑(slotsS (steps, [], ops)).length : Int)), 5, IntKind.i64.wrap (1 + place (op, 1000)), 0, [], pageC)).1, 5, IntKind.i64.wrap (1 + place (op, 1000)), 0)).2 then bif (findS ((putS (slotsS (steps, [], ops), place (slot, (↑(slotsS (steps, [], ops)).length : Int)), 5, IntKind.i64.wrap (1 + place (op, 1000)), 0, [], pageC)).1, 5, IntKind.i64.wrap (1 + place (op, 1000)), 0)).1 == place (slot, (↑(slotsS (steps, [], ops)).length : Int)) then bif (takS ((putS (slotsS (steps, [], ops), place (slot, (↑(slotsS (steps, [], ops)).length : Int)), 5, IntKind.i64.wrap (1 + place (op, 1000)), 0, [], pageC)).1, place (slot, (↑(slotsS (steps, [], ops)).length : Int)))).2.2 then bif len40n (takS ((putS (slotsS (steps, [], ops), place (slot, (↑(slotsS (steps, [], ops)).length : Int)), 5, IntKind.i64.wrap (1 + place (op, 1000)), 0, [], pageC)).1, place (slot, (↑(slotsS (steps, [], ops)).length : Int)))).2.1.2.2.2.1 then bif decide ((takS ((putS (slotsS (steps, [], ops), place (slot, (↑(slotsS (steps, [], ops)).length : Int)), 5, IntKind.i64.wrap (1 + place (op, 1000)), 0, [], pageC)).1, place (slot, (↑(slotsS (steps, [], ops)).length : Int)))).2.1 = (5, IntKind.i64.wrap (1 + place (op, 1000)), 0, [], pageC)) then bif okSl (takS ((putS (slotsS (steps, [], ops), place (slot, (↑(slotsS (steps, [], ops)).length : Int)), 5, IntKind.i64.wrap (1 + place (op, 1000)), 0, [], pageC)).1, place (slot, (↑(slotsS (steps, [], ops)).length : Int)))).1 then bif decide ((takS ((putS (slotsS (steps, [], ops), place (slot, (↑(slotsS (steps, [], ops)).length : Int)), 5, IntKind.i64.wrap (1 + place (op, 1000)), 0, [], pageC)).1, place (slot, (↑(slotsS (steps, [], ops)).length : Int)))).1 = slotsS (steps, [], ops)) then bif (putS ((putS (slotsS (steps, [], ops), place (slot, (↑(slotsS (steps, [], ops)).length : Int)), 5, IntKind.i64.wrap (1 + place (op, 1000)), 0, [], pageC)).1, (IntKind.i64.wrap (place (slot, (↑(slotsS (steps, [], ops)).length : Int)) + 1)).tmod (↑(slotsS (steps, [], ops)).length : Int), 5, IntKind.i64.wrap (1 + place (op, 1000)), 0, [], pageC)).2 == 1 then some true else some false else some false else none else some false else none else some false else some false else some false else some false else none else none else none else none else none else none else none else none else none else none := by kernel_rfl
noncomputable def F_ptkl : ((List (SSt)) × (List (Int)) × Int × Int) → Bool
  | (steps, ops, slot, op) => bif !empB ((slotsS (steps, [], ops)).getD (place (slot, (↑(slotsS (steps, [], ops)).length : Int))).toNat (0, 0, 0, [], 0, 0, 0, 0, 0, 0, false, 0, 0, 0, 0)) then bif (putS (slotsS (steps, [], ops), place (slot, (↑(slotsS (steps, [], ops)).length : Int)), 5, IntKind.i64.wrap (1 + place (op, 1000)), 0, [], pageC)).2 == 3 then bif (↑(List.length (putS (slotsS (steps, [], ops), place (slot, (↑(slotsS (steps, [], ops)).length : Int)), 5, IntKind.i64.wrap (1 + place (op, 1000)), 0, [], pageC)).1) : Int) == 0 then true else false else false else bif (putS (slotsS (steps, [], ops), place (slot, (↑(slotsS (steps, [], ops)).length : Int)), 5, IntKind.i64.wrap (1 + place (op, 1000)), 0, [], pageC)).2 == 0 then bif (findS ((putS (slotsS (steps, [], ops), place (slot, (↑(slotsS (steps, [], ops)).length : Int)), 5, IntKind.i64.wrap (1 + place (op, 1000)), 0, [], pageC)).1, 5, IntKind.i64.wrap (1 + place (op, 1000)), 0)).2 then bif (findS ((putS (slotsS (steps, [], ops), place (slot, (↑(slotsS (steps, [], ops)).length : Int)), 5, IntKind.i64.wrap (1 + place (op, 1000)), 0, [], pageC)).1, 5, IntKind.i64.wrap (1 + place (op, 1000)), 0)).1 == place (slot, (↑(slotsS (steps, [], ops)).length : Int)) then bif (takS ((putS (slotsS (steps, [], ops), place (slot, (↑(slotsS (steps, [], ops)).length : Int)), 5, IntKind.i64.wrap (1 + place (op, 1000)), 0, [], pageC)).1, place (slot, (↑(slotsS (steps, [], ops)).length : Int)))).2.2 then bif decide ((takS ((putS (slotsS (steps, [], ops), place (slot, (↑(slotsS (steps, [], ops)).length : Int)), 5, IntKind.i64.wrap (1 + place (op, 1000)), 0, [], pageC)).1, place (slot, (↑(slotsS (steps, [], ops)).length : Int)))).2.1 = (5, IntKind.i64.wrap (1 + place (op, 1000)), 0, [], pageC)) then bif decide ((takS ((putS (slotsS (steps, [], ops), place (slot, (↑(slotsS (steps, [], ops)).length : Int)), 5, IntKind.i64.wrap (1 + place (op, 1000)), 0, [], pageC)).1, place (slot, (↑(slotsS (steps, [], ops)).length : Int)))).1 = slotsS (steps, [], ops)) then bif (putS ((putS (slotsS (steps, [], ops), place (slot, (↑(slotsS (steps, [], ops)).length : Int)), 5, IntKind.i64.wrap (1 + place (op, 1000)), 0, [], pageC)).1, (IntKind.i64.wrap (place (slot, (↑(slotsS (steps, [], ops)).length : Int)) + 1)).tmod (↑(slotsS (steps, [], ops)).length : Int), 5, IntKind.i64.wrap (1 + place (op, 1000)), 0, [], pageC)).2 == 1 then true else false else false else false else false else false else false else false
noncomputable def P_ptkl : ((List (SSt)) × (List (Int)) × Int × Int) → Bool
  | (steps, ops, slot, op) => place_pre (slot, (↑(slotsS (steps, [], ops)).length : Int)) && (okSl (slotsS (steps, [], ops)) && (putPre (slotsS (steps, [], ops), place (slot, (↑(slotsS (steps, [], ops)).length : Int)), 5, IntKind.i64.wrap (1 + place (op, 1000)), 0, [], pageC) && (decide (0 ≤ place (slot, (↑(slotsS (steps, [], ops)).length : Int))) && decide (place (slot, (↑(slotsS (steps, [], ops)).length : Int)) < (↑(slotsS (steps, [], ops)).length : Int)) && bif !empB ((slotsS (steps, [], ops)).getD (place (slot, (↑(slotsS (steps, [], ops)).length : Int))).toNat (0, 0, 0, [], 0, 0, 0, 0, 0, 0, false, 0, 0, 0, 0)) then true else len40n (putS (slotsS (steps, [], ops), place (slot, (↑(slotsS (steps, [], ops)).length : Int)), 5, IntKind.i64.wrap (1 + place (op, 1000)), 0, [], pageC)).1 && (okSl (putS (slotsS (steps, [], ops), place (slot, (↑(slotsS (steps, [], ops)).length : Int)), 5, IntKind.i64.wrap (1 + place (op, 1000)), 0, [], pageC)).1 && (okSl (putS (slotsS (steps, [], ops), place (slot, (↑(slotsS (steps, [], ops)).length : Int)), 5, IntKind.i64.wrap (1 + place (op, 1000)), 0, [], pageC)).1 && ((↑(slotsS (steps, [], ops)).length : Int) != 0 && (okSl (putS (slotsS (steps, [], ops), place (slot, (↑(slotsS (steps, [], ops)).length : Int)), 5, IntKind.i64.wrap (1 + place (op, 1000)), 0, [], pageC)).1 && (putPre ((putS (slotsS (steps, [], ops), place (slot, (↑(slotsS (steps, [], ops)).length : Int)), 5, IntKind.i64.wrap (1 + place (op, 1000)), 0, [], pageC)).1, (IntKind.i64.wrap (place (slot, (↑(slotsS (steps, [], ops)).length : Int)) + 1)).tmod (↑(slotsS (steps, [], ops)).length : Int), 5, IntKind.i64.wrap (1 + place (op, 1000)), 0, [], pageC) && bif (putS (slotsS (steps, [], ops), place (slot, (↑(slotsS (steps, [], ops)).length : Int)), 5, IntKind.i64.wrap (1 + place (op, 1000)), 0, [], pageC)).2 == 0 then bif (findS ((putS (slotsS (steps, [], ops), place (slot, (↑(slotsS (steps, [], ops)).length : Int)), 5, IntKind.i64.wrap (1 + place (op, 1000)), 0, [], pageC)).1, 5, IntKind.i64.wrap (1 + place (op, 1000)), 0)).2 then bif (findS ((putS (slotsS (steps, [], ops), place (slot, (↑(slotsS (steps, [], ops)).length : Int)), 5, IntKind.i64.wrap (1 + place (op, 1000)), 0, [], pageC)).1, 5, IntKind.i64.wrap (1 + place (op, 1000)), 0)).1 == place (slot, (↑(slotsS (steps, [], ops)).length : Int)) then bif (takS ((putS (slotsS (steps, [], ops), place (slot, (↑(slotsS (steps, [], ops)).length : Int)), 5, IntKind.i64.wrap (1 + place (op, 1000)), 0, [], pageC)).1, place (slot, (↑(slotsS (steps, [], ops)).length : Int)))).2.2 then len40n (takS ((putS (slotsS (steps, [], ops), place (slot, (↑(slotsS (steps, [], ops)).length : Int)), 5, IntKind.i64.wrap (1 + place (op, 1000)), 0, [], pageC)).1, place (slot, (↑(slotsS (steps, [], ops)).length : Int)))).2.1.2.2.2.1 && bif decide ((takS ((putS (slotsS (steps, [], ops), place (slot, (↑(slotsS (steps, [], ops)).length : Int)), 5, IntKind.i64.wrap (1 + place (op, 1000)), 0, [], pageC)).1, place (slot, (↑(slotsS (steps, [], ops)).length : Int)))).2.1 = (5, IntKind.i64.wrap (1 + place (op, 1000)), 0, [], pageC)) then okSl (takS ((putS (slotsS (steps, [], ops), place (slot, (↑(slotsS (steps, [], ops)).length : Int)), 5, IntKind.i64.wrap (1 + place (op, 1000)), 0, [], pageC)).1, place (slot, (↑(slotsS (steps, [], ops)).length : Int)))).1 else true else true else true else true else true))))))))
theorem ptkl_auto : ∀ a : (List (SSt)) × (List (Int)) × Int × Int, Rns (fun f => M_ptkl f a) (P_ptkl a) (F_ptkl a)
  | (steps, ops, slot, op) => ev_step (fun f => M_ptkl_eq f _ _ _ _) (ev_chk (ev_chk (ev_chk (ev_chk (ev_bif (ev_bift (ev_bift ev_some ev_some) ev_some) (ev_chk (ev_chk (ev_chk (ev_chk (ev_chk (ev_chk (ev_bif (ev_bif (ev_bif (ev_bif (ev_chk (ev_bif (ev_chk1 (ev_bift (ev_bift ev_some ev_some) ev_some)) ev_some)) ev_some) ev_some) ev_some) ev_some))))))))))))
theorem findI_set {α : Type} {p : α → Bool} {l : List α} {i : Nat} {x : α} (h : i < l.length) (hp : p x = true) (hl : ∀ y ∈ l, p y = false) : findI p (l.set i x) 0 = (i : Int) := by
  have e : (l.set i x).drop i = x :: (l.set i x).drop (i + 1) := by
    rw [List.drop_eq_getElem_cons (by rw [List.length_set]; exact h), List.getElem_set_self]
  have := (findI_at (l.set i x) 0 i x _ e hp).2 (List.any_eq_false.2 fun y hy => by
    rw [List.take_set_of_le (Nat.le_refl i)] at hy
    rw [hl y (List.mem_of_mem_take hy)]; exact Bool.false_ne_true)
  omega
theorem ptkl_true : ∀ a, ∃ f, M_ptkl f a = some true := by
  rintro ⟨steps, ops, slot, op⟩
  have h : P_ptkl (steps, ops, slot, op) = true ∧ F_ptkl (steps, ops, slot, op) = true := by
    simp only [P_ptkl, F_ptkl]
    have v2 := slots_ok (steps, [], ops)
    have v3 := slotsS_len (steps, [], ops)
    have v4 := made steps [] ops
    generalize slotsS (steps, [], ops) = v at *
    have hn : ((v.length : Nat) : Int) = 12 := by omega
    simp only [hn, show ((0, 0, 0, [], 0, 0, 0, 0, 0, 0, false, 0, 0, 0, 0) : SSl) = zSl from rfl]
    have hp := place_range slot (s := 12) (by omega)
    have hq : place_pre (slot, 12) = true := decide_eq_true (by show (12 : Int) ≤ _; omega)
    generalize place (slot, 12) = i at *
    have hw := place_range op (s := 1000) (by omega)
    generalize place (op, 1000) = w at *
    rw [show IntKind.i64.wrap (1 + w) = 1 + w from i64_id (by omega) (by omega), show IntKind.i64.wrap (i + 1) = i + 1 from i64_id (by omega) (by omega)]
    have hv : vnodB (5, 1 + w, 0, [], pageC) = true := by
      rw [vnodB_iff]
      refine ⟨(vidB_iff _).2 ?_, (by decide +kernel : vcapB pageC = true), by simp [npath], by simp [npath], by simp [npath], by simp [npath]⟩
      show (0 : Int) ≤ 5 ∧ (5 : Int) < 32 ∧ 1 ≤ 1 + w ∧ 1 + w ≤ 1073741824 ∧ (0 : Int) ≤ 0 ∧ (0 : Int) < 8
      omega
    have hid : nid ((5, 1 + w, 0, [], pageC) : SNd) = (5, 1 + w, 0) := rfl
    have fa : ∀ y ∈ v, hasS (5, 1 + w, 0) y = false := fun y hy => by
      obtain ⟨j, hj⟩ := List.getElem?_of_mem hy
      have hc := made_core (v4 j y hj)
      cases hh : hasS (5, 1 + w, 0) y
      · rfl
      · rw [hasS_iff] at hh
        rw [hh.2] at hc; cases hc
    have fn : decide (findI (hasS (5, 1 + w, 0)) v 0 ≥ 0) = false := by
      rw [findI_any]; exact List.any_eq_false.2 fun y hy => by rw [fa y hy]; exact Bool.false_ne_true
    have hi : i.toNat < v.length := by omega
    have hg := v4 i.toNat _ (some_getD hi)
    have c1 : decide (i < 0) = false := decide_eq_false (by omega)
    have c2 : decide (i ≥ 12) = false := decide_eq_false (by omega)
    cases he : empB (v.getD i.toNat zSl)
    · have e0 : putS (v, i, 5, 1 + w, 0, [], pageC) = ([], 3) := by
        simp only [putS, hn, c1, c2, hv, hid, fn, he]; rfl
      simp [e0, hq, v2, hp.1, hp.2, putPre]
    · have hsn : snd (v.getD i.toNat zSl) = zNdl := by
        rcases hg.src with h | h
        · exact h.2
        · rw [he] at h; cases h.1
      have hlk : slk (v.getD i.toNat zSl) = (0, 0, 0) := by
        rcases hg.lk with h | h
        · exact h
        · rw [he] at h; cases h.1
      have e0 : putS (v, i, 5, 1 + w, 0, [], pageC) = (v.set i.toNat (mkS (5, 1 + w, 0, [], pageC) (sop (v.getD i.toNat zSl)) (0, 0, 0)), 0) := by
        simp only [putS, hn, c1, c2, hv, hid, fn, he, hlk]; rfl
      have m2 : okSl (v.set i.toNat (mkS (5, 1 + w, 0, [], pageC) (sop (v.getD i.toNat zSl)) (0, 0, 0))) = true := by
        have := putS_ok v2 i (5, 1 + w, 0, [], pageC)
        rw [e0] at this; exact this
      simp only [e0]
      have fx : hasS (5, 1 + w, 0) (mkS (5, 1 + w, 0, [], pageC) (sop (v.getD i.toNat zSl)) (0, 0, 0)) = true := by
        rw [hasS_iff]; exact ⟨decide_eq_false (fun h => by cases h), rfl⟩
      have fs := findI_set hi fx fa
      have e3 : takS (v.set i.toNat (mkS (5, 1 + w, 0, [], pageC) (sop (v.getD i.toNat zSl)) (0, 0, 0)), i) = (v, (5, 1 + w, 0, [], pageC), true) := by
        have g : (v.set i.toNat (mkS (5, 1 + w, 0, [], pageC) (sop (v.getD i.toNat zSl)) (0, 0, 0))).getD i.toNat zSl = mkS (5, 1 + w, 0, [], pageC) (sop (v.getD i.toNat zSl)) (0, 0, 0) := setD_get v i _ _ hi
        have ee : empB (mkS (5, 1 + w, 0, [], pageC) (sop (v.getD i.toNat zSl)) (0, 0, 0)) = false := decide_eq_false (fun h => by cases h)
        have back : v.set i.toNat (mkS zNdl (sop (v.getD i.toNat zSl)) (0, 0, 0)) = v := by
          have : mkS zNdl (sop (v.getD i.toNat zSl)) (0, 0, 0) = v.getD i.toNat zSl := by rw [← hsn, ← hlk]; rfl
          rw [this, List.getD_eq_getElem?_getD, List.getElem?_eq_getElem hi]
          exact List.set_getElem_self hi
        simp only [takS, g, ee, List.length_set, hn, c1, c2, set_set_self, Bool.or_false, cond_false]
        rw [show sop (mkS (5, 1 + w, 0, [], pageC) (sop (v.getD i.toNat zSl)) (0, 0, 0)) = sop (v.getD i.toNat zSl) from rfl, back]; rfl
      have e4 : findS (v.set i.toNat (mkS (5, 1 + w, 0, [], pageC) (sop (v.getD i.toNat zSl)) (0, 0, 0)), 5, 1 + w, 0) = (i, true) := by
        simp only [findS, fs]
        rw [decide_eq_true (show ((i.toNat : Nat) : Int) ≥ 0 by omega), cond_true, show ((i.toNat : Nat) : Int) = i by omega]
      have e5 : ∀ j : Int, (putS (v.set i.toNat (mkS (5, 1 + w, 0, [], pageC) (sop (v.getD i.toNat zSl)) (0, 0, 0)), j, 5, 1 + w, 0, [], pageC)).2 = 1 := fun j => by
        simp only [putS, hid, fs, decide_eq_true (show ((i.toNat : Nat) : Int) ≥ 0 by omega), Bool.or_true]; rfl
      generalize v.set i.toNat (mkS (5, 1 + w, 0, [], pageC) (sop (v.getD i.toNat zSl)) (0, 0, 0)) = m at *
      have m3 : len40n m = true := decide_eq_true (by have := okSl_len m2; omega)
      simp [e3, e4, e5, hq, v2, m2, m3, hp.1, hp.2, putPre, show len40n ([] : List SId) = true from rfl]
  have h1 := ptkl_auto (steps, ops, slot, op) h.1
  rw [h.2] at h1; exact h1
noncomputable def C_lswl : Cfg := ⟨Try.prog, [E_slots, E_at, E_remp, E_csl, E_loc, E_swe, E_sids, E_unl, E_ssl, E_hasId, E_bus, E_emp, E_snode, E_cval, E_awake], pmT [(11, ([(0, []), (2, []), (3, []), (1, []), (4, []), (5, [])], [(12, 12), (61, 65)])), (12, ([(0, []), (2, []), (1, []), (3, []), (4, []), (5, []), (6, []), (7, []), (8, [])], [(13, 14), (66, 72)])), (13, ([(0, []), (1, []), (2, []), (3, []), (4, []), (5, []), (6, []), (7, []), (8, []), (9, []), (10, []), (11, []), (12, []), (13, []), (14, []), (15, []), (16, []), (17, []), (18, []), (19, []), (21, []), (23, []), (20, []), (22, []), (24, []), (25, []), (26, [])], [(73, 99)])), (19, ([(0, []), (1, []), (2, []), (3, []), (5, []), (4, []), (6, []), (7, []), (8, []), (9, []), (10, []), (11, []), (12, []), (13, []), (14, []), (15, []), (16, []), (17, []), (18, []), (19, []), (20, []), (21, []), (22, []), (23, []), (24, []), (25, []), (26, []), (27, []), (28, []), (29, []), (30, []), (31, []), (32, []), (33, []), (34, []), (35, []), (36, []), (37, []), (38, []), (39, []), (40, []), (41, []), (42, []), (43, []), (44, []), (45, []), (46, []), (47, []), (48, []), (49, []), (50, []), (51, []), (52, []), (53, []), (54, []), (55, []), (56, [])], [(114, 170)]))], 180⟩
theorem es_lswl : EsOk Try.prog [E_slots, E_at, E_remp, E_csl, E_loc, E_swe, E_sids, E_unl, E_ssl, E_hasId, E_bus, E_emp, E_snode, E_cval, E_awake] := es_cons E_slots_ok (es_cons E_at_ok (es_cons E_remp_ok (es_cons E_csl_ok (es_cons E_loc_ok (es_cons E_swe_ok (es_cons E_sids_ok (es_cons E_unl_ok (es_cons E_ssl_ok (es_cons E_hasId_ok (es_cons E_bus_ok (es_cons E_emp_ok (es_cons E_snode_ok (es_cons E_cval_ok (es_cons E_awake_ok (es_nil)))))))))))))))
def Lt_lswl : Nat → LD := ldT [(0, ⟨[.rd 2 [.int .i64], .list 7 999 33 15 tSSl, .list 8 998 26 3 tSId, .list 9 997 26 3 tSId, .c 10 (.int .i64)], []⟩), (2, ⟨[.list 7 999 33 15 tSSl, .list 9 998 26 3 tSId, .list 12 997 33 15 tSSl, .list 13 996 33 15 tSSl, .c 15 (.int .i64)], []⟩)]
noncomputable def M_lswl (f : Nat) (a : (List (SSt)) × (List (Int)) × (List (Int))) : Option (Bool) := (runX (C_lswl) Lt_lswl (Kret Try.prog [.tmp 6] [.v (.bool)]) f [.code (bodyOf Try.f9)] (initX [.rd tSSt, .rd [.int .i64], .rd [.int .i64]] a) : Option (ResT [.v (.bool)]))
noncomputable def L_lswl_0 (f : Nat) (x : (List (Int)) × (List (SSl)) × (List (SId)) × (List (SId)) × Int) : Option (Bool) := (runX (C_lswl) Lt_lswl (Kret Try.prog [.tmp 6] [.v (.bool)]) f (headOf Try.f9 0) ((Lt_lswl 0).mk' x) : Option (ResT [.v (.bool)]))
noncomputable def L_lswl_2 (f : Nat) (x : (List (SSl)) × (List (SId)) × (List (SSl)) × (List (SSl)) × Int) : Option (Bool) := (runX (C_lswl) Lt_lswl (Kret Try.prog [.tmp 6] [.v (.bool)]) f (headOf Try.f9 2) ((Lt_lswl 2).mk' x) : Option (ResT [.v (.bool)]))
theorem M_lswl_eq (f : Nat) (steps : List (SSt)) (ops : List (Int)) (pick : List (Int)) : M_lswl (f + 1) (steps, ops, pick) =
    L_lswl_0 f (pick, slotsS (steps, [], ops), [], [], 0) := by kernel_rfl
theorem L_lswl_0_eq (f : Nat) (pick : List (Int)) (l : List (SSl)) (ids : List (SId)) (want : List (SId)) (i : Int) : L_lswl_0 (f + 1) (pick, l, ids, want, i) =
    bif decide (i < (↑l.length : Int)) then bif decide (atS (pick, i) > 0) then bif decide (0 ≤ i) && decide (i < (↑l.length : Int)) then bif !empB (l.getD i.toNat (0, 0, 0, [], 0, 0, 0, 0, 0, 0, false, 0, 0, 0, 0)) then bif decide (0 ≤ i) && decide (i < (↑l.length : Int)) then bif decide ((ids.length + [((l.getD i.toNat (0, 0, 0, [], 0, 0, 0, 0, 0, 0, false, 0, 0, 0, 0)).1, (l.getD i.toNat (0, 0, 0, [], 0, 0, 0, 0, 0, 0, false, 0, 0, 0, 0)).2.1, (l.getD i.toNat (0, 0, 0, [], 0, 0, 0, 0, 0, 0, false, 0, 0, 0, 0)).2.2.1)].length) * 24 ≤ 140737488355328) then bif decide (0 ≤ i) && decide (i < (↑l.length : Int)) then bif decide ((want.length + [((l.getD i.toNat (0, 0, 0, [], 0, 0, 0, 0, 0, 0, false, 0, 0, 0, 0)).1, (l.getD i.toNat (0, 0, 0, [], 0, 0, 0, 0, 0, 0, false, 0, 0, 0, 0)).2.1, (l.getD i.toNat (0, 0, 0, [], 0, 0, 0, 0, 0, 0, false, 0, 0, 0, 0)).2.2.1)].length) * 24 ≤ 140737488355328) then L_lswl_0 f (pick, l, ids ++ [((l.getD i.toNat (0, 0, 0, [], 0, 0, 0, 0, 0, 0, false, 0, 0, 0, 0)).1, (l.getD i.toNat (0, 0, 0, [], 0, 0, 0, 0, 0, 0, false, 0, 0, 0, 0)).2.1, (l.getD i.toNat (0, 0, 0, [], 0, 0, 0, 0, 0, 0, false, 0, 0, 0, 0)).2.2.1)], want ++ [((l.getD i.toNat (0, 0, 0, [], 0, 0, 0, 0, 0, 0, false, 0, 0, 0, 0)).1, (l.getD i.toNat (0, 0, 0, [], 0, 0, 0, 0, 0, 0, false, 0, 0, 0, 0)).2.1, (l.getD i.toNat (0, 0, 0, [], 0, 0, 0, 0, 0, 0, false, 0, 0, 0, 0)).2.2.1)], IntKind.i64.wrap (i + 1)) else none else none else none else none else L_lswl_0 f (pick, l, ids, want, IntKind.i64.wrap (i + 1)) else none else L_lswl_0 f (pick, l, ids, want, IntKind.i64.wrap (i + 1)) else bif decide ((ids.length + [(9, 9, 0)].length) * 24 ≤ 140737488355328) then bif okSl l then bif locPre (l, ids ++ [(9, 9, 0)], 2, 77, 0) then bif okSl (locS (l, ids ++ [(9, 9, 0)], 2, 77, 0)) then bif okSl (locS (l, ids ++ [(9, 9, 0)], 2, 77, 0)) then bif (↑(locS (l, ids ++ [(9, 9, 0)], 2, 77, 0)).length : Int) != (↑l.length : Int) then some false else bif (↑(List.length (sweS (locS (l, ids ++ [(9, 9, 0)], 2, 77, 0), 2, 77, 0)).1) : Int) != (↑l.length : Int) then some false else bif len40n (sweS (locS (l, ids ++ [(9, 9, 0)], 2, 77, 0), 2, 77, 0)).2 then bif !decide ((sweS (locS (l, ids ++ [(9, 9, 0)], 2, 77, 0), 2, 77, 0)).2 = want) then some false else bif okSl (locS (l, ids ++ [(9, 9, 0)], 2, 77, 0)) then bif okSl (locS (l, ids ++ [(9, 9, 0)], 2, 77, 0)) then bif okSl (unlS (locS (l, ids ++ [(9, 9, 0)], 2, 77, 0), 2, 77, 0)) then bif !decide (unlS (locS (l, ids ++ [(9, 9, 0)], 2, 77, 0), 2, 77, 0) = l) then some false else L_lswl_2 f (l, want, locS (l, ids ++ [(9, 9, 0)], 2, 77, 0), (sweS (locS (l, ids ++ [(9, 9, 0)], 2, 77, 0), 2, 77, 0)).1, 0) else none else none else none else none else none else none else none else none else none := by kernel_rfl
theorem L_lswl_2_eq (f : Nat) (l : List (SSl)) (want : List (SId)) (m : List (SSl)) (x : List (SSl)) (i : Int) : L_lswl_2 (f + 1) (l, want, m, x, i) =
    bif decide (i < (↑l.length : Int)) then bif decide (0 ≤ i) && decide (i < (↑l.length : Int)) then bif len40n want then bif decide (0 ≤ i) && decide (i < (↑m.length : Int)) then bif memD ((l.getD i.toNat (0, 0, 0, [], 0, 0, 0, 0, 0, 0, false, 0, 0, 0, 0)).1, (l.getD i.toNat (0, 0, 0, [], 0, 0, 0, 0, 0, 0, false, 0, 0, 0, 0)).2.1, (l.getD i.toNat (0, 0, 0, [], 0, 0, 0, 0, 0, 0, false, 0, 0, 0, 0)).2.2.1) want then bif busB (m.getD i.toNat (0, 0, 0, [], 0, 0, 0, 0, 0, 0, false, 0, 0, 0, 0)) != true then some false else bif decide (0 ≤ i) && decide (i < (↑x.length : Int)) then bif decide (0 ≤ i) && decide (i < (↑l.length : Int)) then bif (x.getD i.toNat (0, 0, 0, [], 0, 0, 0, 0, 0, 0, false, 0, 0, 0, 0)).2.2.2.2.2.2.2.2.2.2.2.1 != (l.getD i.toNat (0, 0, 0, [], 0, 0, 0, 0, 0, 0, false, 0, 0, 0, 0)).2.2.2.2.2.2.2.2.2.2.2.1 then some false else bif memD ((l.getD i.toNat (0, 0, 0, [], 0, 0, 0, 0, 0, 0, false, 0, 0, 0, 0)).1, (l.getD i.toNat (0, 0, 0, [], 0, 0, 0, 0, 0, 0, false, 0, 0, 0, 0)).2.1, (l.getD i.toNat (0, 0, 0, [], 0, 0, 0, 0, 0, 0, false, 0, 0, 0, 0)).2.2.1) want then bif decide (0 ≤ i) && decide (i < (↑x.length : Int)) then bif !empB (x.getD i.toNat (0, 0, 0, [], 0, 0, 0, 0, 0, 0, false, 0, 0, 0, 0)) then some false else bif !memD ((l.getD i.toNat (0, 0, 0, [], 0, 0, 0, 0, 0, 0, false, 0, 0, 0, 0)).1, (l.getD i.toNat (0, 0, 0, [], 0, 0, 0, 0, 0, 0, false, 0, 0, 0, 0)).2.1, (l.getD i.toNat (0, 0, 0, [], 0, 0, 0, 0, 0, 0, false, 0, 0, 0, 0)).2.2.1) want then bif decide (0 ≤ i) && decide (i < (↑x.length : Int)) then bif decide (0 ≤ i) && decide (i < (↑l.length : Int)) then bif len40n (x.getD i.toNat (0, 0, 0, [], 0, 0, 0, 0, 0, 0, false, 0, 0, 0, 0)).2.2.2.1 then bif !decide (((x.getD i.toNat (0, 0, 0, [], 0, 0, 0, 0, 0, 0, false, 0, 0, 0, 0)).1, (x.getD i.toNat (0, 0, 0, [], 0, 0, 0, 0, 0, 0, false, 0, 0, 0, 0)).2.1, (x.getD i.toNat (0, 0, 0, [], 0, 0, 0, 0, 0, 0, false, 0, 0, 0, 0)).2.2.1, (x.getD i.toNat (0, 0, 0, [], 0, 0, 0, 0, 0, 0, false, 0, 0, 0, 0)).2.2.2.1, (x.getD i.toNat (0, 0, 0, [], 0, 0, 0, 0, 0, 0, false, 0, 0, 0, 0)).2.2.2.2.1, (x.getD i.toNat (0, 0, 0, [], 0, 0, 0, 0, 0, 0, false, 0, 0, 0, 0)).2.2.2.2.2.1, (x.getD i.toNat (0, 0, 0, [], 0, 0, 0, 0, 0, 0, false, 0, 0, 0, 0)).2.2.2.2.2.2.1, (x.getD i.toNat (0, 0, 0, [], 0, 0, 0, 0, 0, 0, false, 0, 0, 0, 0)).2.2.2.2.2.2.2.1, (x.getD i.toNat (0, 0, 0, [], 0, 0, 0, 0, 0, 0, false, 0, 0, 0, 0)).2.2.2.2.2.2.2.2.1, (x.getD i.toNat (0, 0, 0, [], 0, 0, 0, 0, 0, 0, false, 0, 0, 0, 0)).2.2.2.2.2.2.2.2.2.1, (x.getD i.toNat (0, 0, 0, [], 0, 0, 0, 0, 0, 0, false, 0, 0, 0, 0)).2.2.2.2.2.2.2.2.2.2.1) = ((l.getD i.toNat (0, 0, 0, [], 0, 0, 0, 0, 0, 0, false, 0, 0, 0, 0)).1, (l.getD i.toNat (0, 0, 0, [], 0, 0, 0, 0, 0, 0, false, 0, 0, 0, 0)).2.1, (l.getD i.toNat (0, 0, 0, [], 0, 0, 0, 0, 0, 0, false, 0, 0, 0, 0)).2.2.1, (l.getD i.toNat (0, 0, 0, [], 0, 0, 0, 0, 0, 0, false, 0, 0, 0, 0)).2.2.2.1, (l.getD i.toNat (0, 0, 0, [], 0, 0, 0, 0, 0, 0, false, 0, 0, 0, 0)).2.2.2.2.1, (l.getD i.toNat (0, 0, 0, [], 0, 0, 0, 0, 0, 0, false, 0, 0, 0, 0)).2.2.2.2.2.1, (l.getD i.toNat (0, 0, 0, [], 0, 0, 0, 0, 0, 0, false, 0, 0, 0, 0)).2.2.2.2.2.2.1, (l.getD i.toNat (0, 0, 0, [], 0, 0, 0, 0, 0, 0, false, 0, 0, 0, 0)).2.2.2.2.2.2.2.1, (l.getD i.toNat (0, 0, 0, [], 0, 0, 0, 0, 0, 0, false, 0, 0, 0, 0)).2.2.2.2.2.2.2.2.1, (l.getD i.toNat (0, 0, 0, [], 0, 0, 0, 0, 0, 0, false, 0, 0, 0, 0)).2.2.2.2.2.2.2.2.2.1, (l.getD i.toNat (0, 0, 0, [], 0, 0, 0, 0, 0, 0, false, 0, 0, 0, 0)).2.2.2.2.2.2.2.2.2.2.1)) then some false else L_lswl_2 f (l, want, m, x, IntKind.i64.wrap (i + 1)) else none else none else none else L_lswl_2 f (l, want, m, x, IntKind.i64.wrap (i + 1)) else none else bif !memD ((l.getD i.toNat (0, 0, 0, [], 0, 0, 0, 0, 0, 0, false, 0, 0, 0, 0)).1, (l.getD i.toNat (0, 0, 0, [], 0, 0, 0, 0, 0, 0, false, 0, 0, 0, 0)).2.1, (l.getD i.toNat (0, 0, 0, [], 0, 0, 0, 0, 0, 0, false, 0, 0, 0, 0)).2.2.1) want then bif decide (0 ≤ i) && decide (i < (↑x.length : Int)) then bif decide (0 ≤ i) && decide (i < (↑l.length : Int)) then bif len40n (x.getD i.toNat (0, 0, 0, [], 0, 0, 0, 0, 0, 0, false, 0, 0, 0, 0)).2.2.2.1 then bif !decide (((x.getD i.toNat (0, 0, 0, [], 0, 0, 0, 0, 0, 0, false, 0, 0, 0, 0)).1, (x.getD i.toNat (0, 0, 0, [], 0, 0, 0, 0, 0, 0, false, 0, 0, 0, 0)).2.1, (x.getD i.toNat (0, 0, 0, [], 0, 0, 0, 0, 0, 0, false, 0, 0, 0, 0)).2.2.1, (x.getD i.toNat (0, 0, 0, [], 0, 0, 0, 0, 0, 0, false, 0, 0, 0, 0)).2.2.2.1, (x.getD i.toNat (0, 0, 0, [], 0, 0, 0, 0, 0, 0, false, 0, 0, 0, 0)).2.2.2.2.1, (x.getD i.toNat (0, 0, 0, [], 0, 0, 0, 0, 0, 0, false, 0, 0, 0, 0)).2.2.2.2.2.1, (x.getD i.toNat (0, 0, 0, [], 0, 0, 0, 0, 0, 0, false, 0, 0, 0, 0)).2.2.2.2.2.2.1, (x.getD i.toNat (0, 0, 0, [], 0, 0, 0, 0, 0, 0, false, 0, 0, 0, 0)).2.2.2.2.2.2.2.1, (x.getD i.toNat (0, 0, 0, [], 0, 0, 0, 0, 0, 0, false, 0, 0, 0, 0)).2.2.2.2.2.2.2.2.1, (x.getD i.toNat (0, 0, 0, [], 0, 0, 0, 0, 0, 0, false, 0, 0, 0, 0)).2.2.2.2.2.2.2.2.2.1, (x.getD i.toNat (0, 0, 0, [], 0, 0, 0, 0, 0, 0, false, 0, 0, 0, 0)).2.2.2.2.2.2.2.2.2.2.1) = ((l.getD i.toNat (0, 0, 0, [], 0, 0, 0, 0, 0, 0, false, 0, 0, 0, 0)).1, (l.getD i.toNat (0, 0, 0, [], 0, 0, 0, 0, 0, 0, false, 0, 0, 0, 0)).2.1, (l.getD i.toNat (0, 0, 0, [], 0, 0, 0, 0, 0, 0, false, 0, 0, 0, 0)).2.2.1, (l.getD i.toNat (0, 0, 0, [], 0, 0, 0, 0, 0, 0, false, 0, 0, 0, 0)).2.2.2.1, (l.getD i.toNat (0, 0, 0, [], 0, 0, 0, 0, 0, 0, false, 0, 0, 0, 0)).2.2.2.2.1, (l.getD i.toNat (0, 0, 0, [], 0, 0, 0, 0, 0, 0, false, 0, 0, 0, 0)).2.2.2.2.2.1, (l.getD i.toNat (0, 0, 0, [], 0, 0, 0, 0, 0, 0, false, 0, 0, 0, 0)).2.2.2.2.2.2.1, (l.getD i.toNat (0, 0, 0, [], 0, 0, 0, 0, 0, 0, false, 0, 0, 0, 0)).2.2.2.2.2.2.2.1, (l.getD i.toNat (0, 0, 0, [], 0, 0, 0, 0, 0, 0, false, 0, 0, 0, 0)).2.2.2.2.2.2.2.2.1, (l.getD i.toNat (0, 0, 0, [], 0, 0, 0, 0, 0, 0, false, 0, 0, 0, 0)).2.2.2.2.2.2.2.2.2.1, (l.getD i.toNat (0, 0, 0, [], 0, 0, 0, 0, 0, 0, false, 0, 0, 0, 0)).2.2.2.2.2.2.2.2.2.2.1)) then some false else L_lswl_2 f (l, want, m, x, IntKind.i64.wrap (i + 1)) else none else none else none else L_lswl_2 f (l, want, m, x, IntKind.i64.wrap (i + 1)) else none else none else bif decide (0 ≤ i) && decide (i < (↑l.length : Int)) then bif busB (m.getD i.toNat (0, 0, 0, [], 0, 0, 0, 0, 0, 0, false, 0, 0, 0, 0)) != ((l.getD i.toNat (0, 0, 0, [], 0, 0, 0, 0, 0, 0, false, 0, 0, 0, 0)).2.2.2.2.2.2.2.2.2.2.2.1 != 0) then some false else bif decide (0 ≤ i) && decide (i < (↑x.length : Int)) then bif decide (0 ≤ i) && decide (i < (↑l.length : Int)) then bif (x.getD i.toNat (0, 0, 0, [], 0, 0, 0, 0, 0, 0, false, 0, 0, 0, 0)).2.2.2.2.2.2.2.2.2.2.2.1 != (l.getD i.toNat (0, 0, 0, [], 0, 0, 0, 0, 0, 0, false, 0, 0, 0, 0)).2.2.2.2.2.2.2.2.2.2.2.1 then some false else bif memD ((l.getD i.toNat (0, 0, 0, [], 0, 0, 0, 0, 0, 0, false, 0, 0, 0, 0)).1, (l.getD i.toNat (0, 0, 0, [], 0, 0, 0, 0, 0, 0, false, 0, 0, 0, 0)).2.1, (l.getD i.toNat (0, 0, 0, [], 0, 0, 0, 0, 0, 0, false, 0, 0, 0, 0)).2.2.1) want then bif decide (0 ≤ i) && decide (i < (↑x.length : Int)) then bif !empB (x.getD i.toNat (0, 0, 0, [], 0, 0, 0, 0, 0, 0, false, 0, 0, 0, 0)) then some false else bif !memD ((l.getD i.toNat (0, 0, 0, [], 0, 0, 0, 0, 0, 0, false, 0, 0, 0, 0)).1, (l.getD i.toNat (0, 0, 0, [], 0, 0, 0, 0, 0, 0, false, 0, 0, 0, 0)).2.1, (l.getD i.toNat (0, 0, 0, [], 0, 0, 0, 0, 0, 0, false, 0, 0, 0, 0)).2.2.1) want then bif decide (0 ≤ i) && decide (i < (↑x.length : Int)) then bif decide (0 ≤ i) && decide (i < (↑l.length : Int)) then bif len40n (x.getD i.toNat (0, 0, 0, [], 0, 0, 0, 0, 0, 0, false, 0, 0, 0, 0)).2.2.2.1 then bif !decide (((x.getD i.toNat (0, 0, 0, [], 0, 0, 0, 0, 0, 0, false, 0, 0, 0, 0)).1, (x.getD i.toNat (0, 0, 0, [], 0, 0, 0, 0, 0, 0, false, 0, 0, 0, 0)).2.1, (x.getD i.toNat (0, 0, 0, [], 0, 0, 0, 0, 0, 0, false, 0, 0, 0, 0)).2.2.1, (x.getD i.toNat (0, 0, 0, [], 0, 0, 0, 0, 0, 0, false, 0, 0, 0, 0)).2.2.2.1, (x.getD i.toNat (0, 0, 0, [], 0, 0, 0, 0, 0, 0, false, 0, 0, 0, 0)).2.2.2.2.1, (x.getD i.toNat (0, 0, 0, [], 0, 0, 0, 0, 0, 0, false, 0, 0, 0, 0)).2.2.2.2.2.1, (x.getD i.toNat (0, 0, 0, [], 0, 0, 0, 0, 0, 0, false, 0, 0, 0, 0)).2.2.2.2.2.2.1, (x.getD i.toNat (0, 0, 0, [], 0, 0, 0, 0, 0, 0, false, 0, 0, 0, 0)).2.2.2.2.2.2.2.1, (x.getD i.toNat (0, 0, 0, [], 0, 0, 0, 0, 0, 0, false, 0, 0, 0, 0)).2.2.2.2.2.2.2.2.1, (x.getD i.toNat (0, 0, 0, [], 0, 0, 0, 0, 0, 0, false, 0, 0, 0, 0)).2.2.2.2.2.2.2.2.2.1, (x.getD i.toNat (0, 0, 0, [], 0, 0, 0, 0, 0, 0, false, 0, 0, 0, 0)).2.2.2.2.2.2.2.2.2.2.1) = ((l.getD i.toNat (0, 0, 0, [], 0, 0, 0, 0, 0, 0, false, 0, 0, 0, 0)).1, (l.getD i.toNat (0, 0, 0, [], 0, 0, 0, 0, 0, 0, false, 0, 0, 0, 0)).2.1, (l.getD i.toNat (0, 0, 0, [], 0, 0, 0, 0, 0, 0, false, 0, 0, 0, 0)).2.2.1, (l.getD i.toNat (0, 0, 0, [], 0, 0, 0, 0, 0, 0, false, 0, 0, 0, 0)).2.2.2.1, (l.getD i.toNat (0, 0, 0, [], 0, 0, 0, 0, 0, 0, false, 0, 0, 0, 0)).2.2.2.2.1, (l.getD i.toNat (0, 0, 0, [], 0, 0, 0, 0, 0, 0, false, 0, 0, 0, 0)).2.2.2.2.2.1, (l.getD i.toNat (0, 0, 0, [], 0, 0, 0, 0, 0, 0, false, 0, 0, 0, 0)).2.2.2.2.2.2.1, (l.getD i.toNat (0, 0, 0, [], 0, 0, 0, 0, 0, 0, false, 0, 0, 0, 0)).2.2.2.2.2.2.2.1, (l.getD i.toNat (0, 0, 0, [], 0, 0, 0, 0, 0, 0, false, 0, 0, 0, 0)).2.2.2.2.2.2.2.2.1, (l.getD i.toNat (0, 0, 0, [], 0, 0, 0, 0, 0, 0, false, 0, 0, 0, 0)).2.2.2.2.2.2.2.2.2.1, (l.getD i.toNat (0, 0, 0, [], 0, 0, 0, 0, 0, 0, false, 0, 0, 0, 0)).2.2.2.2.2.2.2.2.2.2.1)) then some false else L_lswl_2 f (l, want, m, x, IntKind.i64.wrap (i + 1)) else none else none else none else L_lswl_2 f (l, want, m, x, IntKind.i64.wrap (i + 1)) else none else bif !memD ((l.getD i.toNat (0, 0, 0, [], 0, 0, 0, 0, 0, 0, false, 0, 0, 0, 0)).1, (l.getD i.toNat (0, 0, 0, [], 0, 0, 0, 0, 0, 0, false, 0, 0, 0, 0)).2.1, (l.getD i.toNat (0, 0, 0, [], 0, 0, 0, 0, 0, 0, false, 0, 0, 0, 0)).2.2.1) want then bif decide (0 ≤ i) && decide (i < (↑x.length : Int)) then bif decide (0 ≤ i) && decide (i < (↑l.length : Int)) then bif len40n (x.getD i.toNat (0, 0, 0, [], 0, 0, 0, 0, 0, 0, false, 0, 0, 0, 0)).2.2.2.1 then bif !decide (((x.getD i.toNat (0, 0, 0, [], 0, 0, 0, 0, 0, 0, false, 0, 0, 0, 0)).1, (x.getD i.toNat (0, 0, 0, [], 0, 0, 0, 0, 0, 0, false, 0, 0, 0, 0)).2.1, (x.getD i.toNat (0, 0, 0, [], 0, 0, 0, 0, 0, 0, false, 0, 0, 0, 0)).2.2.1, (x.getD i.toNat (0, 0, 0, [], 0, 0, 0, 0, 0, 0, false, 0, 0, 0, 0)).2.2.2.1, (x.getD i.toNat (0, 0, 0, [], 0, 0, 0, 0, 0, 0, false, 0, 0, 0, 0)).2.2.2.2.1, (x.getD i.toNat (0, 0, 0, [], 0, 0, 0, 0, 0, 0, false, 0, 0, 0, 0)).2.2.2.2.2.1, (x.getD i.toNat (0, 0, 0, [], 0, 0, 0, 0, 0, 0, false, 0, 0, 0, 0)).2.2.2.2.2.2.1, (x.getD i.toNat (0, 0, 0, [], 0, 0, 0, 0, 0, 0, false, 0, 0, 0, 0)).2.2.2.2.2.2.2.1, (x.getD i.toNat (0, 0, 0, [], 0, 0, 0, 0, 0, 0, false, 0, 0, 0, 0)).2.2.2.2.2.2.2.2.1, (x.getD i.toNat (0, 0, 0, [], 0, 0, 0, 0, 0, 0, false, 0, 0, 0, 0)).2.2.2.2.2.2.2.2.2.1, (x.getD i.toNat (0, 0, 0, [], 0, 0, 0, 0, 0, 0, false, 0, 0, 0, 0)).2.2.2.2.2.2.2.2.2.2.1) = ((l.getD i.toNat (0, 0, 0, [], 0, 0, 0, 0, 0, 0, false, 0, 0, 0, 0)).1, (l.getD i.toNat (0, 0, 0, [], 0, 0, 0, 0, 0, 0, false, 0, 0, 0, 0)).2.1, (l.getD i.toNat (0, 0, 0, [], 0, 0, 0, 0, 0, 0, false, 0, 0, 0, 0)).2.2.1, (l.getD i.toNat (0, 0, 0, [], 0, 0, 0, 0, 0, 0, false, 0, 0, 0, 0)).2.2.2.1, (l.getD i.toNat (0, 0, 0, [], 0, 0, 0, 0, 0, 0, false, 0, 0, 0, 0)).2.2.2.2.1, (l.getD i.toNat (0, 0, 0, [], 0, 0, 0, 0, 0, 0, false, 0, 0, 0, 0)).2.2.2.2.2.1, (l.getD i.toNat (0, 0, 0, [], 0, 0, 0, 0, 0, 0, false, 0, 0, 0, 0)).2.2.2.2.2.2.1, (l.getD i.toNat (0, 0, 0, [], 0, 0, 0, 0, 0, 0, false, 0, 0, 0, 0)).2.2.2.2.2.2.2.1, (l.getD i.toNat (0, 0, 0, [], 0, 0, 0, 0, 0, 0, false, 0, 0, 0, 0)).2.2.2.2.2.2.2.2.1, (l.getD i.toNat (0, 0, 0, [], 0, 0, 0, 0, 0, 0, false, 0, 0, 0, 0)).2.2.2.2.2.2.2.2.2.1, (l.getD i.toNat (0, 0, 0, [], 0, 0, 0, 0, 0, 0, false, 0, 0, 0, 0)).2.2.2.2.2.2.2.2.2.2.1)) then some false else L_lswl_2 f (l, want, m, x, IntKind.i64.wrap (i + 1)) else none else none else none else L_lswl_2 f (l, want, m, x, IntKind.i64.wrap (i + 1)) else none else none else none else none else none else none else bif okSl m then bif cvalS m then bif okSl x then bif cvalS x then some true else some false else none else some false else none := by kernel_rfl
noncomputable def F_lswl_2 : List (SSl) → ((List (SSl)) × (List (SId)) × (List (SSl)) × (List (SSl)) × Nat) → Bool
  | [], (l, want, m, x, i) => bif cvalS m then bif cvalS x then true else false else false
  | uu :: rest, (l, want, m, x, i) => bif memD (uu.1, uu.2.1, uu.2.2.1) want then bif busB (m.getD (↑i : Int).toNat (0, 0, 0, [], 0, 0, 0, 0, 0, 0, false, 0, 0, 0, 0)) != true then false else bif (x.getD (↑i : Int).toNat (0, 0, 0, [], 0, 0, 0, 0, 0, 0, false, 0, 0, 0, 0)).2.2.2.2.2.2.2.2.2.2.2.1 != uu.2.2.2.2.2.2.2.2.2.2.2.1 then false else bif memD (uu.1, uu.2.1, uu.2.2.1) want then bif !empB (x.getD (↑i : Int).toNat (0, 0, 0, [], 0, 0, 0, 0, 0, 0, false, 0, 0, 0, 0)) then false else bif !memD (uu.1, uu.2.1, uu.2.2.1) want then bif !decide (((x.getD (↑i : Int).toNat (0, 0, 0, [], 0, 0, 0, 0, 0, 0, false, 0, 0, 0, 0)).1, (x.getD (↑i : Int).toNat (0, 0, 0, [], 0, 0, 0, 0, 0, 0, false, 0, 0, 0, 0)).2.1, (x.getD (↑i : Int).toNat (0, 0, 0, [], 0, 0, 0, 0, 0, 0, false, 0, 0, 0, 0)).2.2.1, (x.getD (↑i : Int).toNat (0, 0, 0, [], 0, 0, 0, 0, 0, 0, false, 0, 0, 0, 0)).2.2.2.1, (x.getD (↑i : Int).toNat (0, 0, 0, [], 0, 0, 0, 0, 0, 0, false, 0, 0, 0, 0)).2.2.2.2.1, (x.getD (↑i : Int).toNat (0, 0, 0, [], 0, 0, 0, 0, 0, 0, false, 0, 0, 0, 0)).2.2.2.2.2.1, (x.getD (↑i : Int).toNat (0, 0, 0, [], 0, 0, 0, 0, 0, 0, false, 0, 0, 0, 0)).2.2.2.2.2.2.1, (x.getD (↑i : Int).toNat (0, 0, 0, [], 0, 0, 0, 0, 0, 0, false, 0, 0, 0, 0)).2.2.2.2.2.2.2.1, (x.getD (↑i : Int).toNat (0, 0, 0, [], 0, 0, 0, 0, 0, 0, false, 0, 0, 0, 0)).2.2.2.2.2.2.2.2.1, (x.getD (↑i : Int).toNat (0, 0, 0, [], 0, 0, 0, 0, 0, 0, false, 0, 0, 0, 0)).2.2.2.2.2.2.2.2.2.1, (x.getD (↑i : Int).toNat (0, 0, 0, [], 0, 0, 0, 0, 0, 0, false, 0, 0, 0, 0)).2.2.2.2.2.2.2.2.2.2.1) = (uu.1, uu.2.1, uu.2.2.1, uu.2.2.2.1, uu.2.2.2.2.1, uu.2.2.2.2.2.1, uu.2.2.2.2.2.2.1, uu.2.2.2.2.2.2.2.1, uu.2.2.2.2.2.2.2.2.1, uu.2.2.2.2.2.2.2.2.2.1, uu.2.2.2.2.2.2.2.2.2.2.1)) then false else F_lswl_2 rest (l, want, m, x, i + 1) else F_lswl_2 rest (l, want, m, x, i + 1) else bif !memD (uu.1, uu.2.1, uu.2.2.1) want then bif !decide (((x.getD (↑i : Int).toNat (0, 0, 0, [], 0, 0, 0, 0, 0, 0, false, 0, 0, 0, 0)).1, (x.getD (↑i : Int).toNat (0, 0, 0, [], 0, 0, 0, 0, 0, 0, false, 0, 0, 0, 0)).2.1, (x.getD (↑i : Int).toNat (0, 0, 0, [], 0, 0, 0, 0, 0, 0, false, 0, 0, 0, 0)).2.2.1, (x.getD (↑i : Int).toNat (0, 0, 0, [], 0, 0, 0, 0, 0, 0, false, 0, 0, 0, 0)).2.2.2.1, (x.getD (↑i : Int).toNat (0, 0, 0, [], 0, 0, 0, 0, 0, 0, false, 0, 0, 0, 0)).2.2.2.2.1, (x.getD (↑i : Int).toNat (0, 0, 0, [], 0, 0, 0, 0, 0, 0, false, 0, 0, 0, 0)).2.2.2.2.2.1, (x.getD (↑i : Int).toNat (0, 0, 0, [], 0, 0, 0, 0, 0, 0, false, 0, 0, 0, 0)).2.2.2.2.2.2.1, (x.getD (↑i : Int).toNat (0, 0, 0, [], 0, 0, 0, 0, 0, 0, false, 0, 0, 0, 0)).2.2.2.2.2.2.2.1, (x.getD (↑i : Int).toNat (0, 0, 0, [], 0, 0, 0, 0, 0, 0, false, 0, 0, 0, 0)).2.2.2.2.2.2.2.2.1, (x.getD (↑i : Int).toNat (0, 0, 0, [], 0, 0, 0, 0, 0, 0, false, 0, 0, 0, 0)).2.2.2.2.2.2.2.2.2.1, (x.getD (↑i : Int).toNat (0, 0, 0, [], 0, 0, 0, 0, 0, 0, false, 0, 0, 0, 0)).2.2.2.2.2.2.2.2.2.2.1) = (uu.1, uu.2.1, uu.2.2.1, uu.2.2.2.1, uu.2.2.2.2.1, uu.2.2.2.2.2.1, uu.2.2.2.2.2.2.1, uu.2.2.2.2.2.2.2.1, uu.2.2.2.2.2.2.2.2.1, uu.2.2.2.2.2.2.2.2.2.1, uu.2.2.2.2.2.2.2.2.2.2.1)) then false else F_lswl_2 rest (l, want, m, x, i + 1) else F_lswl_2 rest (l, want, m, x, i + 1) else bif busB (m.getD (↑i : Int).toNat (0, 0, 0, [], 0, 0, 0, 0, 0, 0, false, 0, 0, 0, 0)) != (uu.2.2.2.2.2.2.2.2.2.2.2.1 != 0) then false else bif (x.getD (↑i : Int).toNat (0, 0, 0, [], 0, 0, 0, 0, 0, 0, false, 0, 0, 0, 0)).2.2.2.2.2.2.2.2.2.2.2.1 != uu.2.2.2.2.2.2.2.2.2.2.2.1 then false else bif memD (uu.1, uu.2.1, uu.2.2.1) want then bif !empB (x.getD (↑i : Int).toNat (0, 0, 0, [], 0, 0, 0, 0, 0, 0, false, 0, 0, 0, 0)) then false else bif !memD (uu.1, uu.2.1, uu.2.2.1) want then bif !decide (((x.getD (↑i : Int).toNat (0, 0, 0, [], 0, 0, 0, 0, 0, 0, false, 0, 0, 0, 0)).1, (x.getD (↑i : Int).toNat (0, 0, 0, [], 0, 0, 0, 0, 0, 0, false, 0, 0, 0, 0)).2.1, (x.getD (↑i : Int).toNat (0, 0, 0, [], 0, 0, 0, 0, 0, 0, false, 0, 0, 0, 0)).2.2.1, (x.getD (↑i : Int).toNat (0, 0, 0, [], 0, 0, 0, 0, 0, 0, false, 0, 0, 0, 0)).2.2.2.1, (x.getD (↑i : Int).toNat (0, 0, 0, [], 0, 0, 0, 0, 0, 0, false, 0, 0, 0, 0)).2.2.2.2.1, (x.getD (↑i : Int).toNat (0, 0, 0, [], 0, 0, 0, 0, 0, 0, false, 0, 0, 0, 0)).2.2.2.2.2.1, (x.getD (↑i : Int).toNat (0, 0, 0, [], 0, 0, 0, 0, 0, 0, false, 0, 0, 0, 0)).2.2.2.2.2.2.1, (x.getD (↑i : Int).toNat (0, 0, 0, [], 0, 0, 0, 0, 0, 0, false, 0, 0, 0, 0)).2.2.2.2.2.2.2.1, (x.getD (↑i : Int).toNat (0, 0, 0, [], 0, 0, 0, 0, 0, 0, false, 0, 0, 0, 0)).2.2.2.2.2.2.2.2.1, (x.getD (↑i : Int).toNat (0, 0, 0, [], 0, 0, 0, 0, 0, 0, false, 0, 0, 0, 0)).2.2.2.2.2.2.2.2.2.1, (x.getD (↑i : Int).toNat (0, 0, 0, [], 0, 0, 0, 0, 0, 0, false, 0, 0, 0, 0)).2.2.2.2.2.2.2.2.2.2.1) = (uu.1, uu.2.1, uu.2.2.1, uu.2.2.2.1, uu.2.2.2.2.1, uu.2.2.2.2.2.1, uu.2.2.2.2.2.2.1, uu.2.2.2.2.2.2.2.1, uu.2.2.2.2.2.2.2.2.1, uu.2.2.2.2.2.2.2.2.2.1, uu.2.2.2.2.2.2.2.2.2.2.1)) then false else F_lswl_2 rest (l, want, m, x, i + 1) else F_lswl_2 rest (l, want, m, x, i + 1) else bif !memD (uu.1, uu.2.1, uu.2.2.1) want then bif !decide (((x.getD (↑i : Int).toNat (0, 0, 0, [], 0, 0, 0, 0, 0, 0, false, 0, 0, 0, 0)).1, (x.getD (↑i : Int).toNat (0, 0, 0, [], 0, 0, 0, 0, 0, 0, false, 0, 0, 0, 0)).2.1, (x.getD (↑i : Int).toNat (0, 0, 0, [], 0, 0, 0, 0, 0, 0, false, 0, 0, 0, 0)).2.2.1, (x.getD (↑i : Int).toNat (0, 0, 0, [], 0, 0, 0, 0, 0, 0, false, 0, 0, 0, 0)).2.2.2.1, (x.getD (↑i : Int).toNat (0, 0, 0, [], 0, 0, 0, 0, 0, 0, false, 0, 0, 0, 0)).2.2.2.2.1, (x.getD (↑i : Int).toNat (0, 0, 0, [], 0, 0, 0, 0, 0, 0, false, 0, 0, 0, 0)).2.2.2.2.2.1, (x.getD (↑i : Int).toNat (0, 0, 0, [], 0, 0, 0, 0, 0, 0, false, 0, 0, 0, 0)).2.2.2.2.2.2.1, (x.getD (↑i : Int).toNat (0, 0, 0, [], 0, 0, 0, 0, 0, 0, false, 0, 0, 0, 0)).2.2.2.2.2.2.2.1, (x.getD (↑i : Int).toNat (0, 0, 0, [], 0, 0, 0, 0, 0, 0, false, 0, 0, 0, 0)).2.2.2.2.2.2.2.2.1, (x.getD (↑i : Int).toNat (0, 0, 0, [], 0, 0, 0, 0, 0, 0, false, 0, 0, 0, 0)).2.2.2.2.2.2.2.2.2.1, (x.getD (↑i : Int).toNat (0, 0, 0, [], 0, 0, 0, 0, 0, 0, false, 0, 0, 0, 0)).2.2.2.2.2.2.2.2.2.2.1) = (uu.1, uu.2.1, uu.2.2.1, uu.2.2.2.1, uu.2.2.2.2.1, uu.2.2.2.2.2.1, uu.2.2.2.2.2.2.1, uu.2.2.2.2.2.2.2.1, uu.2.2.2.2.2.2.2.2.1, uu.2.2.2.2.2.2.2.2.2.1, uu.2.2.2.2.2.2.2.2.2.2.1)) then false else F_lswl_2 rest (l, want, m, x, i + 1) else F_lswl_2 rest (l, want, m, x, i + 1)
noncomputable def P_lswl_2 : List (SSl) → ((List (SSl)) × (List (SId)) × (List (SSl)) × (List (SSl)) × Nat) → Bool
  | [], (l, want, m, x, i) => okSl m && bif cvalS m then okSl x else true
  | uu :: rest, (l, want, m, x, i) => len40n want && (decide ((↑i : Int) < (↑m.length : Int)) && bif memD (uu.1, uu.2.1, uu.2.2.1) want then bif busB (m.getD (↑i : Int).toNat (0, 0, 0, [], 0, 0, 0, 0, 0, 0, false, 0, 0, 0, 0)) != true then true else decide ((↑i : Int) < (↑x.length : Int)) && bif (x.getD (↑i : Int).toNat (0, 0, 0, [], 0, 0, 0, 0, 0, 0, false, 0, 0, 0, 0)).2.2.2.2.2.2.2.2.2.2.2.1 != uu.2.2.2.2.2.2.2.2.2.2.2.1 then true else bif memD (uu.1, uu.2.1, uu.2.2.1) want then decide ((↑i : Int) < (↑x.length : Int)) && bif !empB (x.getD (↑i : Int).toNat (0, 0, 0, [], 0, 0, 0, 0, 0, 0, false, 0, 0, 0, 0)) then true else bif !memD (uu.1, uu.2.1, uu.2.2.1) want then decide ((↑i : Int) < (↑x.length : Int)) && (len40n (x.getD (↑i : Int).toNat (0, 0, 0, [], 0, 0, 0, 0, 0, 0, false, 0, 0, 0, 0)).2.2.2.1 && bif !decide (((x.getD (↑i : Int).toNat (0, 0, 0, [], 0, 0, 0, 0, 0, 0, false, 0, 0, 0, 0)).1, (x.getD (↑i : Int).toNat (0, 0, 0, [], 0, 0, 0, 0, 0, 0, false, 0, 0, 0, 0)).2.1, (x.getD (↑i : Int).toNat (0, 0, 0, [], 0, 0, 0, 0, 0, 0, false, 0, 0, 0, 0)).2.2.1, (x.getD (↑i : Int).toNat (0, 0, 0, [], 0, 0, 0, 0, 0, 0, false, 0, 0, 0, 0)).2.2.2.1, (x.getD (↑i : Int).toNat (0, 0, 0, [], 0, 0, 0, 0, 0, 0, false, 0, 0, 0, 0)).2.2.2.2.1, (x.getD (↑i : Int).toNat (0, 0, 0, [], 0, 0, 0, 0, 0, 0, false, 0, 0, 0, 0)).2.2.2.2.2.1, (x.getD (↑i : Int).toNat (0, 0, 0, [], 0, 0, 0, 0, 0, 0, false, 0, 0, 0, 0)).2.2.2.2.2.2.1, (x.getD (↑i : Int).toNat (0, 0, 0, [], 0, 0, 0, 0, 0, 0, false, 0, 0, 0, 0)).2.2.2.2.2.2.2.1, (x.getD (↑i : Int).toNat (0, 0, 0, [], 0, 0, 0, 0, 0, 0, false, 0, 0, 0, 0)).2.2.2.2.2.2.2.2.1, (x.getD (↑i : Int).toNat (0, 0, 0, [], 0, 0, 0, 0, 0, 0, false, 0, 0, 0, 0)).2.2.2.2.2.2.2.2.2.1, (x.getD (↑i : Int).toNat (0, 0, 0, [], 0, 0, 0, 0, 0, 0, false, 0, 0, 0, 0)).2.2.2.2.2.2.2.2.2.2.1) = (uu.1, uu.2.1, uu.2.2.1, uu.2.2.2.1, uu.2.2.2.2.1, uu.2.2.2.2.2.1, uu.2.2.2.2.2.2.1, uu.2.2.2.2.2.2.2.1, uu.2.2.2.2.2.2.2.2.1, uu.2.2.2.2.2.2.2.2.2.1, uu.2.2.2.2.2.2.2.2.2.2.1)) then true else P_lswl_2 rest (l, want, m, x, i + 1)) else P_lswl_2 rest (l, want, m, x, i + 1) else bif !memD (uu.1, uu.2.1, uu.2.2.1) want then decide ((↑i : Int) < (↑x.length : Int)) && (len40n (x.getD (↑i : Int).toNat (0, 0, 0, [], 0, 0, 0, 0, 0, 0, false, 0, 0, 0, 0)).2.2.2.1 && bif !decide (((x.getD (↑i : Int).toNat (0, 0, 0, [], 0, 0, 0, 0, 0, 0, false, 0, 0, 0, 0)).1, (x.getD (↑i : Int).toNat (0, 0, 0, [], 0, 0, 0, 0, 0, 0, false, 0, 0, 0, 0)).2.1, (x.getD (↑i : Int).toNat (0, 0, 0, [], 0, 0, 0, 0, 0, 0, false, 0, 0, 0, 0)).2.2.1, (x.getD (↑i : Int).toNat (0, 0, 0, [], 0, 0, 0, 0, 0, 0, false, 0, 0, 0, 0)).2.2.2.1, (x.getD (↑i : Int).toNat (0, 0, 0, [], 0, 0, 0, 0, 0, 0, false, 0, 0, 0, 0)).2.2.2.2.1, (x.getD (↑i : Int).toNat (0, 0, 0, [], 0, 0, 0, 0, 0, 0, false, 0, 0, 0, 0)).2.2.2.2.2.1, (x.getD (↑i : Int).toNat (0, 0, 0, [], 0, 0, 0, 0, 0, 0, false, 0, 0, 0, 0)).2.2.2.2.2.2.1, (x.getD (↑i : Int).toNat (0, 0, 0, [], 0, 0, 0, 0, 0, 0, false, 0, 0, 0, 0)).2.2.2.2.2.2.2.1, (x.getD (↑i : Int).toNat (0, 0, 0, [], 0, 0, 0, 0, 0, 0, false, 0, 0, 0, 0)).2.2.2.2.2.2.2.2.1, (x.getD (↑i : Int).toNat (0, 0, 0, [], 0, 0, 0, 0, 0, 0, false, 0, 0, 0, 0)).2.2.2.2.2.2.2.2.2.1, (x.getD (↑i : Int).toNat (0, 0, 0, [], 0, 0, 0, 0, 0, 0, false, 0, 0, 0, 0)).2.2.2.2.2.2.2.2.2.2.1) = (uu.1, uu.2.1, uu.2.2.1, uu.2.2.2.1, uu.2.2.2.2.1, uu.2.2.2.2.2.1, uu.2.2.2.2.2.2.1, uu.2.2.2.2.2.2.2.1, uu.2.2.2.2.2.2.2.2.1, uu.2.2.2.2.2.2.2.2.2.1, uu.2.2.2.2.2.2.2.2.2.2.1)) then true else P_lswl_2 rest (l, want, m, x, i + 1)) else P_lswl_2 rest (l, want, m, x, i + 1) else bif busB (m.getD (↑i : Int).toNat (0, 0, 0, [], 0, 0, 0, 0, 0, 0, false, 0, 0, 0, 0)) != (uu.2.2.2.2.2.2.2.2.2.2.2.1 != 0) then true else decide ((↑i : Int) < (↑x.length : Int)) && bif (x.getD (↑i : Int).toNat (0, 0, 0, [], 0, 0, 0, 0, 0, 0, false, 0, 0, 0, 0)).2.2.2.2.2.2.2.2.2.2.2.1 != uu.2.2.2.2.2.2.2.2.2.2.2.1 then true else bif memD (uu.1, uu.2.1, uu.2.2.1) want then decide ((↑i : Int) < (↑x.length : Int)) && bif !empB (x.getD (↑i : Int).toNat (0, 0, 0, [], 0, 0, 0, 0, 0, 0, false, 0, 0, 0, 0)) then true else bif !memD (uu.1, uu.2.1, uu.2.2.1) want then decide ((↑i : Int) < (↑x.length : Int)) && (len40n (x.getD (↑i : Int).toNat (0, 0, 0, [], 0, 0, 0, 0, 0, 0, false, 0, 0, 0, 0)).2.2.2.1 && bif !decide (((x.getD (↑i : Int).toNat (0, 0, 0, [], 0, 0, 0, 0, 0, 0, false, 0, 0, 0, 0)).1, (x.getD (↑i : Int).toNat (0, 0, 0, [], 0, 0, 0, 0, 0, 0, false, 0, 0, 0, 0)).2.1, (x.getD (↑i : Int).toNat (0, 0, 0, [], 0, 0, 0, 0, 0, 0, false, 0, 0, 0, 0)).2.2.1, (x.getD (↑i : Int).toNat (0, 0, 0, [], 0, 0, 0, 0, 0, 0, false, 0, 0, 0, 0)).2.2.2.1, (x.getD (↑i : Int).toNat (0, 0, 0, [], 0, 0, 0, 0, 0, 0, false, 0, 0, 0, 0)).2.2.2.2.1, (x.getD (↑i : Int).toNat (0, 0, 0, [], 0, 0, 0, 0, 0, 0, false, 0, 0, 0, 0)).2.2.2.2.2.1, (x.getD (↑i : Int).toNat (0, 0, 0, [], 0, 0, 0, 0, 0, 0, false, 0, 0, 0, 0)).2.2.2.2.2.2.1, (x.getD (↑i : Int).toNat (0, 0, 0, [], 0, 0, 0, 0, 0, 0, false, 0, 0, 0, 0)).2.2.2.2.2.2.2.1, (x.getD (↑i : Int).toNat (0, 0, 0, [], 0, 0, 0, 0, 0, 0, false, 0, 0, 0, 0)).2.2.2.2.2.2.2.2.1, (x.getD (↑i : Int).toNat (0, 0, 0, [], 0, 0, 0, 0, 0, 0, false, 0, 0, 0, 0)).2.2.2.2.2.2.2.2.2.1, (x.getD (↑i : Int).toNat (0, 0, 0, [], 0, 0, 0, 0, 0, 0, false, 0, 0, 0, 0)).2.2.2.2.2.2.2.2.2.2.1) = (uu.1, uu.2.1, uu.2.2.1, uu.2.2.2.1, uu.2.2.2.2.1, uu.2.2.2.2.2.1, uu.2.2.2.2.2.2.1, uu.2.2.2.2.2.2.2.1, uu.2.2.2.2.2.2.2.2.1, uu.2.2.2.2.2.2.2.2.2.1, uu.2.2.2.2.2.2.2.2.2.2.1)) then true else P_lswl_2 rest (l, want, m, x, i + 1)) else P_lswl_2 rest (l, want, m, x, i + 1) else bif !memD (uu.1, uu.2.1, uu.2.2.1) want then decide ((↑i : Int) < (↑x.length : Int)) && (len40n (x.getD (↑i : Int).toNat (0, 0, 0, [], 0, 0, 0, 0, 0, 0, false, 0, 0, 0, 0)).2.2.2.1 && bif !decide (((x.getD (↑i : Int).toNat (0, 0, 0, [], 0, 0, 0, 0, 0, 0, false, 0, 0, 0, 0)).1, (x.getD (↑i : Int).toNat (0, 0, 0, [], 0, 0, 0, 0, 0, 0, false, 0, 0, 0, 0)).2.1, (x.getD (↑i : Int).toNat (0, 0, 0, [], 0, 0, 0, 0, 0, 0, false, 0, 0, 0, 0)).2.2.1, (x.getD (↑i : Int).toNat (0, 0, 0, [], 0, 0, 0, 0, 0, 0, false, 0, 0, 0, 0)).2.2.2.1, (x.getD (↑i : Int).toNat (0, 0, 0, [], 0, 0, 0, 0, 0, 0, false, 0, 0, 0, 0)).2.2.2.2.1, (x.getD (↑i : Int).toNat (0, 0, 0, [], 0, 0, 0, 0, 0, 0, false, 0, 0, 0, 0)).2.2.2.2.2.1, (x.getD (↑i : Int).toNat (0, 0, 0, [], 0, 0, 0, 0, 0, 0, false, 0, 0, 0, 0)).2.2.2.2.2.2.1, (x.getD (↑i : Int).toNat (0, 0, 0, [], 0, 0, 0, 0, 0, 0, false, 0, 0, 0, 0)).2.2.2.2.2.2.2.1, (x.getD (↑i : Int).toNat (0, 0, 0, [], 0, 0, 0, 0, 0, 0, false, 0, 0, 0, 0)).2.2.2.2.2.2.2.2.1, (x.getD (↑i : Int).toNat (0, 0, 0, [], 0, 0, 0, 0, 0, 0, false, 0, 0, 0, 0)).2.2.2.2.2.2.2.2.2.1, (x.getD (↑i : Int).toNat (0, 0, 0, [], 0, 0, 0, 0, 0, 0, false, 0, 0, 0, 0)).2.2.2.2.2.2.2.2.2.2.1) = (uu.1, uu.2.1, uu.2.2.1, uu.2.2.2.1, uu.2.2.2.2.1, uu.2.2.2.2.2.1, uu.2.2.2.2.2.2.1, uu.2.2.2.2.2.2.2.1, uu.2.2.2.2.2.2.2.2.1, uu.2.2.2.2.2.2.2.2.2.1, uu.2.2.2.2.2.2.2.2.2.2.1)) then true else P_lswl_2 rest (l, want, m, x, i + 1)) else P_lswl_2 rest (l, want, m, x, i + 1))
theorem A_lswl_2 : ∀ (rest : List (SSl)) (l : List (SSl)) (want : List (SId)) (m : List (SSl)) (x : List (SSl)) (i : Nat) (hd : l.drop i = rest) (hl : l.length ≤ 1099511627776), Rns (fun f => L_lswl_2 f (l, want, m, x, ((i : Nat) : Int))) (P_lswl_2 rest (l, want, m, x, i)) (F_lswl_2 rest (l, want, m, x, i))
  | [], l, want, m, x, i, hd, hl => ev_step (T := fun f => bif okSl m then bif cvalS m then bif okSl x then bif cvalS x then some true else some false else none else some false else none) (fun f => (L_lswl_2_eq f _ _ _ _ _).trans (by simp only [ge_dec (drop_ge hd), ge0, Bool.and_self, Bool.true_and, cond_true, cond_false, List.length_set])) (ev_chk (ev_bif (ev_chk1 (ev_bift ev_some ev_some)) ev_some))
  | uu :: rest, l, want, m, x, i, hd, hl => ev_step (T := fun f => bif len40n want then bif decide ((↑i : Int) < (↑m.length : Int)) then bif memD (uu.1, uu.2.1, uu.2.2.1) want then bif busB (m.getD (↑i : Int).toNat (0, 0, 0, [], 0, 0, 0, 0, 0, 0, false, 0, 0, 0, 0)) != true then some false else bif decide ((↑i : Int) < (↑x.length : Int)) then bif (x.getD (↑i : Int).toNat (0, 0, 0, [], 0, 0, 0, 0, 0, 0, false, 0, 0, 0, 0)).2.2.2.2.2.2.2.2.2.2.2.1 != uu.2.2.2.2.2.2.2.2.2.2.2.1 then some false else bif memD (uu.1, uu.2.1, uu.2.2.1) want then bif decide ((↑i : Int) < (↑x.length : Int)) then bif !empB (x.getD (↑i : Int).toNat (0, 0, 0, [], 0, 0, 0, 0, 0, 0, false, 0, 0, 0, 0)) then some false else bif !memD (uu.1, uu.2.1, uu.2.2.1) want then bif decide ((↑i : Int) < (↑x.length : Int)) then bif len40n (x.getD (↑i : Int).toNat (0, 0, 0, [], 0, 0, 0, 0, 0, 0, false, 0, 0, 0, 0)).2.2.2.1 then bif !decide (((x.getD (↑i : Int).toNat (0, 0, 0, [], 0, 0, 0, 0, 0, 0, false, 0, 0, 0, 0)).1, (x.getD (↑i : Int).toNat (0, 0, 0, [], 0, 0, 0, 0, 0, 0, false, 0, 0, 0, 0)).2.1, (x.getD (↑i : Int).toNat (0, 0, 0, [], 0, 0, 0, 0, 0, 0, false, 0, 0, 0, 0)).2.2.1, (x.getD (↑i : Int).toNat (0, 0, 0, [], 0, 0, 0, 0, 0, 0, false, 0, 0, 0, 0)).2.2.2.1, (x.getD (↑i : Int).toNat (0, 0, 0, [], 0, 0, 0, 0, 0, 0, false, 0, 0, 0, 0)).2.2.2.2.1, (x.getD (↑i : Int).toNat (0, 0, 0, [], 0, 0, 0, 0, 0, 0, false, 0, 0, 0, 0)).2.2.2.2.2.1, (x.getD (↑i : Int).toNat (0, 0, 0, [], 0, 0, 0, 0, 0, 0, false, 0, 0, 0, 0)).2.2.2.2.2.2.1, (x.getD (↑i : Int).toNat (0, 0, 0, [], 0, 0, 0, 0, 0, 0, false, 0, 0, 0, 0)).2.2.2.2.2.2.2.1, (x.getD (↑i : Int).toNat (0, 0, 0, [], 0, 0, 0, 0, 0, 0, false, 0, 0, 0, 0)).2.2.2.2.2.2.2.2.1, (x.getD (↑i : Int).toNat (0, 0, 0, [], 0, 0, 0, 0, 0, 0, false, 0, 0, 0, 0)).2.2.2.2.2.2.2.2.2.1, (x.getD (↑i : Int).toNat (0, 0, 0, [], 0, 0, 0, 0, 0, 0, false, 0, 0, 0, 0)).2.2.2.2.2.2.2.2.2.2.1) = (uu.1, uu.2.1, uu.2.2.1, uu.2.2.2.1, uu.2.2.2.2.1, uu.2.2.2.2.2.1, uu.2.2.2.2.2.2.1, uu.2.2.2.2.2.2.2.1, uu.2.2.2.2.2.2.2.2.1, uu.2.2.2.2.2.2.2.2.2.1, uu.2.2.2.2.2.2.2.2.2.2.1)) then some false else L_lswl_2 f (l, want, m, x, (↑(i + 1) : Int)) else none else none else L_lswl_2 f (l, want, m, x, (↑(i + 1) : Int)) else none else bif !memD (uu.1, uu.2.1, uu.2.2.1) want then bif decide ((↑i : Int) < (↑x.length : Int)) then bif len40n (x.getD (↑i : Int).toNat (0, 0, 0, [], 0, 0, 0, 0, 0, 0, false, 0, 0, 0, 0)).2.2.2.1 then bif !decide (((x.getD (↑i : Int).toNat (0, 0, 0, [], 0, 0, 0, 0, 0, 0, false, 0, 0, 0, 0)).1, (x.getD (↑i : Int).toNat (0, 0, 0, [], 0, 0, 0, 0, 0, 0, false, 0, 0, 0, 0)).2.1, (x.getD (↑i : Int).toNat (0, 0, 0, [], 0, 0, 0, 0, 0, 0, false, 0, 0, 0, 0)).2.2.1, (x.getD (↑i : Int).toNat (0, 0, 0, [], 0, 0, 0, 0, 0, 0, false, 0, 0, 0, 0)).2.2.2.1, (x.getD (↑i : Int).toNat (0, 0, 0, [], 0, 0, 0, 0, 0, 0, false, 0, 0, 0, 0)).2.2.2.2.1, (x.getD (↑i : Int).toNat (0, 0, 0, [], 0, 0, 0, 0, 0, 0, false, 0, 0, 0, 0)).2.2.2.2.2.1, (x.getD (↑i : Int).toNat (0, 0, 0, [], 0, 0, 0, 0, 0, 0, false, 0, 0, 0, 0)).2.2.2.2.2.2.1, (x.getD (↑i : Int).toNat (0, 0, 0, [], 0, 0, 0, 0, 0, 0, false, 0, 0, 0, 0)).2.2.2.2.2.2.2.1, (x.getD (↑i : Int).toNat (0, 0, 0, [], 0, 0, 0, 0, 0, 0, false, 0, 0, 0, 0)).2.2.2.2.2.2.2.2.1, (x.getD (↑i : Int).toNat (0, 0, 0, [], 0, 0, 0, 0, 0, 0, false, 0, 0, 0, 0)).2.2.2.2.2.2.2.2.2.1, (x.getD (↑i : Int).toNat (0, 0, 0, [], 0, 0, 0, 0, 0, 0, false, 0, 0, 0, 0)).2.2.2.2.2.2.2.2.2.2.1) = (uu.1, uu.2.1, uu.2.2.1, uu.2.2.2.1, uu.2.2.2.2.1, uu.2.2.2.2.2.1, uu.2.2.2.2.2.2.1, uu.2.2.2.2.2.2.2.1, uu.2.2.2.2.2.2.2.2.1, uu.2.2.2.2.2.2.2.2.2.1, uu.2.2.2.2.2.2.2.2.2.2.1)) then some false else L_lswl_2 f (l, want, m, x, (↑(i + 1) : Int)) else none else none else L_lswl_2 f (l, want, m, x, (↑(i + 1) : Int)) else none else bif busB (m.getD (↑i : Int).toNat (0, 0, 0, [], 0, 0, 0, 0, 0, 0, false, 0, 0, 0, 0)) != (uu.2.2.2.2.2.2.2.2.2.2.2.1 != 0) then some false else bif decide ((↑i : Int) < (↑x.length : Int)) then bif (x.getD (↑i : Int).toNat (0, 0, 0, [], 0, 0, 0, 0, 0, 0, false, 0, 0, 0, 0)).2.2.2.2.2.2.2.2.2.2.2.1 != uu.2.2.2.2.2.2.2.2.2.2.2.1 then some false else bif memD (uu.1, uu.2.1, uu.2.2.1) want then bif decide ((↑i : Int) < (↑x.length : Int)) then bif !empB (x.getD (↑i : Int).toNat (0, 0, 0, [], 0, 0, 0, 0, 0, 0, false, 0, 0, 0, 0)) then some false else bif !memD (uu.1, uu.2.1, uu.2.2.1) want then bif decide ((↑i : Int) < (↑x.length : Int)) then bif len40n (x.getD (↑i : Int).toNat (0, 0, 0, [], 0, 0, 0, 0, 0, 0, false, 0, 0, 0, 0)).2.2.2.1 then bif !decide (((x.getD (↑i : Int).toNat (0, 0, 0, [], 0, 0, 0, 0, 0, 0, false, 0, 0, 0, 0)).1, (x.getD (↑i : Int).toNat (0, 0, 0, [], 0, 0, 0, 0, 0, 0, false, 0, 0, 0, 0)).2.1, (x.getD (↑i : Int).toNat (0, 0, 0, [], 0, 0, 0, 0, 0, 0, false, 0, 0, 0, 0)).2.2.1, (x.getD (↑i : Int).toNat (0, 0, 0, [], 0, 0, 0, 0, 0, 0, false, 0, 0, 0, 0)).2.2.2.1, (x.getD (↑i : Int).toNat (0, 0, 0, [], 0, 0, 0, 0, 0, 0, false, 0, 0, 0, 0)).2.2.2.2.1, (x.getD (↑i : Int).toNat (0, 0, 0, [], 0, 0, 0, 0, 0, 0, false, 0, 0, 0, 0)).2.2.2.2.2.1, (x.getD (↑i : Int).toNat (0, 0, 0, [], 0, 0, 0, 0, 0, 0, false, 0, 0, 0, 0)).2.2.2.2.2.2.1, (x.getD (↑i : Int).toNat (0, 0, 0, [], 0, 0, 0, 0, 0, 0, false, 0, 0, 0, 0)).2.2.2.2.2.2.2.1, (x.getD (↑i : Int).toNat (0, 0, 0, [], 0, 0, 0, 0, 0, 0, false, 0, 0, 0, 0)).2.2.2.2.2.2.2.2.1, (x.getD (↑i : Int).toNat (0, 0, 0, [], 0, 0, 0, 0, 0, 0, false, 0, 0, 0, 0)).2.2.2.2.2.2.2.2.2.1, (x.getD (↑i : Int).toNat (0, 0, 0, [], 0, 0, 0, 0, 0, 0, false, 0, 0, 0, 0)).2.2.2.2.2.2.2.2.2.2.1) = (uu.1, uu.2.1, uu.2.2.1, uu.2.2.2.1, uu.2.2.2.2.1, uu.2.2.2.2.2.1, uu.2.2.2.2.2.2.1, uu.2.2.2.2.2.2.2.1, uu.2.2.2.2.2.2.2.2.1, uu.2.2.2.2.2.2.2.2.2.1, uu.2.2.2.2.2.2.2.2.2.2.1)) then some false else L_lswl_2 f (l, want, m, x, (↑(i + 1) : Int)) else none else none else L_lswl_2 f (l, want, m, x, (↑(i + 1) : Int)) else none else bif !memD (uu.1, uu.2.1, uu.2.2.1) want then bif decide ((↑i : Int) < (↑x.length : Int)) then bif len40n (x.getD (↑i : Int).toNat (0, 0, 0, [], 0, 0, 0, 0, 0, 0, false, 0, 0, 0, 0)).2.2.2.1 then bif !decide (((x.getD (↑i : Int).toNat (0, 0, 0, [], 0, 0, 0, 0, 0, 0, false, 0, 0, 0, 0)).1, (x.getD (↑i : Int).toNat (0, 0, 0, [], 0, 0, 0, 0, 0, 0, false, 0, 0, 0, 0)).2.1, (x.getD (↑i : Int).toNat (0, 0, 0, [], 0, 0, 0, 0, 0, 0, false, 0, 0, 0, 0)).2.2.1, (x.getD (↑i : Int).toNat (0, 0, 0, [], 0, 0, 0, 0, 0, 0, false, 0, 0, 0, 0)).2.2.2.1, (x.getD (↑i : Int).toNat (0, 0, 0, [], 0, 0, 0, 0, 0, 0, false, 0, 0, 0, 0)).2.2.2.2.1, (x.getD (↑i : Int).toNat (0, 0, 0, [], 0, 0, 0, 0, 0, 0, false, 0, 0, 0, 0)).2.2.2.2.2.1, (x.getD (↑i : Int).toNat (0, 0, 0, [], 0, 0, 0, 0, 0, 0, false, 0, 0, 0, 0)).2.2.2.2.2.2.1, (x.getD (↑i : Int).toNat (0, 0, 0, [], 0, 0, 0, 0, 0, 0, false, 0, 0, 0, 0)).2.2.2.2.2.2.2.1, (x.getD (↑i : Int).toNat (0, 0, 0, [], 0, 0, 0, 0, 0, 0, false, 0, 0, 0, 0)).2.2.2.2.2.2.2.2.1, (x.getD (↑i : Int).toNat (0, 0, 0, [], 0, 0, 0, 0, 0, 0, false, 0, 0, 0, 0)).2.2.2.2.2.2.2.2.2.1, (x.getD (↑i : Int).toNat (0, 0, 0, [], 0, 0, 0, 0, 0, 0, false, 0, 0, 0, 0)).2.2.2.2.2.2.2.2.2.2.1) = (uu.1, uu.2.1, uu.2.2.1, uu.2.2.2.1, uu.2.2.2.2.1, uu.2.2.2.2.2.1, uu.2.2.2.2.2.2.1, uu.2.2.2.2.2.2.2.1, uu.2.2.2.2.2.2.2.2.1, uu.2.2.2.2.2.2.2.2.2.1, uu.2.2.2.2.2.2.2.2.2.2.1)) then some false else L_lswl_2 f (l, want, m, x, (↑(i + 1) : Int)) else none else none else L_lswl_2 f (l, want, m, x, (↑(i + 1) : Int)) else none else none else none) (fun f => (L_lswl_2_eq f _ _ _ _ _).trans (by simp only [lt_dec (drop_lt hd), drop_get hd, wrap_succ (drop_lt hd) hl, getD_set (drop_lt hd), ge0, Bool.and_self, Bool.true_and, cond_true, cond_false, List.length_set])) (ev_chk (ev_chk (ev_bif (ev_bif ev_some (ev_chk (ev_bif ev_some (ev_bif (ev_chk (ev_bif ev_some (ev_bif (ev_chk (ev_chk (ev_bif ev_some (A_lswl_2 rest _ _ _ _ _ (by first | exact drop_succ hd | exact drop_set hd | exact drop_setS (drop_set hd)) (by first | exact hl | simpa using hl))))) (A_lswl_2 rest _ _ _ _ _ (by first | exact drop_succ hd | exact drop_set hd | exact drop_setS (drop_set hd)) (by first | exact hl | simpa using hl))))) (ev_bif (ev_chk (ev_chk (ev_bif ev_some (A_lswl_2 rest _ _ _ _ _ (by first | exact drop_succ hd | exact drop_set hd | exact drop_setS (drop_set hd)) (by first | exact hl | simpa using hl))))) (A_lswl_2 rest _ _ _ _ _ (by first | exact drop_succ hd | exact drop_set hd | exact drop_setS (drop_set hd)) (by first | exact hl | simpa using hl))))))) (ev_bif ev_some (ev_chk (ev_bif ev_some (ev_bif (ev_chk (ev_bif ev_some (ev_bif (ev_chk (ev_chk (ev_bif ev_some (A_lswl_2 rest _ _ _ _ _ (by first | exact drop_succ hd | exact drop_set hd | exact drop_setS (drop_set hd)) (by first | exact hl | simpa using hl))))) (A_lswl_2 rest _ _ _ _ _ (by first | exact drop_succ hd | exact drop_set hd | exact drop_setS (drop_set hd)) (by first | exact hl | simpa using hl))))) (ev_bif (ev_chk (ev_chk (ev_bif ev_some (A_lswl_2 rest _ _ _ _ _ (by first | exact drop_succ hd | exact drop_set hd | exact drop_setS (drop_set hd)) (by first | exact hl | simpa using hl))))) (A_lswl_2 rest _ _ _ _ _ (by first | exact drop_succ hd | exact drop_set hd | exact drop_setS (drop_set hd)) (by first | exact hl | simpa using hl))))))))))
noncomputable def F_lswl_0 : List (SSl) → ((List (Int)) × (List (SSl)) × (List (SId)) × (List (SId)) × Nat) → Bool
  | [], (pick, l, ids, want, i) => bif (↑(locS (l, ids ++ [(9, 9, 0)], 2, 77, 0)).length : Int) != (↑l.length : Int) then false else bif (↑(List.length (sweS (locS (l, ids ++ [(9, 9, 0)], 2, 77, 0), 2, 77, 0)).1) : Int) != (↑l.length : Int) then false else bif !decide ((sweS (locS (l, ids ++ [(9, 9, 0)], 2, 77, 0), 2, 77, 0)).2 = want) then false else bif !decide (unlS (locS (l, ids ++ [(9, 9, 0)], 2, 77, 0), 2, 77, 0) = l) then false else F_lswl_2 l (l, want, locS (l, ids ++ [(9, 9, 0)], 2, 77, 0), (sweS (locS (l, ids ++ [(9, 9, 0)], 2, 77, 0), 2, 77, 0)).1, 0)
  | uu :: rest, (pick, l, ids, want, i) => bif decide (atS (pick, (↑i : Int)) > 0) then bif !empB uu then F_lswl_0 rest (pick, l, ids ++ [(uu.1, uu.2.1, uu.2.2.1)], want ++ [(uu.1, uu.2.1, uu.2.2.1)], i + 1) else F_lswl_0 rest (pick, l, ids, want, i + 1) else F_lswl_0 rest (pick, l, ids, want, i + 1)
noncomputable def P_lswl_0 : List (SSl) → ((List (Int)) × (List (SSl)) × (List (SId)) × (List (SId)) × Nat) → Bool
  | [], (pick, l, ids, want, i) => decide ((ids.length + [(9, 9, 0)].length) * 24 ≤ 140737488355328) && (okSl l && (locPre (l, ids ++ [(9, 9, 0)], 2, 77, 0) && (okSl (locS (l, ids ++ [(9, 9, 0)], 2, 77, 0)) && (okSl (locS (l, ids ++ [(9, 9, 0)], 2, 77, 0)) && bif (↑(locS (l, ids ++ [(9, 9, 0)], 2, 77, 0)).length : Int) != (↑l.length : Int) then true else bif (↑(List.length (sweS (locS (l, ids ++ [(9, 9, 0)], 2, 77, 0), 2, 77, 0)).1) : Int) != (↑l.length : Int) then true else len40n (sweS (locS (l, ids ++ [(9, 9, 0)], 2, 77, 0), 2, 77, 0)).2 && bif !decide ((sweS (locS (l, ids ++ [(9, 9, 0)], 2, 77, 0), 2, 77, 0)).2 = want) then true else okSl (locS (l, ids ++ [(9, 9, 0)], 2, 77, 0)) && (okSl (locS (l, ids ++ [(9, 9, 0)], 2, 77, 0)) && (okSl (unlS (locS (l, ids ++ [(9, 9, 0)], 2, 77, 0), 2, 77, 0)) && bif !decide (unlS (locS (l, ids ++ [(9, 9, 0)], 2, 77, 0), 2, 77, 0) = l) then true else decide (l.length ≤ 1099511627776) && P_lswl_2 l (l, want, locS (l, ids ++ [(9, 9, 0)], 2, 77, 0), (sweS (locS (l, ids ++ [(9, 9, 0)], 2, 77, 0), 2, 77, 0)).1, 0)))))))
  | uu :: rest, (pick, l, ids, want, i) => bif decide (atS (pick, (↑i : Int)) > 0) then bif !empB uu then decide ((ids.length + [(uu.1, uu.2.1, uu.2.2.1)].length) * 24 ≤ 140737488355328) && (decide ((want.length + [(uu.1, uu.2.1, uu.2.2.1)].length) * 24 ≤ 140737488355328) && P_lswl_0 rest (pick, l, ids ++ [(uu.1, uu.2.1, uu.2.2.1)], want ++ [(uu.1, uu.2.1, uu.2.2.1)], i + 1)) else P_lswl_0 rest (pick, l, ids, want, i + 1) else P_lswl_0 rest (pick, l, ids, want, i + 1)
theorem A_lswl_0 : ∀ (rest : List (SSl)) (pick : List (Int)) (l : List (SSl)) (ids : List (SId)) (want : List (SId)) (i : Nat) (hd : l.drop i = rest) (hl : l.length ≤ 1099511627776), Rns (fun f => L_lswl_0 f (pick, l, ids, want, ((i : Nat) : Int))) (P_lswl_0 rest (pick, l, ids, want, i)) (F_lswl_0 rest (pick, l, ids, want, i))
  | [], pick, l, ids, want, i, hd, hl => ev_step (T := fun f => bif decide ((ids.length + [(9, 9, 0)].length) * 24 ≤ 140737488355328) then bif okSl l then bif locPre (l, ids ++ [(9, 9, 0)], 2, 77, 0) then bif okSl (locS (l, ids ++ [(9, 9, 0)], 2, 77, 0)) then bif okSl (locS (l, ids ++ [(9, 9, 0)], 2, 77, 0)) then bif (↑(locS (l, ids ++ [(9, 9, 0)], 2, 77, 0)).length : Int) != (↑l.length : Int) then some false else bif (↑(List.length (sweS (locS (l, ids ++ [(9, 9, 0)], 2, 77, 0), 2, 77, 0)).1) : Int) != (↑l.length : Int) then some false else bif len40n (sweS (locS (l, ids ++ [(9, 9, 0)], 2, 77, 0), 2, 77, 0)).2 then bif !decide ((sweS (locS (l, ids ++ [(9, 9, 0)], 2, 77, 0), 2, 77, 0)).2 = want) then some false else bif okSl (locS (l, ids ++ [(9, 9, 0)], 2, 77, 0)) then bif okSl (locS (l, ids ++ [(9, 9, 0)], 2, 77, 0)) then bif okSl (unlS (locS (l, ids ++ [(9, 9, 0)], 2, 77, 0), 2, 77, 0)) then bif !decide (unlS (locS (l, ids ++ [(9, 9, 0)], 2, 77, 0), 2, 77, 0) = l) then some false else L_lswl_2 f (l, want, locS (l, ids ++ [(9, 9, 0)], 2, 77, 0), (sweS (locS (l, ids ++ [(9, 9, 0)], 2, 77, 0), 2, 77, 0)).1, 0) else none else none else none else none else none else none else none else none else none) (fun f => (L_lswl_0_eq f _ _ _ _ _).trans (by simp only [ge_dec (drop_ge hd), ge0, Bool.and_self, Bool.true_and, cond_true, cond_false, List.length_set])) (ev_chk (ev_chk (ev_chk (ev_chk (ev_chk (ev_bif ev_some (ev_bif ev_some (ev_chk (ev_bif ev_some (ev_chk (ev_chk (ev_chk (ev_bif ev_some (ev_and fun hh => A_lswl_2 _ _ _ _ _ _ rfl (of_decide_eq_true hh)))))))))))))))
  | uu :: rest, pick, l, ids, want, i, hd, hl => ev_step (T := fun f => bif decide (atS (pick, (↑i : Int)) > 0) then bif !empB uu then bif decide ((ids.length + [(uu.1, uu.2.1, uu.2.2.1)].length) * 24 ≤ 140737488355328) then bif decide ((want.length + [(uu.1, uu.2.1, uu.2.2.1)].length) * 24 ≤ 140737488355328) then L_lswl_0 f (pick, l, ids ++ [(uu.1, uu.2.1, uu.2.2.1)], want ++ [(uu.1, uu.2.1, uu.2.2.1)], (↑(i + 1) : Int)) else none else none else L_lswl_0 f (pick, l, ids, want, (↑(i + 1) : Int)) else L_lswl_0 f (pick, l, ids, want, (↑(i + 1) : Int))) (fun f => (L_lswl_0_eq f _ _ _ _ _).trans (by simp only [lt_dec (drop_lt hd), drop_get hd, wrap_succ (drop_lt hd) hl, getD_set (drop_lt hd), ge0, Bool.and_self, Bool.true_and, cond_true, cond_false, List.length_set])) (ev_bif (ev_bif (ev_chk (ev_chk (A_lswl_0 rest _ _ _ _ _ (by first | exact drop_succ hd | exact drop_set hd | exact drop_setS (drop_set hd)) (by first | exact hl | simpa using hl)))) (A_lswl_0 rest _ _ _ _ _ (by first | exact drop_succ hd | exact drop_set hd | exact drop_setS (drop_set hd)) (by first | exact hl | simpa using hl))) (A_lswl_0 rest _ _ _ _ _ (by first | exact drop_succ hd | exact drop_set hd | exact drop_setS (drop_set hd)) (by first | exact hl | simpa using hl)))
noncomputable def F_lswl : ((List (SSt)) × (List (Int)) × (List (Int))) → Bool
  | (steps, ops, pick) => F_lswl_0 (slotsS (steps, [], ops)) (pick, slotsS (steps, [], ops), [], [], 0)
noncomputable def P_lswl : ((List (SSt)) × (List (Int)) × (List (Int))) → Bool
  | (steps, ops, pick) => decide ((slotsS (steps, [], ops)).length ≤ 1099511627776) && P_lswl_0 (slotsS (steps, [], ops)) (pick, slotsS (steps, [], ops), [], [], 0)
theorem lswl_auto : ∀ a : (List (SSt)) × (List (Int)) × (List (Int)), Rns (fun f => M_lswl f a) (P_lswl a) (F_lswl a)
  | (steps, ops, pick) => ev_step (fun f => M_lswl_eq f _ _ _) (ev_and fun hh => A_lswl_0 _ _ _ _ _ _ rfl (of_decide_eq_true hh))
def pickB (pick : List Int) (i : Nat) (s : SSl) : Bool := decide (atS (pick, (i : Int)) > 0) && !empB s
def wantL (pick : List Int) : List SSl → Nat → List SId
  | [], _ => []
  | u :: r, i => bif pickB pick i u then sid u :: wantL pick r (i + 1) else wantL pick r (i + 1)
theorem wantL_len (pick : List Int) : ∀ (r : List SSl) (i : Nat), (wantL pick r i).length ≤ r.length
  | [], i => Nat.le_refl _
  | u :: r, i => by
    have := wantL_len pick r (i + 1)
    simp only [wantL]
    cases pickB pick i u <;> simp only [cond_true, cond_false, List.length_cons] <;> omega
theorem wantL_mem {pick : List Int} {x : SId} : ∀ {r : List SSl} {i : Nat}, x ∈ wantL pick r i → ∃ j s, r[j]? = some s ∧ pickB pick (i + j) s = true ∧ sid s = x
  | [], i, h => by cases h
  | u :: r, i, h => by
    simp only [wantL] at h
    have rest : x ∈ wantL pick r (i + 1) → ∃ j s, (u :: r)[j]? = some s ∧ pickB pick (i + j) s = true ∧ sid s = x := fun h => by
      obtain ⟨j, s, h1, h2, h3⟩ := wantL_mem h
      exact ⟨j + 1, s, by simpa using h1, by rw [show i + (j + 1) = i + 1 + j by omega]; exact h2, h3⟩
    cases hc : pickB pick i u
    · rw [hc] at h; exact rest h
    · rw [hc] at h
      simp only [cond_true, List.mem_cons] at h
      rcases h with h | h
      · exact ⟨0, u, rfl, hc, h.symm⟩
      · exact rest h
theorem mem_wantL {pick : List Int} {s : SSl} : ∀ {r : List SSl} {i j : Nat}, r[j]? = some s → pickB pick (i + j) s = true → sid s ∈ wantL pick r i
  | [], i, j, h, hp => by simp at h
  | u :: r, i, 0, h, hp => by
    simp only [List.getElem?_cons_zero, Option.some.injEq] at h
    subst h
    simp only [Nat.add_zero] at hp
    simp [wantL, hp]
  | u :: r, i, j + 1, h, hp => by
    have := mem_wantL (r := r) (i := i + 1) (j := j) (by simpa using h) (by rw [show i + 1 + j = i + (j + 1) by omega]; exact hp)
    simp only [wantL]
    cases pickB pick i u
    · exact this
    · exact List.mem_cons_of_mem _ this
theorem lswl_0 (pick : List Int) (l : List SSl) : ∀ (r : List SSl) (w : List SId) (i : Nat), w.length + r.length ≤ 100 → F_lswl_0 r (pick, l, w, w, i) = F_lswl_0 [] (pick, l, w ++ wantL pick r i, w ++ wantL pick r i, 0) ∧ P_lswl_0 r (pick, l, w, w, i) = P_lswl_0 [] (pick, l, w ++ wantL pick r i, w ++ wantL pick r i, 0)
  | [], w, i, h => by
    simp only [wantL, List.append_nil]
    exact ⟨rfl, rfl⟩
  | u :: r, w, i, h => by
    simp only [List.length_cons] at h
    have e : decide ((w.length + [(u.1, u.2.1, u.2.2.1)].length) * 24 ≤ 140737488355328) = true := decide_eq_true (by simp only [List.length_cons, List.length_nil]; omega)
    have i1 := lswl_0 pick l r (w ++ [(u.1, u.2.1, u.2.2.1)]) (i + 1) (by simp only [List.length_append, List.length_cons, List.length_nil]; omega)
    have i2 := lswl_0 pick l r w (i + 1) (by omega)
    simp only [F_lswl_0.eq_2, P_lswl_0.eq_2, wantL, pickB, e, Bool.true_and]
    cases decide (atS (pick, (i : Int)) > 0)
    · exact i2
    · cases empB u
      · simp only [Bool.not_false, Bool.and_self, cond_true]
        rw [i1.1, i1.2, List.append_assoc]; exact ⟨rfl, rfl⟩
      · exact i2
structure Ls (l : List SSl) (w : List SId) : Prop where
  len : l.length = 12
  ok : okSl l = true
  gs : Gs l
  lk : ∀ s ∈ l, slk s = (0, 0, 0)
  core : ∀ s ∈ l, (sid s).1 = 0
  hit : ∀ s ∈ l, memD (sid s) w = true → empB s = false
  wl : w.length ≤ 12
  fil : (l.filter fun s => memD (sid s) w).map sid = w
def hitL (w : List SId) (s : SSl) : SSl := bif memD (sid s) w then setLk s (2, 77, 0) else s
def hitX (w : List SId) (s : SSl) : SSl := bif memD (sid s) w then mkS zNdl (sop s) (0, 0, 0) else s
theorem hitL_f {w : List SId} {s : SSl} (h : memD (sid s) w = false) : hitL w s = s := by simp only [hitL, h, cond_false]
theorem hitL_t {w : List SId} {s : SSl} (h : memD (sid s) w = true) : hitL w s = setLk s (2, 77, 0) := by simp only [hitL, h, cond_true]
theorem Ls.loc {l : List SSl} {w : List SId} (h : Ls l w) : locS (l, w ++ [(9, 9, 0)], 2, 77, 0) = l.map (hitL w) := by
  simp only [locS]
  refine List.map_congr_left fun s hs => ?_
  have hm : memD (sid s) (w ++ [(9, 9, 0)]) = memD (sid s) w := by
    simp only [memD]
    refine decide_eq_decide.2 ?_
    rw [List.mem_append, List.mem_singleton]
    refine ⟨fun h1 => h1.elim id fun h2 => ?_, .inl⟩
    have := h.core s hs
    rw [h2] at this; cases this
  simp only [locF, hm, hitL]
  cases hh : memD (sid s) w
  · simp
  · rw [h.hit s hs hh]; rfl
theorem Ls.swB {l : List SSl} {w : List SId} (h : Ls l w) {s : SSl} (hs : s ∈ l) : sweB (2, 77, 0) (hitL w s) = memD (sid s) w := by
  cases hh : memD (sid s) w
  · rw [hitL_f hh, sweB, h.lk s hs]; simp
  · rw [hitL_t hh, sweB, show empB (setLk s (2, 77, 0)) = empB s from rfl, h.hit s hs hh]; rfl
theorem Ls.swe {l : List SSl} {w : List SId} (h : Ls l w) : sweS (l.map (hitL w), 2, 77, 0) = (l.map (hitX w), w) := by
  simp only [sweS, List.map_map]
  refine Prod.ext (List.map_congr_left fun s hs => ?_) ?_
  · simp only [Function.comp, sweF, h.swB hs, hitX]
    cases hh : memD (sid s) w
    · simp [hitL, hh]
    · simp only [hitL, hh, cond_true]; rfl
  · show ((l.map (hitL w)).filter (sweB (2, 77, 0))).map sid = w
    rw [List.filter_map, List.map_map]
    rw [show (l.filter (sweB (2, 77, 0) ∘ hitL w)) = l.filter fun s => memD (sid s) w from List.filter_congr fun s hs => h.swB hs]
    refine Eq.trans (List.map_congr_left fun s hs => ?_) h.fil
    simp only [Function.comp, hitL]; cases memD (sid s) w <;> rfl
theorem Ls.unl {l : List SSl} {w : List SId} (h : Ls l w) : unlS (l.map (hitL w), 2, 77, 0) = l := by
  simp only [unlS, List.map_map]
  refine (List.map_congr_left fun s hs => ?_).trans (List.map_id l)
  have h0 := h.lk s hs
  simp only [Function.comp, id]
  cases hh : memD (sid s) w
  · rw [hitL_f hh, unlF, h0]; rfl
  · have : setLk s (0, 0, 0) = s := by rw [← h0]; rfl
    rw [hitL_t hh]; exact this
theorem vsloB_lk {s : SSl} (h : vsloB s = true) (he : empB s = false) : vsloB (setLk s (2, 77, 0)) = true := by
  simp only [vsloB, Bool.and_eq_true, decide_eq_true_eq] at h ⊢
  refine ⟨h.1, h.2.1, ?_⟩
  have h2 := h.2.2
  rw [show empB (setLk s (2, 77, 0)) = empB s from rfl, he]
  rw [he] at h2
  simp only [cond_false, Bool.and_eq_true] at h2 ⊢
  exact ⟨h2.1, (by decide +kernel : (decide (((2, 77, 0) : SId) = (0, 0, 0)) || vidB (2, 77, 0) && decide ((0 : Int) = 0)) = true)⟩
theorem Ls.valM {l : List SSl} {w : List SId} (h : Ls l w) : cvalS (l.map (hitL w)) = true := cvalS_of (by rw [List.length_map, h.len]; omega) (h.gs.change fun j s' hj => by
  rw [List.getElem?_map] at hj
  cases hx : l[j]? with
  | none => rw [hx] at hj; cases hj
  | some s =>
    rw [hx] at hj
    have hs : hitL w s = s' := Option.some.inj hj
    have hm := List.mem_of_getElem? hx
    refine ⟨s, rfl, ?_, ?_⟩
    · rw [← hs]; simp only [hitL]; cases memD (sid s) w <;> rfl
    · rw [← hs]; simp only [hitL]
      cases hh : memD (sid s) w
      · exact h.gs.ok s hm
      · exact vsloB_lk (h.gs.ok s hm) (h.hit s hm hh))
theorem hitX_ne {w : List SId} {s : SSl} (h : empB (hitX w s) = false) : hitX w s = s := by
  simp only [hitX] at h ⊢
  cases hh : memD (sid s) w
  · rfl
  · rw [hh] at h; exact absurd h (by show ¬ (true = false); decide)
theorem Ls.valX {l : List SSl} {w : List SId} (h : Ls l w) : cvalS (l.map (hitX w)) = true := by
  refine cvalS_of (by rw [List.length_map, h.len]; omega) ⟨fun s' hs => ?_, fun i j a b ha hb hea hid => ?_⟩
  · obtain ⟨s, hs2, rfl⟩ := List.mem_map.1 hs
    have h1 := h.gs.ok s hs2
    simp only [hitX]
    cases hh : memD (sid s) w
    · exact h1
    · simp only [vsloB, Bool.and_eq_true, decide_eq_true_eq] at h1 ⊢
      exact ⟨h1.1, h1.2.1, rfl⟩
  · rw [List.getElem?_map] at ha hb
    cases hx : l[i]? with
    | none => rw [hx] at ha; cases ha
    | some x =>
      cases hy : l[j]? with
      | none => rw [hy] at hb; cases hb
      | some y =>
        rw [hx] at ha
        rw [hy] at hb
        have ea : hitX w x = a := Option.some.inj ha
        have eb : hitX w y = b := Option.some.inj hb
        have heb : empB b = false := by
          refine decide_eq_false fun h0 => ?_
          rw [h0] at hid
          have : empB a = true := decide_eq_true hid
          rw [hea] at this; cases this
        have e1 := hitX_ne (ea ▸ hea)
        have e2 := hitX_ne (eb ▸ heb)
        rw [ea] at e1
        rw [eb] at e2
        exact h.gs.uq i j x y hx hy (e1 ▸ hea) (by rw [← e1, ← e2]; exact hid)
theorem lswl_2 {l : List SSl} {w : List SId} (h : Ls l w) : ∀ (r : List SSl) (j : Nat), l.drop j = r → F_lswl_2 r (l, w, l.map (hitL w), l.map (hitX w), j) = true ∧ P_lswl_2 r (l, w, l.map (hitL w), l.map (hitX w), j) = true
  | [], j, hd => by
    have o1 : okSl (l.map (hitL w)) = true := okSl_map h.ok fun s _ => .inl (by simp only [hitL]; cases memD (sid s) w <;> rfl)
    have o2 : okSl (l.map (hitX w)) = true := okSl_map h.ok fun s _ => by
      simp only [hitX]
      cases memD (sid s) w
      · exact .inl rfl
      · exact .inr rfl
    simp only [F_lswl_2, P_lswl_2, h.valM, h.valX, o1, o2]; simp
  | u :: r, j, hd => by
    obtain ⟨i1, i2⟩ := lswl_2 h r (j + 1) (drop_succ hd)
    have hj := drop_lt hd
    have hu := getD_some (drop_get? hd)
    have hmem := List.mem_of_getElem? (drop_get? hd)
    have hM : (l.map (hitL w)).getD j zSl = hitL w u := by rw [map_getD _ hj, hu]
    have hX : (l.map (hitX w)).getD j zSl = hitX w u := by rw [map_getD _ hj, hu]
    have lM : decide ((j : Int) < (((l.map (hitL w)).length : Nat) : Int)) = true := decide_eq_true (by rw [List.length_map]; omega)
    have lX : decide ((j : Int) < (((l.map (hitX w)).length : Nat) : Int)) = true := decide_eq_true (by rw [List.length_map]; omega)
    have lw : len40n w = true := decide_eq_true (by have := h.wl; omega)
    have lu : len40n u.2.2.2.1 = true := okSl_mem h.ok hmem
    simp only [F_lswl_2, P_lswl_2, i1, i2, Int.toNat_natCast, show ((0, 0, 0, [], 0, 0, 0, 0, 0, 0, false, 0, 0, 0, 0) : SSl) = zSl from rfl, hM, hX, lM, lX, lw, Bool.true_and]
    cases hh : memD (u.1, u.2.1, u.2.2.1) w
    · have e1 : hitL w u = u := by simp only [hitL]; rw [show memD (sid u) w = false from hh]; rfl
      have e2 : hitX w u = u := by simp only [hitX]; rw [show memD (sid u) w = false from hh]; rfl
      have eb : busB u = (u.2.2.2.2.2.2.2.2.2.2.2.1 != 0) := by
        simp only [busB, h.lk u hmem]
        rw [show sop u = u.2.2.2.2.2.2.2.2.2.2.2.1 from rfl, bneI]; simp
      simp [e1, e2, eb, lu]
    · have e1 : hitL w u = setLk u (2, 77, 0) := by simp only [hitL]; rw [show memD (sid u) w = true from hh]; rfl
      have e2 : hitX w u = mkS zNdl (sop u) (0, 0, 0) := by simp only [hitX]; rw [show memD (sid u) w = true from hh]; rfl
      have eb : busB (setLk u (2, 77, 0)) = true := by simp [busB, setLk, slk, mkS]
      have ee : empB (mkS zNdl (sop u) (0, 0, 0)) = true := rfl
      have eo : (mkS zNdl (sop u) (0, 0, 0)).2.2.2.2.2.2.2.2.2.2.2.1 = u.2.2.2.2.2.2.2.2.2.2.2.1 := rfl
      simp [e1, e2, eb, ee, eo]
theorem ls_mk (steps : List SSt) (ops pick : List Int) : Ls (slotsS (steps, [], ops)) (wantL pick (slotsS (steps, [], ops)) 0) := by
  have v2 := slots_ok (steps, [], ops)
  have v3 := slotsS_len (steps, [], ops)
  have v4 := made steps [] ops
  have v5 := slots_gs steps [] ops
  generalize slotsS (steps, [], ops) = l at *
  have key : ∀ (j : Nat) (s : SSl), l[j]? = some s → memD (sid s) (wantL pick l 0) = pickB pick j s := fun j s hj => by
    cases hp : pickB pick j s
    · rw [memD_not]
      intro hm
      obtain ⟨i, x, h1, h2, h3⟩ := wantL_mem hm
      rw [Nat.zero_add] at h2
      have he : empB x = false := by
        simp only [pickB, Bool.and_eq_true, Bool.not_eq_true'] at h2; exact h2.2
      have := v5.uq i j x s h1 hj he h3
      subst this
      rw [h1] at hj
      cases hj
      rw [h2] at hp; cases hp
    · rw [memD_iff]
      exact mem_wantL hj (by rw [Nat.zero_add]; exact hp)
  have fil : ∀ (r : List SSl) (k : Nat), l.drop k = r → (r.filter fun s => memD (sid s) (wantL pick l 0)).map sid = wantL pick r k := by
    intro r
    induction r with
    | nil => intro k _; rfl
    | cons u r ih =>
      intro k hd
      have hk := key k u (drop_get? hd)
      have := ih (k + 1) (drop_succ hd)
      rw [List.filter_cons, hk]
      simp only [wantL]
      cases pickB pick k u
      · exact this
      · simp only [if_true, List.map_cons, cond_true]; rw [this]
  refine ⟨v3, v2, v5, fun s hs => ?_, fun s hs => ?_, fun s hs hm => ?_, by have := wantL_len pick l 0; omega, fil l 0 rfl⟩
  · obtain ⟨j, hj⟩ := List.getElem?_of_mem hs
    rcases (v4 j s hj).lk with h | h
    · exact h
    · exact absurd rfl h.2.1
  · obtain ⟨j, hj⟩ := List.getElem?_of_mem hs
    exact made_core (v4 j s hj)
  · obtain ⟨j, hj⟩ := List.getElem?_of_mem hs
    rw [key j s hj] at hm
    simp only [pickB, Bool.and_eq_true, Bool.not_eq_true'] at hm; exact hm.2
theorem lswl_true : ∀ a, ∃ f, M_lswl f a = some true := by
  rintro ⟨steps, ops, pick⟩
  have h : P_lswl (steps, ops, pick) = true ∧ F_lswl (steps, ops, pick) = true := by
    simp only [P_lswl, F_lswl]
    have hL := ls_mk steps ops pick
    generalize slotsS (steps, [], ops) = l at *
    have h0 := lswl_0 pick l l [] 0 (by have := hL.len; simp; omega)
    simp only [List.nil_append] at h0
    rw [h0.1, h0.2]
    generalize wantL pick l 0 = w at *
    have h2 := lswl_2 hL l 0 rfl
    have o1 : okSl (l.map (hitL w)) = true := okSl_map hL.ok fun s _ => .inl (by simp only [hitL]; cases memD (sid s) w <;> rfl)
    have l8 : decide (l.length ≤ 1099511627776) = true := decide_eq_true (by have := hL.len; omega)
    have l9 : decide ((w.length + [((9, 9, 0) : SId)].length) * 24 ≤ 140737488355328) = true := decide_eq_true (by have := hL.wl; simp only [List.length_cons, List.length_nil]; omega)
    have lw : len40n w = true := decide_eq_true (by have := hL.wl; omega)
    have lp : locPre (l, w ++ [(9, 9, 0)], 2, 77, 0) = true := by
      simp only [locPre, hL.ok, Bool.true_and]; exact decide_eq_true (by have := hL.wl; simp only [List.length_append, List.length_cons, List.length_nil]; omega)
    simp only [F_lswl_0, P_lswl_0, hL.loc, hL.swe, hL.unl, h2.1, h2.2, o1, l8, l9, lw, lp, hL.ok, List.length_map]
    simp
    have := hL.wl; omega
  have h1 := lswl_auto (steps, ops, pick) h.1
  rw [h.2] at h1; exact h1
end Go.AL
