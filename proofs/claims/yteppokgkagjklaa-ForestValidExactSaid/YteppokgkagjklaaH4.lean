/-
  forest.Valid and the reference's ValidForest are one. By an AI agent.
-/
import Derived.Test.YteppokgkagjklaaH3
namespace Go.AL
open Go.Proofs
set_option linter.unusedVariables false
set_option linter.unusedSimpArgs false
def zE : SEn := (0, 0, 0, 0, 0, [], 0, 0, 0, 0, 0, 0, false)
def csB (e : SEn) : Bool := decide (0 ≤ e.1) && (decide (e.1 < 32) && (decide (0 ≤ e.2.1) && decide (e.2.1 < 64)))
noncomputable def pairB (e f : SEn) : Bool := !(decide (e.1 = f.1) && decide (e.2.1 = f.2.1)) && (coexB (ecap e, ecap f) && (F_frel (e.2.2, f.2.2) && F_frel (f.2.2, e.2.2)))
def lessLast (p : List SEn) (u : SEn) : Bool := bif p.isEmpty then true else lessI (eid (p.getLastD zE), eid u)
noncomputable def pvL : List SEn → List SEn → Bool
  | _, [] => true
  | p, u :: r => lessLast p u && (p.all (pairB u) && pvL (p ++ [u]) r)
theorem last_at {p : List SEn} (r : List SEn) (hp : p ≠ []) (hl : p.length ≤ 1099511627776) : (p ++ r).getD (IntKind.i64.wrap (((p.length : Nat) : Int) - 1)).toNat zE = p.getLastD zE ∧ decide (0 ≤ IntKind.i64.wrap (((p.length : Nat) : Int) - 1)) = true ∧
    decide (IntKind.i64.wrap (((p.length : Nat) : Int) - 1) < (((p ++ r).length : Nat) : Int)) = true := by
  have h0 : 0 < p.length := List.length_pos_iff.2 hp
  rw [i64_id (by omega) (by omega)]
  refine ⟨?_, decide_eq_true (by omega), decide_eq_true (by simp; omega)⟩
  rw [show (((p.length : Nat) : Int) - 1).toNat = p.length - 1 by omega, List.getD_eq_getElem?_getD, List.getElem?_append_left (by omega), List.getLastD_eq_getLast?, List.getLast?_eq_getElem?]
noncomputable def C_fval : Cfg := ⟨Try.prog, [E_nval, E_nless, E_coe, E_frel], pmT [(10, ([(0, []), (1, []), (2, []), (3, []), (4, []), (5, []), (6, []), (7, []), (8, []), (9, []), (10, []), (11, []), (12, []), (13, []), (14, []), (15, [])], [(47, 62)]))], 111, [], []⟩
theorem es_fval : EsOk Try.prog [E_nval, E_nless, E_coe, E_frel] [] := es_cons E_nval_ok (es_cons E_nless_ok (es_cons E_coe_ok (es_cons E_frel_ok (es_nil))))
def Lt_fval : Nat → LD := ldT [(0, ⟨[.rd 0 tSEn, .rd 9 tSEn, .c 10 (.int .i64), .c 11 (.int .i64)], [], 0⟩), (2, ⟨[.rd 0 tSEn, .rd 40 tSEn, .c 41 (.int .i64), .c 42 (.int .i64)], [], 0⟩), (4, ⟨[.rd 0 tSEn, .box 6 6 32 13 tSEn, .rd 40 tSEn, .c 41 (.int .i64), .c 42 (.int .i64), .rd 65 tSEn, .c 66 (.int .i64), .c 67 (.int .i64)], [], 0⟩)]
noncomputable def M_fval (f : Nat) (a : (List (SEn))) : Option (Bool) := (runX (C_fval) Lt_fval (Kret Try.prog [.tmp 2] [.v (.bool)]) f [.code (bodyOf Try.f16)] (initX [.rd tSEn] a) : Option (ResT [.v (.bool)]))
noncomputable def L_fval_0 (f : Nat) (x : (List (SEn)) × (List (SEn)) × Int × Int) : Option (Bool) := (runX (C_fval) Lt_fval (Kret Try.prog [.tmp 2] [.v (.bool)]) f (headOf Try.f16 0) ((Lt_fval 0).mk' x) : Option (ResT [.v (.bool)]))
noncomputable def L_fval_2 (f : Nat) (x : (List (SEn)) × (List (SEn)) × Int × Int) : Option (Bool) := (runX (C_fval) Lt_fval (Kret Try.prog [.tmp 2] [.v (.bool)]) f (headOf Try.f16 2) ((Lt_fval 2).mk' x) : Option (ResT [.v (.bool)]))
noncomputable def L_fval_4 (f : Nat) (x : (List (SEn)) × SEn × (List (SEn)) × Int × Int × (List (SEn)) × Int × Int) : Option (Bool) := (runX (C_fval) Lt_fval (Kret Try.prog [.tmp 2] [.v (.bool)]) f (headOf Try.f16 4) ((Lt_fval 4).mk' x) : Option (ResT [.v (.bool)]))
theorem M_fval_eq (f : Nat) (l : List (SEn)) : M_fval (f + 1) l =
    L_fval_0 f (l, l, (↑l.length : Int), 0) := by kernel_rfl
theorem L_fval_0_eq (f : Nat) (l : List (SEn)) (x9 : List (SEn)) (x10 : Int) (x11 : Int) : L_fval_0 (f + 1) (l, x9, x10, x11) =
    bif decide (x11 < x10) then bif decide (0 ≤ x11) && decide (x11 < (↑x9.length : Int)) then bif decide ((x9.getD x11.toNat (0, 0, 0, 0, 0, [], 0, 0, 0, 0, 0, 0, false)).1 < 0) then some false else bif decide ((x9.getD x11.toNat (0, 0, 0, 0, 0, [], 0, 0, 0, 0, 0, 0, false)).1 ≥ 32) then some false else bif decide ((x9.getD x11.toNat (0, 0, 0, 0, 0, [], 0, 0, 0, 0, 0, 0, false)).2.1 < 0) then some false else bif decide ((x9.getD x11.toNat (0, 0, 0, 0, 0, [], 0, 0, 0, 0, 0, 0, false)).2.1 ≥ 64) then some false else bif !vnodB (x9.getD x11.toNat (0, 0, 0, 0, 0, [], 0, 0, 0, 0, 0, 0, false)).2.2 then some false else L_fval_0 f (l, x9, x10, IntKind.i64.wrap (x11 + 1)) else none else L_fval_2 f (l, l, (↑l.length : Int), 0) := by kernel_rfl
theorem L_fval_2_eq (f : Nat) (l : List (SEn)) (x40 : List (SEn)) (x41 : Int) (x42 : Int) : L_fval_2 (f + 1) (l, x40, x41, x42) =
    bif decide (x42 < x41) then bif decide (0 ≤ x42) && decide (x42 < (↑x40.length : Int)) then bif decide (x42 > 0) then bif decide (0 ≤ IntKind.i64.wrap (x42 - 1)) && decide (IntKind.i64.wrap (x42 - 1) < (↑l.length : Int)) then bif !lessI (((l.getD (IntKind.i64.wrap (x42 - 1)).toNat (0, 0, 0, 0, 0, [], 0, 0, 0, 0, 0, 0, false)).2.2.1, (l.getD (IntKind.i64.wrap (x42 - 1)).toNat (0, 0, 0, 0, 0, [], 0, 0, 0, 0, 0, 0, false)).2.2.2.1, (l.getD (IntKind.i64.wrap (x42 - 1)).toNat (0, 0, 0, 0, 0, [], 0, 0, 0, 0, 0, 0, false)).2.2.2.2.1), (x40.getD x42.toNat (0, 0, 0, 0, 0, [], 0, 0, 0, 0, 0, 0, false)).2.2.1, (x40.getD x42.toNat (0, 0, 0, 0, 0, [], 0, 0, 0, 0, 0, 0, false)).2.2.2.1, (x40.getD x42.toNat (0, 0, 0, 0, 0, [], 0, 0, 0, 0, 0, 0, false)).2.2.2.2.1) then some false else bif decide (0 ≤ x42) && decide (x42 ≤ (↑l.length : Int)) then L_fval_4 f (l, ((x40.getD x42.toNat (0, 0, 0, 0, 0, [], 0, 0, 0, 0, 0, 0, false)).1, (x40.getD x42.toNat (0, 0, 0, 0, 0, [], 0, 0, 0, 0, 0, 0, false)).2.1, (x40.getD x42.toNat (0, 0, 0, 0, 0, [], 0, 0, 0, 0, 0, 0, false)).2.2.1, (x40.getD x42.toNat (0, 0, 0, 0, 0, [], 0, 0, 0, 0, 0, 0, false)).2.2.2.1, (x40.getD x42.toNat (0, 0, 0, 0, 0, [], 0, 0, 0, 0, 0, 0, false)).2.2.2.2.1, (x40.getD x42.toNat (0, 0, 0, 0, 0, [], 0, 0, 0, 0, 0, 0, false)).2.2.2.2.2.1, (x40.getD x42.toNat (0, 0, 0, 0, 0, [], 0, 0, 0, 0, 0, 0, false)).2.2.2.2.2.2), x40, x41, x42, List.take x42.toNat l, (↑(List.take x42.toNat l).length : Int), 0) else none else none else bif decide (0 ≤ x42) && decide (x42 ≤ (↑l.length : Int)) then L_fval_4 f (l, ((x40.getD x42.toNat (0, 0, 0, 0, 0, [], 0, 0, 0, 0, 0, 0, false)).1, (x40.getD x42.toNat (0, 0, 0, 0, 0, [], 0, 0, 0, 0, 0, 0, false)).2.1, (x40.getD x42.toNat (0, 0, 0, 0, 0, [], 0, 0, 0, 0, 0, 0, false)).2.2.1, (x40.getD x42.toNat (0, 0, 0, 0, 0, [], 0, 0, 0, 0, 0, 0, false)).2.2.2.1, (x40.getD x42.toNat (0, 0, 0, 0, 0, [], 0, 0, 0, 0, 0, 0, false)).2.2.2.2.1, (x40.getD x42.toNat (0, 0, 0, 0, 0, [], 0, 0, 0, 0, 0, 0, false)).2.2.2.2.2.1, (x40.getD x42.toNat (0, 0, 0, 0, 0, [], 0, 0, 0, 0, 0, 0, false)).2.2.2.2.2.2), x40, x41, x42, List.take x42.toNat l, (↑(List.take x42.toNat l).length : Int), 0) else none else none else some true := by kernel_rfl
theorem L_fval_4_eq (f : Nat) (l : List (SEn)) (e : SEn) (x40 : List (SEn)) (x41 : Int) (x42 : Int) (x65 : List (SEn)) (x66 : Int) (x67 : Int) : L_fval_4 (f + 1) (l, e, x40, x41, x42, x65, x66, x67) =
    bif decide (x67 < x66) then bif decide (0 ≤ x67) && decide (x67 < (↑x65.length : Int)) then bif e.1 == (x65.getD x67.toNat (0, 0, 0, 0, 0, [], 0, 0, 0, 0, 0, 0, false)).1 then bif e.2.1 == (x65.getD x67.toNat (0, 0, 0, 0, 0, [], 0, 0, 0, 0, 0, 0, false)).2.1 then some false else bif !coexB (e.2.2.2.2.2.2, (x65.getD x67.toNat (0, 0, 0, 0, 0, [], 0, 0, 0, 0, 0, 0, false)).2.2.2.2.2.2) then some false else bif relPre (e.2.2, (x65.getD x67.toNat (0, 0, 0, 0, 0, [], 0, 0, 0, 0, 0, 0, false)).2.2) then bif !F_frel (e.2.2, (x65.getD x67.toNat (0, 0, 0, 0, 0, [], 0, 0, 0, 0, 0, 0, false)).2.2) then some false else bif relPre ((x65.getD x67.toNat (0, 0, 0, 0, 0, [], 0, 0, 0, 0, 0, 0, false)).2.2, e.2.2) then bif !F_frel ((x65.getD x67.toNat (0, 0, 0, 0, 0, [], 0, 0, 0, 0, 0, 0, false)).2.2, e.2.2) then some false else L_fval_4 f (l, e, x40, x41, x42, x65, x66, IntKind.i64.wrap (x67 + 1)) else none else none else bif !coexB (e.2.2.2.2.2.2, (x65.getD x67.toNat (0, 0, 0, 0, 0, [], 0, 0, 0, 0, 0, 0, false)).2.2.2.2.2.2) then some false else bif relPre (e.2.2, (x65.getD x67.toNat (0, 0, 0, 0, 0, [], 0, 0, 0, 0, 0, 0, false)).2.2) then bif !F_frel (e.2.2, (x65.getD x67.toNat (0, 0, 0, 0, 0, [], 0, 0, 0, 0, 0, 0, false)).2.2) then some false else bif relPre ((x65.getD x67.toNat (0, 0, 0, 0, 0, [], 0, 0, 0, 0, 0, 0, false)).2.2, e.2.2) then bif !F_frel ((x65.getD x67.toNat (0, 0, 0, 0, 0, [], 0, 0, 0, 0, 0, 0, false)).2.2, e.2.2) then some false else L_fval_4 f (l, e, x40, x41, x42, x65, x66, IntKind.i64.wrap (x67 + 1)) else none else none else none else L_fval_2 f (l, x40, x41, IntKind.i64.wrap (x42 + 1)) := by kernel_rfl
noncomputable def F_fval_4 (K_2 : ((List (SEn)) × (List (SEn)) × Int × Nat) → Bool) : List (SEn) → ((List (SEn)) × SEn × (List (SEn)) × Int × Nat × (List (SEn)) × Int × Nat) → Bool
  | [], (l, e, x40, x41, x42, x65, x66, x67) => K_2 (l, x40, x41, x42 + 1)
  | uu :: rest, (l, e, x40, x41, x42, x65, x66, x67) => bif e.1 == uu.1 then bif e.2.1 == uu.2.1 then false else bif !coexB (e.2.2.2.2.2.2, uu.2.2.2.2.2.2) then false else bif !F_frel (e.2.2, uu.2.2) then false else bif !F_frel (uu.2.2, e.2.2) then false else F_fval_4 K_2 rest (l, e, x40, x41, x42, x65, x66, x67 + 1) else bif !coexB (e.2.2.2.2.2.2, uu.2.2.2.2.2.2) then false else bif !F_frel (e.2.2, uu.2.2) then false else bif !F_frel (uu.2.2, e.2.2) then false else F_fval_4 K_2 rest (l, e, x40, x41, x42, x65, x66, x67 + 1)
noncomputable def P_fval_4 (KP_2 : ((List (SEn)) × (List (SEn)) × Int × Nat) → Bool) : List (SEn) → ((List (SEn)) × SEn × (List (SEn)) × Int × Nat × (List (SEn)) × Int × Nat) → Bool
  | [], (l, e, x40, x41, x42, x65, x66, x67) => KP_2 (l, x40, x41, x42 + 1)
  | uu :: rest, (l, e, x40, x41, x42, x65, x66, x67) => bif e.1 == uu.1 then bif e.2.1 == uu.2.1 then true else bif !coexB (e.2.2.2.2.2.2, uu.2.2.2.2.2.2) then true else relPre (e.2.2, uu.2.2) && bif !F_frel (e.2.2, uu.2.2) then true else relPre (uu.2.2, e.2.2) && bif !F_frel (uu.2.2, e.2.2) then true else P_fval_4 KP_2 rest (l, e, x40, x41, x42, x65, x66, x67 + 1) else bif !coexB (e.2.2.2.2.2.2, uu.2.2.2.2.2.2) then true else relPre (e.2.2, uu.2.2) && bif !F_frel (e.2.2, uu.2.2) then true else relPre (uu.2.2, e.2.2) && bif !F_frel (uu.2.2, e.2.2) then true else P_fval_4 KP_2 rest (l, e, x40, x41, x42, x65, x66, x67 + 1)
theorem A_fval_4 {K_2 : ((List (SEn)) × (List (SEn)) × Int × Nat) → Bool} {KP_2 : ((List (SEn)) × (List (SEn)) × Int × Nat) → Bool} {rest_2 : List (SEn)} (hK_2 : ∀ (l : List (SEn)) (x40 : List (SEn)) (x41 : Int) (x42 : Nat) (hd : x40.drop x42 = rest_2) (hn : x41 = ((x40.length : Nat) : Int)) (hl : x40.length ≤ 1099511627776), Rns (fun f => L_fval_2 f (l, x40, x41, ((x42 : Nat) : Int))) (KP_2 (l, x40, x41, x42)) (K_2 (l, x40, x41, x42))) : ∀ (rest : List (SEn)) (l : List (SEn)) (e : SEn) (x40 : List (SEn)) (x41 : Int) (x42 : Nat) (x65 : List (SEn)) (x66 : Int) (x67 : Nat) (hd : x65.drop x67 = rest) (hn : x66 = ((x65.length : Nat) : Int)) (hl : x65.length ≤ 1099511627776) (hd_2 : x40.drop (x42 + 1) = rest_2) (hn_2 : x41 = ((x40.length : Nat) : Int)) (hl_2 : x40.length ≤ 1099511627776) (ht_2 : x42 < x40.length), Rns (fun f => L_fval_4 f (l, e, x40, x41, ((x42 : Nat) : Int), x65, x66, ((x67 : Nat) : Int))) (P_fval_4 KP_2 rest (l, e, x40, x41, x42, x65, x66, x67)) (F_fval_4 K_2 rest (l, e, x40, x41, x42, x65, x66, x67))
  | [], l, e, x40, x41, x42, x65, x66, x67, hd, hn, hl, hd_2, hn_2, hl_2, ht_2 => ev_step (T := fun f => L_fval_2 f (l, x40, x41, (↑(x42 + 1) : Int))) (fun f => (L_fval_4_eq f _ _ _ _ _ _ _ _).trans (by simp only [ge_decn hn (drop_ge hd), ge0, Bool.and_self, Bool.true_and, cond_true, cond_false, List.length_set, wrap_succ ht_2 hl_2, lt_dec ht_2, getD_set ht_2, lt_decn hn_2 ht_2] <;> rfl)) (hK_2 _ _ _ _ (by first | exact hd_2 | exact drop_setS hd_2 | exact drop_setS (drop_setS hd_2)) (by first | exact hn_2 | simpa using hn_2) (by first | exact hl_2 | simpa using hl_2))
  | uu :: rest, l, e, x40, x41, x42, x65, x66, x67, hd, hn, hl, hd_2, hn_2, hl_2, ht_2 => ev_step (T := fun f => bif e.1 == uu.1 then bif e.2.1 == uu.2.1 then some false else bif !coexB (e.2.2.2.2.2.2, uu.2.2.2.2.2.2) then some false else bif relPre (e.2.2, uu.2.2) then bif !F_frel (e.2.2, uu.2.2) then some false else bif relPre (uu.2.2, e.2.2) then bif !F_frel (uu.2.2, e.2.2) then some false else L_fval_4 f (l, e, x40, x41, (↑x42 : Int), x65, x66, (↑(x67 + 1) : Int)) else none else none else bif !coexB (e.2.2.2.2.2.2, uu.2.2.2.2.2.2) then some false else bif relPre (e.2.2, uu.2.2) then bif !F_frel (e.2.2, uu.2.2) then some false else bif relPre (uu.2.2, e.2.2) then bif !F_frel (uu.2.2, e.2.2) then some false else L_fval_4 f (l, e, x40, x41, (↑x42 : Int), x65, x66, (↑(x67 + 1) : Int)) else none else none) (fun f => (L_fval_4_eq f _ _ _ _ _ _ _ _).trans (by simp only [lt_decn hn (drop_lt hd), lt_dec (drop_lt hd), drop_get hd, wrap_succ (drop_lt hd) hl, getD_set (drop_lt hd), ge0, Bool.and_self, Bool.true_and, cond_true, cond_false, List.length_set, wrap_succ ht_2 hl_2, lt_dec ht_2, getD_set ht_2, lt_decn hn_2 ht_2] <;> rfl)) (ev_bif (ev_bif ev_some (ev_bif ev_some (ev_chk (ev_bif ev_some (ev_chk (ev_bif ev_some (A_fval_4 hK_2 rest _ _ _ _ _ _ _ _ (by first | exact drop_succ hd | exact drop_set hd | exact drop_setS (drop_set hd)) (by first | exact hn | simpa using hn) (by first | exact hl | simpa using hl) (by first | exact hd_2 | exact drop_setS hd_2 | exact drop_setS (drop_setS hd_2)) (by first | exact hn_2 | simpa using hn_2) (by first | exact hl_2 | simpa using hl_2) (by first | exact ht_2 | simpa using ht_2)))))))) (ev_bif ev_some (ev_chk (ev_bif ev_some (ev_chk (ev_bif ev_some (A_fval_4 hK_2 rest _ _ _ _ _ _ _ _ (by first | exact drop_succ hd | exact drop_set hd | exact drop_setS (drop_set hd)) (by first | exact hn | simpa using hn) (by first | exact hl | simpa using hl) (by first | exact hd_2 | exact drop_setS hd_2 | exact drop_setS (drop_setS hd_2)) (by first | exact hn_2 | simpa using hn_2) (by first | exact hl_2 | simpa using hl_2) (by first | exact ht_2 | simpa using ht_2))))))))
noncomputable def F_fval_2 : List (SEn) → ((List (SEn)) × (List (SEn)) × Int × Nat) → Bool
  | [], (l, x40, x41, x42) => true
  | uu :: rest, (l, x40, x41, x42) => bif decide ((↑x42 : Int) > 0) then bif !lessI (((l.getD (IntKind.i64.wrap ((↑x42 : Int) - 1)).toNat (0, 0, 0, 0, 0, [], 0, 0, 0, 0, 0, 0, false)).2.2.1, (l.getD (IntKind.i64.wrap ((↑x42 : Int) - 1)).toNat (0, 0, 0, 0, 0, [], 0, 0, 0, 0, 0, 0, false)).2.2.2.1, (l.getD (IntKind.i64.wrap ((↑x42 : Int) - 1)).toNat (0, 0, 0, 0, 0, [], 0, 0, 0, 0, 0, 0, false)).2.2.2.2.1), uu.2.2.1, uu.2.2.2.1, uu.2.2.2.2.1) then false else F_fval_4 (F_fval_2 rest) (List.take (↑x42 : Int).toNat l) (l, (uu.1, uu.2.1, uu.2.2.1, uu.2.2.2.1, uu.2.2.2.2.1, uu.2.2.2.2.2.1, uu.2.2.2.2.2.2), x40, x41, x42, List.take (↑x42 : Int).toNat l, (↑(List.take (↑x42 : Int).toNat l).length : Int), 0) else F_fval_4 (F_fval_2 rest) (List.take (↑x42 : Int).toNat l) (l, (uu.1, uu.2.1, uu.2.2.1, uu.2.2.2.1, uu.2.2.2.2.1, uu.2.2.2.2.2.1, uu.2.2.2.2.2.2), x40, x41, x42, List.take (↑x42 : Int).toNat l, (↑(List.take (↑x42 : Int).toNat l).length : Int), 0)
noncomputable def P_fval_2 : List (SEn) → ((List (SEn)) × (List (SEn)) × Int × Nat) → Bool
  | [], (l, x40, x41, x42) => true
  | uu :: rest, (l, x40, x41, x42) => bif decide ((↑x42 : Int) > 0) then decide (0 ≤ IntKind.i64.wrap ((↑x42 : Int) - 1)) && decide (IntKind.i64.wrap ((↑x42 : Int) - 1) < (↑l.length : Int)) && bif !lessI (((l.getD (IntKind.i64.wrap ((↑x42 : Int) - 1)).toNat (0, 0, 0, 0, 0, [], 0, 0, 0, 0, 0, 0, false)).2.2.1, (l.getD (IntKind.i64.wrap ((↑x42 : Int) - 1)).toNat (0, 0, 0, 0, 0, [], 0, 0, 0, 0, 0, 0, false)).2.2.2.1, (l.getD (IntKind.i64.wrap ((↑x42 : Int) - 1)).toNat (0, 0, 0, 0, 0, [], 0, 0, 0, 0, 0, 0, false)).2.2.2.2.1), uu.2.2.1, uu.2.2.2.1, uu.2.2.2.2.1) then true else decide ((↑x42 : Int) ≤ (↑l.length : Int)) && (decide ((List.take (↑x42 : Int).toNat l).length ≤ 1099511627776) && P_fval_4 (P_fval_2 rest) (List.take (↑x42 : Int).toNat l) (l, (uu.1, uu.2.1, uu.2.2.1, uu.2.2.2.1, uu.2.2.2.2.1, uu.2.2.2.2.2.1, uu.2.2.2.2.2.2), x40, x41, x42, List.take (↑x42 : Int).toNat l, (↑(List.take (↑x42 : Int).toNat l).length : Int), 0)) else decide ((↑x42 : Int) ≤ (↑l.length : Int)) && (decide ((List.take (↑x42 : Int).toNat l).length ≤ 1099511627776) && P_fval_4 (P_fval_2 rest) (List.take (↑x42 : Int).toNat l) (l, (uu.1, uu.2.1, uu.2.2.1, uu.2.2.2.1, uu.2.2.2.2.1, uu.2.2.2.2.2.1, uu.2.2.2.2.2.2), x40, x41, x42, List.take (↑x42 : Int).toNat l, (↑(List.take (↑x42 : Int).toNat l).length : Int), 0))
theorem A_fval_2 : ∀ (rest : List (SEn)) (l : List (SEn)) (x40 : List (SEn)) (x41 : Int) (x42 : Nat) (hd : x40.drop x42 = rest) (hn : x41 = ((x40.length : Nat) : Int)) (hl : x40.length ≤ 1099511627776), Rns (fun f => L_fval_2 f (l, x40, x41, ((x42 : Nat) : Int))) (P_fval_2 rest (l, x40, x41, x42)) (F_fval_2 rest (l, x40, x41, x42))
  | [], l, x40, x41, x42, hd, hn, hl => ev_step (T := fun f => some true) (fun f => (L_fval_2_eq f _ _ _ _).trans (by simp only [ge_decn hn (drop_ge hd), ge0, Bool.and_self, Bool.true_and, cond_true, cond_false, List.length_set] <;> rfl)) ev_some
  | uu :: rest, l, x40, x41, x42, hd, hn, hl => ev_step (T := fun f => bif decide ((↑x42 : Int) > 0) then bif decide (0 ≤ IntKind.i64.wrap ((↑x42 : Int) - 1)) && decide (IntKind.i64.wrap ((↑x42 : Int) - 1) < (↑l.length : Int)) then bif !lessI (((l.getD (IntKind.i64.wrap ((↑x42 : Int) - 1)).toNat (0, 0, 0, 0, 0, [], 0, 0, 0, 0, 0, 0, false)).2.2.1, (l.getD (IntKind.i64.wrap ((↑x42 : Int) - 1)).toNat (0, 0, 0, 0, 0, [], 0, 0, 0, 0, 0, 0, false)).2.2.2.1, (l.getD (IntKind.i64.wrap ((↑x42 : Int) - 1)).toNat (0, 0, 0, 0, 0, [], 0, 0, 0, 0, 0, 0, false)).2.2.2.2.1), uu.2.2.1, uu.2.2.2.1, uu.2.2.2.2.1) then some false else bif decide ((↑x42 : Int) ≤ (↑l.length : Int)) then L_fval_4 f (l, (uu.1, uu.2.1, uu.2.2.1, uu.2.2.2.1, uu.2.2.2.2.1, uu.2.2.2.2.2.1, uu.2.2.2.2.2.2), x40, x41, (↑x42 : Int), List.take (↑x42 : Int).toNat l, (↑(List.take (↑x42 : Int).toNat l).length : Int), 0) else none else none else bif decide ((↑x42 : Int) ≤ (↑l.length : Int)) then L_fval_4 f (l, (uu.1, uu.2.1, uu.2.2.1, uu.2.2.2.1, uu.2.2.2.2.1, uu.2.2.2.2.2.1, uu.2.2.2.2.2.2), x40, x41, (↑x42 : Int), List.take (↑x42 : Int).toNat l, (↑(List.take (↑x42 : Int).toNat l).length : Int), 0) else none) (fun f => (L_fval_2_eq f _ _ _ _).trans (by simp only [lt_decn hn (drop_lt hd), lt_dec (drop_lt hd), drop_get hd, wrap_succ (drop_lt hd) hl, getD_set (drop_lt hd), ge0, Bool.and_self, Bool.true_and, cond_true, cond_false, List.length_set] <;> rfl)) (ev_bif (ev_chk (ev_bif ev_some (ev_chk (ev_and fun hh => A_fval_4 (A_fval_2 rest) _ _ _ _ _ _ _ _ _ rfl (by first | rfl | simp) (of_decide_eq_true hh) (by first | exact drop_succ hd | exact drop_set hd | exact drop_setS (drop_set hd)) (by first | exact hn | simpa using hn) (by first | exact hl | simpa using hl) (by first | exact drop_lt hd | simpa using drop_lt hd))))) (ev_chk (ev_and fun hh => A_fval_4 (A_fval_2 rest) _ _ _ _ _ _ _ _ _ rfl (by first | rfl | simp) (of_decide_eq_true hh) (by first | exact drop_succ hd | exact drop_set hd | exact drop_setS (drop_set hd)) (by first | exact hn | simpa using hn) (by first | exact hl | simpa using hl) (by first | exact drop_lt hd | simpa using drop_lt hd))))
noncomputable def F_fval_0 : List (SEn) → ((List (SEn)) × (List (SEn)) × Int × Nat) → Bool
  | [], (l, x9, x10, x11) => F_fval_2 l (l, l, (↑l.length : Int), 0)
  | uu :: rest, (l, x9, x10, x11) => bif decide (uu.1 < 0) then false else bif decide (uu.1 ≥ 32) then false else bif decide (uu.2.1 < 0) then false else bif decide (uu.2.1 ≥ 64) then false else bif !vnodB uu.2.2 then false else F_fval_0 rest (l, x9, x10, x11 + 1)
noncomputable def P_fval_0 : List (SEn) → ((List (SEn)) × (List (SEn)) × Int × Nat) → Bool
  | [], (l, x9, x10, x11) => decide (l.length ≤ 1099511627776) && P_fval_2 l (l, l, (↑l.length : Int), 0)
  | uu :: rest, (l, x9, x10, x11) => bif decide (uu.1 < 0) then true else bif decide (uu.1 ≥ 32) then true else bif decide (uu.2.1 < 0) then true else bif decide (uu.2.1 ≥ 64) then true else bif !vnodB uu.2.2 then true else P_fval_0 rest (l, x9, x10, x11 + 1)
theorem A_fval_0 : ∀ (rest : List (SEn)) (l : List (SEn)) (x9 : List (SEn)) (x10 : Int) (x11 : Nat) (hd : x9.drop x11 = rest) (hn : x10 = ((x9.length : Nat) : Int)) (hl : x9.length ≤ 1099511627776), Rns (fun f => L_fval_0 f (l, x9, x10, ((x11 : Nat) : Int))) (P_fval_0 rest (l, x9, x10, x11)) (F_fval_0 rest (l, x9, x10, x11))
  | [], l, x9, x10, x11, hd, hn, hl => ev_step (T := fun f => L_fval_2 f (l, l, (↑l.length : Int), 0)) (fun f => (L_fval_0_eq f _ _ _ _).trans (by simp only [ge_decn hn (drop_ge hd), ge0, Bool.and_self, Bool.true_and, cond_true, cond_false, List.length_set] <;> rfl)) (ev_and fun hh => A_fval_2 _ _ _ _ _ rfl (by first | rfl | simp) (of_decide_eq_true hh))
  | uu :: rest, l, x9, x10, x11, hd, hn, hl => ev_step (T := fun f => bif decide (uu.1 < 0) then some false else bif decide (uu.1 ≥ 32) then some false else bif decide (uu.2.1 < 0) then some false else bif decide (uu.2.1 ≥ 64) then some false else bif !vnodB uu.2.2 then some false else L_fval_0 f (l, x9, x10, (↑(x11 + 1) : Int))) (fun f => (L_fval_0_eq f _ _ _ _).trans (by simp only [lt_decn hn (drop_lt hd), lt_dec (drop_lt hd), drop_get hd, wrap_succ (drop_lt hd) hl, getD_set (drop_lt hd), ge0, Bool.and_self, Bool.true_and, cond_true, cond_false, List.length_set] <;> rfl)) (ev_bif ev_some (ev_bif ev_some (ev_bif ev_some (ev_bif ev_some (ev_bif ev_some (A_fval_0 rest _ _ _ _ (by first | exact drop_succ hd | exact drop_set hd | exact drop_setS (drop_set hd)) (by first | exact hn | simpa using hn) (by first | exact hl | simpa using hl)))))))
noncomputable def F_fval : (List (SEn)) → Bool
  | l => F_fval_0 l (l, l, (↑l.length : Int), 0)
noncomputable def P_fval : (List (SEn)) → Bool
  | l => decide (l.length ≤ 1099511627776) && P_fval_0 l (l, l, (↑l.length : Int), 0)
theorem fval_auto : ∀ a : (List (SEn)), Rns (fun f => M_fval f a) (P_fval a) (F_fval a)
  | l => ev_step (fun f => M_fval_eq f _) (ev_and fun hh => A_fval_0 _ _ _ _ _ rfl (by first | rfl | simp) (of_decide_eq_true hh))
theorem fval_4 (K KP : List SEn × List SEn × Int × Nat → Bool) (l : List SEn) (e : SEn) (x40 x65 : List SEn) (x41 x66 : Int) (x42 : Nat) (he : len40n (epath e) = true) : ∀ (r : List SEn) (k : Nat), (∀ f ∈ r, len40n (epath f) = true) →
    F_fval_4 K r (l, e, x40, x41, x42, x65, x66, k) = (r.all (pairB e) && K (l, x40, x41, x42 + 1)) ∧ (KP (l, x40, x41, x42 + 1) = true → P_fval_4 KP r (l, e, x40, x41, x42, x65, x66, k) = true)
  | [], k, h => ⟨rfl, fun h => h⟩
  | f :: r, k, h => by
    obtain ⟨i1, i2⟩ := fval_4 K KP l e x40 x65 x41 x66 x42 he r (k + 1) (fun g hg => h g (List.mem_cons_of_mem _ hg))
    have hf := h f (List.mem_cons_self ..)
    have p1 : relPre (e.2.2, f.2.2) = true := Bool.and_eq_true_iff.2 ⟨he, hf⟩
    have p2 : relPre (f.2.2, e.2.2) = true := Bool.and_eq_true_iff.2 ⟨hf, he⟩
    have e1 : coexB (e.2.2.2.2.2.2, f.2.2.2.2.2.2) = coexB (ecap e, ecap f) := rfl
    simp only [F_fval_4, P_fval_4, i1, p1, p2, e1, beqI, Bool.true_and, List.all_cons, pairB]
    constructor
    · cases decide (e.1 = f.1) <;> cases decide (e.2.1 = f.2.1) <;> cases coexB (ecap e, ecap f) <;> cases F_frel (e.2.2, f.2.2) <;> cases F_frel (f.2.2, e.2.2) <;> simp
    · intro hk
      rw [i2 hk]
      cases decide (e.1 = f.1) <;> cases decide (e.2.1 = f.2.1) <;> cases coexB (ecap e, ecap f) <;> cases F_frel (e.2.2, f.2.2) <;> cases F_frel (f.2.2, e.2.2) <;> rfl
theorem fval_2 : ∀ (r p : List SEn) (x : Int), (p ++ r).length ≤ 1099511627776 → (∀ f ∈ p ++ r, len40n (epath f) = true) → F_fval_2 r (p ++ r, p ++ r, x, p.length) = pvL p r ∧ P_fval_2 r (p ++ r, p ++ r, x, p.length) = true
  | [], p, x, hl, h => ⟨rfl, rfl⟩
  | u :: r, p, x, hl, h => by
    obtain ⟨i1, i2⟩ := fval_2 r (p ++ [u]) x (by simpa using hl) (by simpa using h)
    rw [show p ++ [u] ++ r = p ++ u :: r by simp, show (p ++ [u]).length = p.length + 1 by simp] at i1 i2
    obtain ⟨j1, j2⟩ := fval_4 (F_fval_2 r) (P_fval_2 r) (p ++ u :: r) u (p ++ u :: r) p x ((p.length : Nat) : Int) p.length (h u (by simp)) p 0 (fun f hf => h f (by simp [hf]))
    have j2 := j2 i2
    rw [i1] at j1
    have ht : List.take (Int.toNat ((p.length : Nat) : Int)) (p ++ u :: r) = p := by rw [Int.toNat_natCast]; simp
    have hpl : p.length ≤ 1099511627776 := by simp at hl; omega
    have hd : decide (((p.length : Nat) : Int) ≤ (((p ++ u :: r).length : Nat) : Int)) = true := decide_eq_true (by simp; omega)
    have eu : ((u.1, u.2.1, u.2.2.1, u.2.2.2.1, u.2.2.2.2.1, u.2.2.2.2.2.1, u.2.2.2.2.2.2) : SEn) = u := rfl
    have eu2 : ((u.2.2.1, u.2.2.2.1, u.2.2.2.2.1) : SId) = eid u := rfl
    have ez : ((0, 0, 0, 0, 0, [], 0, 0, 0, 0, 0, 0, false) : SEn) = zE := rfl
    have ey : ∀ y : SEn, ((y.2.2.1, y.2.2.2.1, y.2.2.2.2.1) : SId) = eid y := fun _ => rfl
    simp only [F_fval_2, P_fval_2, ht, eu, ey, ez, j1, j2, hd, decide_eq_true hpl, Bool.true_and, pvL]
    by_cases hp : p = []
    · subst hp; exact ⟨rfl, rfl⟩
    · obtain ⟨a1, a2, a3⟩ := last_at (u :: r) hp hpl
      rw [a1, a2, a3]
      have h0 : 0 < p.length := List.length_pos_iff.2 hp
      rw [show decide (((p.length : Nat) : Int) > 0) = true from decide_eq_true (by omega)]
      have e9 : lessLast p u = lessI (eid (p.getLastD zE), eid u) := by
        cases p with
        | nil => exact absurd rfl hp
        | cons a t => rfl
      rw [e9]
      cases lessI (eid (p.getLastD zE), eid u) <;> exact ⟨rfl, rfl⟩
noncomputable def fvalS (l : List SEn) : Bool := l.all (fun e => csB e && vnodB e.2.2) && pvL [] l
theorem fval_0 (l : List SEn) (hl : l.length ≤ 1099511627776) (h : ∀ f ∈ l, len40n (epath f) = true) : ∀ (r : List SEn) (k : Nat) (x : Int), F_fval_0 r (l, l, x, k) = (r.all (fun e => csB e && vnodB e.2.2) && pvL [] l) ∧ P_fval_0 r (l, l, x, k) = true
  | [], k, x => by
    obtain ⟨i1, i2⟩ := fval_2 l [] ((l.length : Nat) : Int) hl h
    simp only [List.nil_append, List.length_nil] at i1 i2
    simp only [F_fval_0, P_fval_0, i1, i2, decide_eq_true hl]; exact ⟨rfl, rfl⟩
  | u :: r, k, x => by
    obtain ⟨i1, i2⟩ := fval_0 l hl h r (k + 1) x
    have c1 : decide (u.1 < 0) = !decide (0 ≤ u.1) := by rw [← decide_not]; exact decide_eq_decide.2 (by omega)
    have c2 : decide (u.1 ≥ 32) = !decide (u.1 < 32) := by rw [← decide_not]; exact decide_eq_decide.2 (by omega)
    have c3 : decide (u.2.1 < 0) = !decide (0 ≤ u.2.1) := by rw [← decide_not]; exact decide_eq_decide.2 (by omega)
    have c4 : decide (u.2.1 ≥ 64) = !decide (u.2.1 < 64) := by rw [← decide_not]; exact decide_eq_decide.2 (by omega)
    simp only [F_fval_0, P_fval_0, i1, i2, c1, c2, c3, c4, List.all_cons, csB]
    cases decide (0 ≤ u.1) <;> cases decide (u.1 < 32) <;> cases decide (0 ≤ u.2.1) <;> cases decide (u.2.1 < 64) <;> cases vnodB u.2.2 <;> simp
theorem okF_path {l : List SEn} (h : okF l = true) : ∀ f ∈ l, len40n (epath f) = true := fun f hf => okE_mem (okF_E h) hf
theorem fval_P : ∀ a, okF a = true → P_fval a = true := fun a h => by
  simp only [P_fval, (fval_0 a (okE_len (okF_E h)) (okF_path h) a 0 _).2, Bool.and_true]; exact decide_eq_true (okE_len (okF_E h))
theorem fval_F : ∀ a, okF a = true → F_fval a = fvalS a := fun a h => by
  simp only [F_fval, (fval_0 a (okE_len (okF_E h)) (okF_path h) a 0 _).1]; rfl
theorem fval_run : ∀ a, (okF : (List (SEn)) → Bool) a = true → ∃ f, M_fval f a = some ((fvalS : (List (SEn)) → Bool) a) := fun a h => by have h1 := fval_auto a (fval_P a h); rw [fval_F a h] at h1; exact h1
noncomputable def E_fval : Ent := ⟨16, [.rd tSEn], [.v (.bool)], fun a => (okF : (List (SEn)) → Bool) a, fun a => (fvalS : (List (SEn)) → Bool) a⟩
theorem E_fval_ok : E_fval.Ok Try.prog := fun a hp vs hv => (fval_run a hp).elim fun f h => fnX_ok (C := C_fval) (Lt := Lt_fval) (fn := Try.f16) (rs := [.tmp 2]) [.rd tSEn] [.v (.bool)] mixed es_fval Try.func16 rfl rfl rfl (by kernel_rfl) (by kernel_rfl) f h vs hv
/-! ### What it says -/
def ancN (p n : SNd) : Prop := ∀ k, (npath n)[k]? = some (nid p) → F_fabv (p, n, ((k : Nat) : Int)) = true
theorem idxI_spec {α : Type} [DecidableEq α] (x : α) : ∀ (l : List α) (k : Int), 0 ≤ k → l.Nodup → ∀ j : Nat, l[j]? = some x → idxI l x k = k + j
  | [], k, hk, hn, j, hj => by simp at hj
  | u :: l, k, hk, hn, j, hj => by
    rw [List.nodup_cons] at hn
    simp only [idxI]
    by_cases hu : u = x
    · rw [decide_eq_true hu, cond_true]
      cases j with
      | zero => simp
      | succ j => exact absurd (List.mem_of_getElem? (by simpa using hj)) (hu ▸ hn.1)
    · rw [decide_eq_false hu, cond_false]
      cases j with
      | zero => simp at hj; exact absurd hj hu
      | succ j => rw [idxI_spec x l (k + 1) (by omega) hn.2 j (by simpa using hj)]; simp; omega
theorem frel_iff {p n : SNd} (hn : (npath n).Nodup) : F_frel (p, n) = true ↔ ancN p n := by
  have hg := idxI_ge (nid p) (npath n) 0 (by omega)
  have e0 : F_frel (p, n) = bif decide (idxI (npath n) (nid p) 0 < 0) then true else F_fabv (p, n, idxI (npath n) (nid p) 0) := rfl
  rw [e0]
  by_cases h0 : idxI (npath n) (nid p) 0 < 0
  · rw [decide_eq_true h0]
    simp only [cond_true, true_iff]
    intro k hk
    rw [decide_eq_false (by omega)] at hg
    exact absurd (List.mem_of_getElem? hk) (memD_not.1 hg.symm)
  · rw [decide_eq_false h0, cond_false]
    rw [decide_eq_true (by omega)] at hg
    have hm : nid p ∈ npath n := by simpa [memD] using hg.symm
    obtain ⟨j, hj⟩ := List.getElem?_of_mem hm
    have hs := idxI_spec (nid p) (npath n) 0 (by omega) hn j hj
    rw [hs, Int.zero_add]
    constructor
    · intro h k hk
      have := idxI_spec (nid p) (npath n) 0 (by omega) hn k hk
      rw [show k = j by omega]; exact h
    · intro h; exact h j hj
theorem fabv_iff (p n : SNd) (k : Nat) : F_fabv (p, n, ((k : Nat) : Int)) = true ↔ npath p = (npath n).take k ∧ contains (rgC (ncap p), rgC (ncap n)) = true ∧ ((ncap p).1 = 1 ∨ sobB (ncap p, ncap n) = true) := by
  show (bif decide (npath p = List.take (Int.toNat ((k : Nat) : Int)) (npath n)) then bif contains (rgC (ncap p), rgC (ncap n)) then bif (ncap p).1 == 1 then true else sobB (ncap p, ncap n) else false else false) = true ↔ _
  rw [Int.toNat_natCast, beqI]
  by_cases h1 : npath p = (npath n).take k
  · cases h2 : contains (rgC (ncap p), rgC (ncap n)) <;> by_cases h3 : (ncap p).1 = 1 <;> simp [h1, h3]
  · simp [h1]
structure Vg (l : List SEn) : Prop where
  node : ∀ e ∈ l, vnodB e.2.2 = true
  cs : ∀ e ∈ l, csB e = true
  sorted : l.Pairwise (fun a b => lessI (eid a, eid b) = true)
  slots : l.Pairwise (fun a b => ¬ (a.1 = b.1 ∧ a.2.1 = b.2.1))
  coex : l.Pairwise (fun a b => coexB (ecap a, ecap b) = true)
  anc : ∀ p ∈ l, ∀ e ∈ l, ancN p.2.2 e.2.2
theorem pvL_iff (h : SEn → SEn → Prop) (hh : ∀ a b, pairB b a = true ↔ h a b) : ∀ (r p : List SEn), p.Pairwise (fun a b => lessI (eid a, eid b) = true ∧ h a b) → (pvL p r = true ↔ (p ++ r).Pairwise (fun a b => lessI (eid a, eid b) = true ∧ h a b))
  | [], p, hp => by simp [pvL, hp]
  | u :: r, p, hp => by
    have key : (lessLast p u = true ∧ p.all (pairB u) = true) ↔ (p ++ [u]).Pairwise (fun a b => lessI (eid a, eid b) = true ∧ h a b) := by
      rw [List.pairwise_append]
      simp only [List.pairwise_singleton, List.mem_singleton, List.all_eq_true, true_and, forall_eq]
      constructor
      · rintro ⟨h1, h2⟩
        refine ⟨hp, fun a ha => ⟨?_, (hh a u).1 (h2 a ha)⟩⟩
        obtain ⟨q, y, rfl⟩ : ∃ q y, p = q ++ [y] := ⟨p.dropLast, p.getLast (List.ne_nil_of_mem ha), (List.dropLast_concat_getLast _).symm⟩
        have h3 : lessI (eid y, eid u) = true := by
          have : lessLast (q ++ [y]) u = lessI (eid y, eid u) := by
            have : (q ++ [y]).isEmpty = false := by cases q <;> rfl
            simp only [lessLast, this, cond_false]
            congr 3
            simp
          rw [this] at h1; exact h1
        rcases List.mem_append.1 ha with ha | ha
        · exact less_trans ((List.pairwise_append.1 hp).2.2 a ha y (by simp)).1 h3
        · rw [List.mem_singleton.1 ha]; exact h3
      · rintro ⟨_, h2⟩
        refine ⟨?_, fun a ha => (hh a u).2 (h2 a ha).2⟩
        cases p with
        | nil => rfl
        | cons a t =>
          have hm : (a :: t).getLastD zE ∈ a :: t := by
            rw [List.getLastD_eq_getLast?, List.getLast?_eq_some_getLast (by simp)]
            exact List.getLast_mem _
          exact (h2 _ hm).1
    simp only [pvL, Bool.and_eq_true]
    constructor
    · rintro ⟨h1, h2, h3⟩
      have := (pvL_iff h hh r (p ++ [u]) (key.1 ⟨h1, h2⟩)).1 h3
      simpa using this
    · intro h1
      have h2 : (p ++ [u]).Pairwise (fun a b => lessI (eid a, eid b) = true ∧ h a b) := by
        have : (p ++ u :: r) = (p ++ [u]) ++ r := by simp
        rw [this] at h1
        exact (List.pairwise_append.1 h1).1
      obtain ⟨h3, h4⟩ := key.2 h2
      exact ⟨h3, h4, (pvL_iff h hh r (p ++ [u]) h2).2 (by simpa using h1)⟩
theorem ancN_self {e : SEn} (h : vnodB e.2.2 = true) : ancN e.2.2 e.2.2 := fun k hk =>
  absurd (List.mem_of_getElem? hk) ((vnodB_iff _).1 h).2.2.2.2.2
theorem pw_all {α : Type} {R : α → α → Prop} {l : List α} (hr : ∀ a ∈ l, R a a) (hs : l.Pairwise (fun a b => R a b ∧ R b a)) : ∀ a ∈ l, ∀ b ∈ l, R a b := by
  induction l with
  | nil => intro a ha; cases ha
  | cons x l ih =>
    rw [List.pairwise_cons] at hs
    intro a ha b hb
    rcases List.mem_cons.1 ha with ea | ha'
    · rcases List.mem_cons.1 hb with eb | hb'
      · rw [ea, eb]; exact hr _ (List.mem_cons_self ..)
      · rw [ea]; exact (hs.1 b hb').1
    · rcases List.mem_cons.1 hb with eb | hb'
      · rw [eb]; exact (hs.1 a ha').2
      · exact ih (fun a ha => hr a (List.mem_cons_of_mem _ ha)) hs.2 a ha' b hb'
theorem all_pw {α : Type} {R : α → α → Prop} : ∀ {l : List α}, (∀ a ∈ l, ∀ b ∈ l, R a b) → l.Pairwise (fun a b => R a b ∧ R b a)
  | [], _ => .nil
  | x :: l, h => List.pairwise_cons.2 ⟨fun b hb => ⟨h x (List.mem_cons_self ..) b (List.mem_cons_of_mem _ hb), h b (List.mem_cons_of_mem _ hb) x (List.mem_cons_self ..)⟩, all_pw (fun a ha b hb => h a (List.mem_cons_of_mem _ ha) b (List.mem_cons_of_mem _ hb))⟩
theorem fvalS_iff (l : List SEn) : fvalS l = true ↔ Vg l := by
  simp only [fvalS, Bool.and_eq_true, List.all_eq_true]
  rw [pvL_iff (fun a b => pairB b a = true) (fun _ _ => Iff.rfl) l [] .nil, List.nil_append]
  constructor
  · rintro ⟨h1, h2⟩
    have hn : ∀ e ∈ l, (npath e.2.2).Nodup := fun e he => ((vnodB_iff _).1 (h1 e he).2).2.2.2.2.1
    refine ⟨fun e he => (h1 e he).2, fun e he => (h1 e he).1, h2.imp (fun h => h.1), h2.imp (fun {a b} h => ?_), h2.imp (fun {a b} h => ?_), pw_all (R := fun p e : SEn => ancN p.2.2 e.2.2) (fun e he => ancN_self (h1 e he).2) ?_⟩
    · have h := h.2
      simp only [pairB, Bool.and_eq_true, Bool.not_eq_true', Bool.and_eq_false_iff, decide_eq_false_iff_not] at h
      rintro ⟨e1, e2⟩
      rcases h.1 with h | h
      · exact h e1.symm
      · exact h e2.symm
    · have h := h.2
      simp only [pairB, Bool.and_eq_true] at h
      exact coex_symm h.2.1
    · refine h2.imp_of_mem (fun {a b} ha hb h => ?_)
      have h := h.2
      simp only [pairB, Bool.and_eq_true] at h
      exact ⟨(frel_iff (hn b hb)).1 h.2.2.2, (frel_iff (hn a ha)).1 h.2.2.1⟩
  · intro h
    have hn : ∀ e ∈ l, (npath e.2.2).Nodup := fun e he => ((vnodB_iff _).1 (h.node e he)).2.2.2.2.1
    refine ⟨fun e he => ⟨h.cs e he, h.node e he⟩, ?_⟩
    have ha := all_pw (R := fun p e : SEn => ancN p.2.2 e.2.2) h.anc
    have := ((h.sorted.and h.slots).and (h.coex.and ha))
    refine this.imp_of_mem (fun {a b} ma mb h => ?_)
    obtain ⟨⟨h1, h2⟩, h3, h4, h5⟩ := h
    refine ⟨h1, ?_⟩
    simp only [pairB, Bool.and_eq_true, Bool.not_eq_true', Bool.and_eq_false_iff, decide_eq_false_iff_not]
    refine ⟨?_, coex_symm h3, (frel_iff (hn a ma)).2 h5, (frel_iff (hn b mb)).2 h4⟩
    by_cases e1 : b.1 = a.1
    · exact .inr (fun e2 => h2 ⟨e1.symm, e2.symm⟩)
    · exact .inl e1
end Go.AL
