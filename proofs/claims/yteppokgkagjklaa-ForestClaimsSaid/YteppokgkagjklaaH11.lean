/-
  ForestClaims: the walk. By an AI agent.
-/
import Derived.Test.YteppokgkagjklaaH6a
namespace Go.AL
open Go.Proofs
set_option linter.unusedVariables false
set_option linter.unusedSimpArgs false
noncomputable def C_cla : Cfg := ⟨Try.prog, [E_fors, E_rcent, E_ffre, E_fcnf, E_small, E_rcont, E_awake], pmT [(6, ([(0, []), (2, []), (3, []), (4, []), (5, []), (6, []), (7, []), (8, []), (9, []), (10, []), (11, []), (12, []), (13, []), (14, []), (1, []), (15, [])], [(25, 40)])), (13, ([(0, []), (1, []), (2, []), (3, []), (4, []), (5, []), (6, []), (7, []), (8, []), (9, [])], [(11, 11), (50, 58)])), (14, ([(0, []), (2, []), (3, []), (4, []), (5, []), (6, []), (7, []), (8, []), (10, []), (11, []), (1, []), (9, []), (12, []), (13, []), (14, []), (15, []), (16, [])], [(6, 6), (59, 74)]))], 75, []⟩
theorem es_cla : EsOk Try.prog [E_fors, E_rcent, E_ffre, E_fcnf, E_small, E_rcont, E_awake] [] := es_cons E_fors_ok (es_cons E_rcent_ok (es_cons E_ffre_ok (es_cons E_fcnf_ok (es_cons E_small_ok (es_cons E_rcont_ok (es_cons E_awake_ok (es_nil)))))))
def Lt_cla : Nat → LD := ldT [(0, ⟨[.c 1 (.int .i64), .c 2 (.int .i64), .c 7 (.sl tSEn), .list 8 999 41 2 tRg, .c 9 (.int .i64)], []⟩), (2, ⟨[.c 7 (.sl tSEn), .list 8 999 41 2 tRg, .box 10 10 41 2 tRg, .c 11 (.bool), .c 12 (.int .i64)], []⟩)]
noncomputable def M_cla (f : Nat) (a : (List (SSt)) × Int × Int) : Option (Bool) := (runX (C_cla) Lt_cla (Kret Try.prog [.tmp 6] [.v (.bool)]) f [.code (bodyOf Try.f5)] (initX [.rd tSSt, .c (.int .i64), .c (.int .i64)] a) : Option (ResT [.v (.bool)]))
noncomputable def L_cla_0 (f : Nat) (x : Int × Int × (List (SEn)) × (List (Rg)) × Int) : Option (Bool) := (runX (C_cla) Lt_cla (Kret Try.prog [.tmp 6] [.v (.bool)]) f (headOf Try.f5 0) ((Lt_cla 0).mk' x) : Option (ResT [.v (.bool)]))
noncomputable def L_cla_2 (f : Nat) (x : (List (SEn)) × (List (Rg)) × Rg × Bool × Int) : Option (Bool) := (runX (C_cla) Lt_cla (Kret Try.prog [.tmp 6] [.v (.bool)]) f (headOf Try.f5 2) ((Lt_cla 2).mk' x) : Option (ResT [.v (.bool)]))
theorem M_cla_eq (f : Nat) (steps : List (SSt)) (base : Int) (bits : Int) : M_cla (f + 1) (steps, base, bits) =
    bif okE (forest steps) then bif frePre (forest steps, 0, 16) then L_cla_0 f (base, bits, forest steps, freS (forest steps, 0, 16), 0) else none else none := by kernel_rfl
theorem L_cla_0_eq (f : Nat) (base : Int) (bits : Int) (l : List (SEn)) (free0 : List (Rg)) (i : Int) : L_cla_0 (f + 1) (base, bits, l, free0, i) =
    bif decide (i < (↑free0.length : Int)) then bif decide (0 ≤ i) && decide (i < (↑free0.length : Int)) then bif decide (0 ≤ i) && decide (i < (↑free0.length : Int)) then bif okE l then bif cnfPre (l, (0, 0, 0), [(1, (free0.getD i.toNat (0, 0)).1, (free0.getD i.toNat (0, 0)).2, 0, 0, 0, false)]) then bif cnfS (l, (0, 0, 0), [(1, (free0.getD i.toNat (0, 0)).1, (free0.getD i.toNat (0, 0)).2, 0, 0, 0, false)]) then some false else L_cla_0 f (base, bits, l, free0, IntKind.i64.wrap (i + 1)) else none else none else none else none else L_cla_2 f (l, free0, small (base, bits), false, 0) := by kernel_rfl
theorem L_cla_2_eq (f : Nat) (l : List (SEn)) (free0 : List (Rg)) (r : Rg) (inside : Bool) (i : Int) : L_cla_2 (f + 1) (l, free0, r, inside, i) =
    bif decide (i < (↑free0.length : Int)) then bif inside then L_cla_2 f (l, free0, r, true, IntKind.i64.wrap (i + 1)) else bif decide (0 ≤ i) && decide (i < (↑free0.length : Int)) then L_cla_2 f (l, free0, r, contains (free0.getD i.toNat (0, 0), r), IntKind.i64.wrap (i + 1)) else none else bif okE l then bif cnfPre (l, (0, 0, 0), [(1, r.1, r.2, 0, 0, 0, false)]) then bif cnfS (l, (0, 0, 0), [(1, r.1, r.2, 0, 0, 0, false)]) == !inside then some true else some false else none else none := by kernel_rfl
noncomputable def F_cla_2 : List (Rg) → ((List (SEn)) × (List (Rg)) × Rg × Bool × Nat) → Bool
  | [], (l, free0, r, inside, i) => bif cnfS (l, (0, 0, 0), [(1, r.1, r.2, 0, 0, 0, false)]) == !inside then true else false
  | uu :: rest, (l, free0, r, inside, i) => bif inside then F_cla_2 rest (l, free0, r, true, i + 1) else F_cla_2 rest (l, free0, r, contains (uu, r), i + 1)
noncomputable def P_cla_2 : List (Rg) → ((List (SEn)) × (List (Rg)) × Rg × Bool × Nat) → Bool
  | [], (l, free0, r, inside, i) => okE l && cnfPre (l, (0, 0, 0), [(1, r.1, r.2, 0, 0, 0, false)])
  | uu :: rest, (l, free0, r, inside, i) => bif inside then P_cla_2 rest (l, free0, r, true, i + 1) else P_cla_2 rest (l, free0, r, contains (uu, r), i + 1)
theorem A_cla_2 : ∀ (rest : List (Rg)) (l : List (SEn)) (free0 : List (Rg)) (r : Rg) (inside : Bool) (i : Nat) (hd : free0.drop i = rest) (hl : free0.length ≤ 1099511627776), Rns (fun f => L_cla_2 f (l, free0, r, inside, ((i : Nat) : Int))) (P_cla_2 rest (l, free0, r, inside, i)) (F_cla_2 rest (l, free0, r, inside, i))
  | [], l, free0, r, inside, i, hd, hl => ev_step (T := fun f => bif okE l then bif cnfPre (l, (0, 0, 0), [(1, r.1, r.2, 0, 0, 0, false)]) then bif cnfS (l, (0, 0, 0), [(1, r.1, r.2, 0, 0, 0, false)]) == !inside then some true else some false else none else none) (fun f => (L_cla_2_eq f _ _ _ _ _).trans (by simp only [ge_dec (drop_ge hd), ge0, Bool.and_self, Bool.true_and, cond_true, cond_false, List.length_set] <;> rfl)) (ev_chk (ev_chk1 (ev_bift ev_some ev_some)))
  | uu :: rest, l, free0, r, inside, i, hd, hl => ev_step (T := fun f => bif inside then L_cla_2 f (l, free0, r, true, (↑(i + 1) : Int)) else L_cla_2 f (l, free0, r, contains (uu, r), (↑(i + 1) : Int))) (fun f => (L_cla_2_eq f _ _ _ _ _).trans (by simp only [lt_dec (drop_lt hd), drop_get hd, wrap_succ (drop_lt hd) hl, getD_set (drop_lt hd), ge0, Bool.and_self, Bool.true_and, cond_true, cond_false, List.length_set] <;> rfl)) (ev_bif (A_cla_2 rest _ _ _ _ _ (by first | exact drop_succ hd | exact drop_set hd | exact drop_setS (drop_set hd)) (by first | exact hl | simpa using hl)) (A_cla_2 rest _ _ _ _ _ (by first | exact drop_succ hd | exact drop_set hd | exact drop_setS (drop_set hd)) (by first | exact hl | simpa using hl)))
noncomputable def F_cla_0 : List (Rg) → (Int × Int × (List (SEn)) × (List (Rg)) × Nat) → Bool
  | [], (base, bits, l, free0, i) => F_cla_2 free0 (l, free0, small (base, bits), false, 0)
  | uu :: rest, (base, bits, l, free0, i) => bif cnfS (l, (0, 0, 0), [(1, uu.1, uu.2, 0, 0, 0, false)]) then false else F_cla_0 rest (base, bits, l, free0, i + 1)
noncomputable def P_cla_0 : List (Rg) → (Int × Int × (List (SEn)) × (List (Rg)) × Nat) → Bool
  | [], (base, bits, l, free0, i) => decide (free0.length ≤ 1099511627776) && P_cla_2 free0 (l, free0, small (base, bits), false, 0)
  | uu :: rest, (base, bits, l, free0, i) => okE l && (cnfPre (l, (0, 0, 0), [(1, uu.1, uu.2, 0, 0, 0, false)]) && bif cnfS (l, (0, 0, 0), [(1, uu.1, uu.2, 0, 0, 0, false)]) then true else P_cla_0 rest (base, bits, l, free0, i + 1))
theorem A_cla_0 : ∀ (rest : List (Rg)) (base : Int) (bits : Int) (l : List (SEn)) (free0 : List (Rg)) (i : Nat) (hd : free0.drop i = rest) (hl : free0.length ≤ 1099511627776), Rns (fun f => L_cla_0 f (base, bits, l, free0, ((i : Nat) : Int))) (P_cla_0 rest (base, bits, l, free0, i)) (F_cla_0 rest (base, bits, l, free0, i))
  | [], base, bits, l, free0, i, hd, hl => ev_step (T := fun f => L_cla_2 f (l, free0, small (base, bits), false, 0)) (fun f => (L_cla_0_eq f _ _ _ _ _).trans (by simp only [ge_dec (drop_ge hd), ge0, Bool.and_self, Bool.true_and, cond_true, cond_false, List.length_set] <;> rfl)) (ev_and fun hh => A_cla_2 _ _ _ _ _ _ rfl (of_decide_eq_true hh))
  | uu :: rest, base, bits, l, free0, i, hd, hl => ev_step (T := fun f => bif okE l then bif cnfPre (l, (0, 0, 0), [(1, uu.1, uu.2, 0, 0, 0, false)]) then bif cnfS (l, (0, 0, 0), [(1, uu.1, uu.2, 0, 0, 0, false)]) then some false else L_cla_0 f (base, bits, l, free0, (↑(i + 1) : Int)) else none else none) (fun f => (L_cla_0_eq f _ _ _ _ _).trans (by simp only [lt_dec (drop_lt hd), drop_get hd, wrap_succ (drop_lt hd) hl, getD_set (drop_lt hd), ge0, Bool.and_self, Bool.true_and, cond_true, cond_false, List.length_set] <;> rfl)) (ev_chk (ev_chk (ev_bif ev_some (A_cla_0 rest _ _ _ _ _ (by first | exact drop_succ hd | exact drop_set hd | exact drop_setS (drop_set hd)) (by first | exact hl | simpa using hl)))))
noncomputable def F_cla : ((List (SSt)) × Int × Int) → Bool
  | (steps, base, bits) => F_cla_0 (freS (forest steps, 0, 16)) (base, bits, forest steps, freS (forest steps, 0, 16), 0)
noncomputable def P_cla : ((List (SSt)) × Int × Int) → Bool
  | (steps, base, bits) => okE (forest steps) && (frePre (forest steps, 0, 16) && (decide ((freS (forest steps, 0, 16)).length ≤ 1099511627776) && P_cla_0 (freS (forest steps, 0, 16)) (base, bits, forest steps, freS (forest steps, 0, 16), 0)))
theorem cla_auto : ∀ a : (List (SSt)) × Int × Int, Rns (fun f => M_cla f a) (P_cla a) (F_cla a)
  | (steps, base, bits) => ev_step (fun f => M_cla_eq f _ _ _) (ev_chk (ev_chk (ev_and fun hh => A_cla_0 _ _ _ _ _ _ rfl (of_decide_eq_true hh))))
end Go.AL
