/-
  Layer 30 (sched): SchedWork. By an AI agent.
-/
import Derived.Test.YtmdmmikpmhopkaaKz
namespace Go.AL
open Go.Proofs
set_option linter.unusedVariables false
set_option linter.unusedSimpArgs false
set_option maxHeartbeats 4000000
noncomputable def C_swk : Cfg := ⟨Try.prog, [E_new, E_nit, E_doo, E_tic, E_rat, E_awk], pmT [(24, ([(0, []), (1, []), (2, []), (3, []), (4, []), (5, []), (6, []), (7, []), (8, []), (9, []), (10, []), (11, []), (12, []), (13, []), (14, []), (15, []), (16, []), (17, []), (18, []), (19, []), (20, []), (21, []), (22, []), (23, []), (24, []), (25, []), (26, []), (27, []), (28, []), (29, []), (30, []), (31, []), (32, []), (33, []), (34, []), (35, []), (36, []), (37, []), (38, []), (39, []), (40, []), (41, []), (42, []), (43, []), (44, []), (45, []), (46, []), (47, []), (48, []), (49, []), (50, []), (51, [])], [(138, 189)]))], 192, [], [], [], []⟩
theorem es_swk : EsOk Try.prog [E_new, E_nit, E_doo, E_tic, E_rat, E_awk] [] [] := es_cons E_new_ok (es_cons E_nit_ok (es_cons E_doo_ok (es_cons E_tic_ok (es_cons E_rat_ok (es_cons E_awk_ok (es_nil))))))
def Lt_swk : Nat → LD := ldT [(0, ⟨[.rd 0 tSSp, .box 3 3 26 3 tSSd, .c 4 (.int .i64)], [], 0⟩), (2, ⟨[.rd 0 tSSp, .box 3 3 26 3 tSSd, .c 4 (.int .i64), .c 8 (.int .i64)], [], 0⟩), (4, ⟨[.rd 0 tSSp, .box 3 3 26 3 tSSd, .c 4 (.int .i64), .c 8 (.int .i64), .box 9 9 26 3 tSSd, .c 14 (.int .i64), .c 15 (.int .i64)], [], 0⟩)]
noncomputable def M_swk (f : Nat) (a : (List (SSp))) : Option (Bool) := (runX (C_swk) Lt_swk (Kret Try.prog [.tmp 2] [.v (.bool)]) f [.code (bodyOf Try.f8)] (initX [.rd tSSp] a) : Option (ResT [.v (.bool)]))
noncomputable def L_swk_0 (f : Nat) (x : (List (SSp)) × SSd × Int) : Option (Bool) := (runX (C_swk) Lt_swk (Kret Try.prog [.tmp 2] [.v (.bool)]) f (headOf Try.f8 0) ((Lt_swk 0).mk' x) : Option (ResT [.v (.bool)]))
noncomputable def L_swk_2 (f : Nat) (x : (List (SSp)) × SSd × Int × Int) : Option (Bool) := (runX (C_swk) Lt_swk (Kret Try.prog [.tmp 2] [.v (.bool)]) f (headOf Try.f8 2) ((Lt_swk 2).mk' x) : Option (ResT [.v (.bool)]))
noncomputable def L_swk_4 (f : Nat) (x : (List (SSp)) × SSd × Int × Int × SSd × Int × Int) : Option (Bool) := (runX (C_swk) Lt_swk (Kret Try.prog [.tmp 2] [.v (.bool)]) f (headOf Try.f8 4) ((Lt_swk 4).mk' x) : Option (ResT [.v (.bool)]))
theorem M_swk_eq (f : Nat) (steps : List (SSp)) : M_swk (f + 1) steps =
    L_swk_0 f (steps, (0, 0, []), 0) := by kernel_rfl
theorem L_swk_0_eq (f : Nat) (steps : List (SSp)) (s : SSd) (i : Int) : L_swk_0 (f + 1) (steps, s, i) =
    bif decide (i < (↑steps.length : Int)) then bif decide (i < 120) then bif decide (0 ≤ i) && decide (i < (↑steps.length : Int)) then bif nitS (steps.getD i.toNat (0, 0, 0, 0)) == 0 then bif okD s then bif (doS (s, steps.getD i.toNat (0, 0, 0, 0))).2 == 0 then L_swk_0 f (steps, (doS (s, steps.getD i.toNat (0, 0, 0, 0))).1, IntKind.i64.wrap (i + 1)) else L_swk_0 f (steps, s, IntKind.i64.wrap (i + 1)) else none else L_swk_2 f (steps, s, i, nitS (steps.getD i.toNat (0, 0, 0, 0))) else none else some true else some true := by kernel_rfl
theorem L_swk_2_eq (f : Nat) (steps : List (SSp)) (s : SSd) (i : Int) (n : Int) : L_swk_2 (f + 1) (steps, s, i, n) =
    bif decide (n > 0) then bif okD s then bif (tckS s).2.2.2.2 != 0 then some false else bif decide ((tckS s).2.1 < 0) != ((tckS s).2.2.1 == 0) then some false else bif okD s then bif decide ((tckS s).2.1 ≥ 0) then bif decide (atS (s, (tckS s).2.1) < 0) then some false else bif decide (0 ≤ atS (s, (tckS s).2.1)) && decide (atS (s, (tckS s).2.1) < (↑(List.length s.2.2) : Int)) then bif (List.getD s.2.2 (atS (s, (tckS s).2.1)).toNat (0, 0, 0, 0, false, false, false, 0, 0, 0, [])).2.2.2.2.1 then some false else bif decide (0 ≤ atS (s, (tckS s).2.1)) && decide (atS (s, (tckS s).2.1) < (↑(List.length s.2.2) : Int)) then bif (List.getD s.2.2 (atS (s, (tckS s).2.1)).toNat (0, 0, 0, 0, false, false, false, 0, 0, 0, [])).2.2.2.2.2.2.1 then some false else bif decide (0 ≤ atS (s, (tckS s).2.1)) && decide (atS (s, (tckS s).2.1) < (↑(List.length s.2.2) : Int)) then bif (List.getD s.2.2 (atS (s, (tckS s).2.1)).toNat (0, 0, 0, 0, false, false, false, 0, 0, 0, [])).2.1 == 0 then bif decide (0 ≤ atS (s, (tckS s).2.1)) && decide (atS (s, (tckS s).2.1) < (↑(List.length s.2.2) : Int)) then bif decide ((List.getD s.2.2 (atS (s, (tckS s).2.1)).toNat (0, 0, 0, 0, false, false, false, 0, 0, 0, [])).2.2.2.2.2.2.2.2.1 < 1) then some false else L_swk_4 f (steps, s, i, n, (tckS s).1, atS (s, (tckS s).2.1), 0) else none else L_swk_4 f (steps, s, i, n, (tckS s).1, atS (s, (tckS s).2.1), 0) else none else none else none else L_swk_4 f (steps, s, i, n, (tckS s).1, atS (s, (tckS s).2.1), 0) else none else none else L_swk_0 f (steps, s, IntKind.i64.wrap (i + 1)) := by kernel_rfl
theorem L_swk_4_eq (f : Nat) (steps : List (SSp)) (s : SSd) (i : Int) (n : Int) (t : SSd) (at0 : Int) (k : Int) : L_swk_4 (f + 1) (steps, s, i, n, t, at0, k) =
    bif decide (k < (↑(List.length s.2.2) : Int)) then bif decide (0 ≤ k) && decide (k < (↑(List.length s.2.2) : Int)) then bif (List.getD s.2.2 k.toNat (0, 0, 0, 0, false, false, false, 0, 0, 0, [])).2.2.2.2.1 then L_swk_4 f (steps, s, i, n, t, at0, IntKind.i64.wrap (k + 1)) else bif (List.getD s.2.2 k.toNat (0, 0, 0, 0, false, false, false, 0, 0, 0, [])).2.2.2.2.2.2.1 then L_swk_4 f (steps, s, i, n, t, at0, IntKind.i64.wrap (k + 1)) else bif (List.getD s.2.2 k.toNat (0, 0, 0, 0, false, false, false, 0, 0, 0, [])).2.1 == 0 then bif (List.getD s.2.2 k.toNat (0, 0, 0, 0, false, false, false, 0, 0, 0, [])).2.2.2.2.2.2.2.2.1 == 0 then L_swk_4 f (steps, s, i, n, t, at0, IntKind.i64.wrap (k + 1)) else bif decide (at0 < 0) then some false else bif (List.getD s.2.2 k.toNat (0, 0, 0, 0, false, false, false, 0, 0, 0, [])).2.1 == 0 then bif decide (0 ≤ at0) && decide (at0 < (↑(List.length s.2.2) : Int)) then bif (List.getD s.2.2 at0.toNat (0, 0, 0, 0, false, false, false, 0, 0, 0, [])).2.1 != 0 then some false else bif decide (0 ≤ at0) && decide (at0 < (↑(List.length s.2.2) : Int)) then bif decide ((List.getD s.2.2 k.toNat (0, 0, 0, 0, false, false, false, 0, 0, 0, [])).2.2.2.2.2.2.2.1 < (List.getD s.2.2 at0.toNat (0, 0, 0, 0, false, false, false, 0, 0, 0, [])).2.2.2.2.2.2.2.1) then some false else bif (List.getD s.2.2 k.toNat (0, 0, 0, 0, false, false, false, 0, 0, 0, [])).2.1 != 0 then bif decide (0 ≤ at0) && decide (at0 < (↑(List.length s.2.2) : Int)) then bif (List.getD s.2.2 at0.toNat (0, 0, 0, 0, false, false, false, 0, 0, 0, [])).2.1 != 0 then bif decide (0 ≤ at0) && decide (at0 < (↑(List.length s.2.2) : Int)) then bif decide ((List.getD s.2.2 k.toNat (0, 0, 0, 0, false, false, false, 0, 0, 0, [])).2.2.2.2.2.2.2.2.2.1 < (List.getD s.2.2 at0.toNat (0, 0, 0, 0, false, false, false, 0, 0, 0, [])).2.2.2.2.2.2.2.2.2.1) then some false else L_swk_4 f (steps, s, i, n, t, at0, IntKind.i64.wrap (k + 1)) else none else L_swk_4 f (steps, s, i, n, t, at0, IntKind.i64.wrap (k + 1)) else none else L_swk_4 f (steps, s, i, n, t, at0, IntKind.i64.wrap (k + 1)) else none else none else bif (List.getD s.2.2 k.toNat (0, 0, 0, 0, false, false, false, 0, 0, 0, [])).2.1 != 0 then bif decide (0 ≤ at0) && decide (at0 < (↑(List.length s.2.2) : Int)) then bif (List.getD s.2.2 at0.toNat (0, 0, 0, 0, false, false, false, 0, 0, 0, [])).2.1 != 0 then bif decide (0 ≤ at0) && decide (at0 < (↑(List.length s.2.2) : Int)) then bif decide ((List.getD s.2.2 k.toNat (0, 0, 0, 0, false, false, false, 0, 0, 0, [])).2.2.2.2.2.2.2.2.2.1 < (List.getD s.2.2 at0.toNat (0, 0, 0, 0, false, false, false, 0, 0, 0, [])).2.2.2.2.2.2.2.2.2.1) then some false else L_swk_4 f (steps, s, i, n, t, at0, IntKind.i64.wrap (k + 1)) else none else L_swk_4 f (steps, s, i, n, t, at0, IntKind.i64.wrap (k + 1)) else none else L_swk_4 f (steps, s, i, n, t, at0, IntKind.i64.wrap (k + 1)) else bif decide (at0 < 0) then some false else bif (List.getD s.2.2 k.toNat (0, 0, 0, 0, false, false, false, 0, 0, 0, [])).2.1 == 0 then bif decide (0 ≤ at0) && decide (at0 < (↑(List.length s.2.2) : Int)) then bif (List.getD s.2.2 at0.toNat (0, 0, 0, 0, false, false, false, 0, 0, 0, [])).2.1 != 0 then some false else bif decide (0 ≤ at0) && decide (at0 < (↑(List.length s.2.2) : Int)) then bif decide ((List.getD s.2.2 k.toNat (0, 0, 0, 0, false, false, false, 0, 0, 0, [])).2.2.2.2.2.2.2.1 < (List.getD s.2.2 at0.toNat (0, 0, 0, 0, false, false, false, 0, 0, 0, [])).2.2.2.2.2.2.2.1) then some false else bif (List.getD s.2.2 k.toNat (0, 0, 0, 0, false, false, false, 0, 0, 0, [])).2.1 != 0 then bif decide (0 ≤ at0) && decide (at0 < (↑(List.length s.2.2) : Int)) then bif (List.getD s.2.2 at0.toNat (0, 0, 0, 0, false, false, false, 0, 0, 0, [])).2.1 != 0 then bif decide (0 ≤ at0) && decide (at0 < (↑(List.length s.2.2) : Int)) then bif decide ((List.getD s.2.2 k.toNat (0, 0, 0, 0, false, false, false, 0, 0, 0, [])).2.2.2.2.2.2.2.2.2.1 < (List.getD s.2.2 at0.toNat (0, 0, 0, 0, false, false, false, 0, 0, 0, [])).2.2.2.2.2.2.2.2.2.1) then some false else L_swk_4 f (steps, s, i, n, t, at0, IntKind.i64.wrap (k + 1)) else none else L_swk_4 f (steps, s, i, n, t, at0, IntKind.i64.wrap (k + 1)) else none else L_swk_4 f (steps, s, i, n, t, at0, IntKind.i64.wrap (k + 1)) else none else none else bif (List.getD s.2.2 k.toNat (0, 0, 0, 0, false, false, false, 0, 0, 0, [])).2.1 != 0 then bif decide (0 ≤ at0) && decide (at0 < (↑(List.length s.2.2) : Int)) then bif (List.getD s.2.2 at0.toNat (0, 0, 0, 0, false, false, false, 0, 0, 0, [])).2.1 != 0 then bif decide (0 ≤ at0) && decide (at0 < (↑(List.length s.2.2) : Int)) then bif decide ((List.getD s.2.2 k.toNat (0, 0, 0, 0, false, false, false, 0, 0, 0, [])).2.2.2.2.2.2.2.2.2.1 < (List.getD s.2.2 at0.toNat (0, 0, 0, 0, false, false, false, 0, 0, 0, [])).2.2.2.2.2.2.2.2.2.1) then some false else L_swk_4 f (steps, s, i, n, t, at0, IntKind.i64.wrap (k + 1)) else none else L_swk_4 f (steps, s, i, n, t, at0, IntKind.i64.wrap (k + 1)) else none else L_swk_4 f (steps, s, i, n, t, at0, IntKind.i64.wrap (k + 1)) else none else L_swk_2 f (steps, t, i, IntKind.i64.wrap (n - 1)) := by kernel_rfl
def WkOk (l : List SDs) (at0 : Int) (e : SDs) : Prop := dBlk e = true ∨ dRem e = true ∨ (dW e = 0 ∧ dLft e = 0) ∨
  (0 ≤ at0 ∧ at0 < ((l.length : Nat) : Int) ∧ (dW e = 0 → dW (l.getD at0.toNat (0, 0, 0, 0, false, false, false, 0, 0, 0, [])) = 0 ∧ dDl (l.getD at0.toNat (0, 0, 0, 0, false, false, false, 0, 0, 0, [])) ≤ dDl e) ∧
    (dW e ≠ 0 → dW (l.getD at0.toNat (0, 0, 0, 0, false, false, false, 0, 0, 0, [])) ≠ 0 → dPas (l.getD at0.toNat (0, 0, 0, 0, false, false, false, 0, 0, 0, [])) ≤ dPas e))
theorem swk_4s (steps : List SSp) (s : SSd) (i n : Int) (t : SSd) (at0 : Int) (k : Nat) (hk : k < s.2.2.length) (h : WkOk s.2.2 at0 (s.2.2.getD k (0, 0, 0, 0, false, false, false, 0, 0, 0, []))) (f : Nat) :
    L_swk_4 (f + 1) (steps, s, i, n, t, at0, ((k : Nat) : Int)) = L_swk_4 f (steps, s, i, n, t, at0, IntKind.i64.wrap (((k : Nat) : Int) + 1)) := by
  rw [L_swk_4_eq]
  have hd1 : decide (((k : Nat) : Int) < ((s.2.2.length : Nat) : Int)) = true := decide_eq_true (by omega)
  have hd3 : decide ((0 : Int) ≤ ((k : Nat) : Int)) = true := decide_eq_true (by omega)
  unfold WkOk at h
  obtain ⟨e, he⟩ : ∃ e : SDs, s.2.2.getD k (0, 0, 0, 0, false, false, false, 0, 0, 0, []) = e := ⟨_, rfl⟩
  obtain ⟨d, hd⟩ : ∃ d : SDs, s.2.2.getD at0.toNat (0, 0, 0, 0, false, false, false, 0, 0, 0, []) = d := ⟨_, rfl⟩
  simp only [he, hd] at h
  simp only [hd1, hd3, Int.toNat_natCast, cond_true, Bool.and_self, beqD, bneD, he, hd]
  clear he hd
  obtain ⟨e1, e2, e3, e4, e5, e6, e7, e8, e9, e10, e11⟩ := e
  obtain ⟨d1, d2, d3, d4, d5, d6, d7, d8, d9, d10, d11⟩ := d
  simp only [dW, dBlk, dRem, dLft, dDl, dPas] at h ⊢
  generalize L_swk_4 f (steps, s, i, n, t, at0, IntKind.i64.wrap (((k : Nat) : Int) + 1)) = Z
  cases e5
  case true => rfl
  cases e7
  case true => rfl
  rcases h with h | h | ⟨h1, h2⟩ | ⟨h1, h2, h3, h4⟩
  · cases h
  · cases h
  · rw [decide_eq_true h1, decide_eq_true h2]; rfl
  · have a1 : decide (0 ≤ at0) = true := decide_eq_true h1
    have a2 : decide (at0 < ((s.2.2.length : Nat) : Int)) = true := decide_eq_true h2
    have a3 : decide (at0 < 0) = false := decide_eq_false (by omega)
    by_cases w : e2 = 0
    · obtain ⟨g1, g2⟩ := h3 w
      simp only [a1, a2, a3, decide_eq_true w, decide_eq_true g1, decide_eq_false (show ¬ e8 < d8 by omega), cond_true, cond_false, Bool.and_self, Bool.not_true, Bool.cond_self]
    · by_cases w2 : d2 = 0
      · simp only [a1, a2, a3, decide_eq_false w, decide_eq_true w2, cond_true, cond_false, Bool.and_self, Bool.not_true, Bool.not_false]
      · have g := h4 w w2
        simp only [a1, a2, a3, decide_eq_false w, decide_eq_false w2, decide_eq_false (show ¬ e10 < d10 by omega), cond_true, cond_false, Bool.and_self, Bool.not_true, Bool.not_false]
theorem swk_4 (steps : List SSp) (s : SSd) (i n : Int) (t : SSd) (at0 : Int) (hl : s.2.2.length ≤ 32) (h : ∀ e ∈ s.2.2, WkOk s.2.2 at0 e) (hk : ∃ f, L_swk_2 f (steps, t, i, IntKind.i64.wrap (n - 1)) = some true) :
    ∀ (r k : Nat), k + r = s.2.2.length → ∃ f, L_swk_4 f (steps, s, i, n, t, at0, ((k : Nat) : Int)) = some true
  | 0, k, hr => by
    obtain ⟨f, hf⟩ := hk
    refine ⟨f + 1, ?_⟩
    rw [L_swk_4_eq, decide_eq_false (show ¬ ((k : Nat) : Int) < ((s.2.2.length : Nat) : Int) by omega), cond_false]
    exact hf
  | r + 1, k, hr => by
    obtain ⟨f, hf⟩ := swk_4 steps s i n t at0 hl h hk r (k + 1) (by omega)
    refine ⟨f + 1, ?_⟩
    rw [swk_4s steps s i n t at0 k (by omega) (h _ (by rw [List.getD_eq_getElem?_getD, List.getElem?_eq_getElem (show k < s.2.2.length by omega)]; exact List.getElem_mem _)), i64_id (by omega) (by omega)]
    exact hf
theorem atL_split {id : Int} : ∀ {A : List SDs} {d : SDs} {B : List SDs} {k : Nat}, d.1 = id → (∀ e ∈ A, e.1 ≠ id) → atL id (A ++ d :: B) k = ((k + A.length : Nat) : Int)
  | [], d, B, k, h, _ => by
    show (bif d.1 == id then _ else _) = _
    rw [beqD, decide_eq_true h]; rfl
  | a :: A, d, B, k, h, hA => by
    show (bif a.1 == id then _ else atL id (A ++ d :: B) (k + 1)) = _
    rw [beqD, decide_eq_false (hA a (List.mem_cons_self ..)), cond_false, atL_split h (fun e he => hA e (List.mem_cons_of_mem _ he)), List.length_cons]
    congr 1; omega
theorem atL_none {id : Int} : ∀ {l : List SDs} {k : Nat}, (∀ e ∈ l, e.1 ≠ id) → atL id l k = -1
  | [], k, _ => rfl
  | a :: A, k, hA => by
    show (bif a.1 == id then _ else _) = _
    rw [beqD, decide_eq_false (hA a (List.mem_cons_self ..)), cond_false, atL_none (fun e he => hA e (List.mem_cons_of_mem _ he))]
theorem run_who {s : SSd} (V : Vs s.1 s.2.1 s.2.2) : ((runS s).2.2.1 = -1 ∧ (runS s).2.2.2.1 = 0 ∧ atS (s, (runS s).2.2.1) = -1 ∧ ∀ e ∈ s.2.2, WkOk s.2.2 (-1) e) ∨
    ∃ A d B, s.2.2 = A ++ d :: B ∧ (runS s).2.2.1 = d.1 ∧ 0 ≤ d.1 ∧ (runS s).2.2.2.1 ≠ 0 ∧ atS (s, (runS s).2.2.1) = ((A.length : Nat) : Int) ∧ dBlk d = false ∧ dRem d = false ∧ (dW d = 0 → 1 ≤ dLft d) ∧ ∀ e ∈ s.2.2, WkOk s.2.2 ((A.length : Nat) : Int) e := by
  have rest : ∀ e ∈ s.2.2, mayR e = false → dW e = 0 → dBlk e = true ∨ dRem e = true ∨ (dW e = 0 ∧ dLft e = 0) := fun e he hm hw => by
    have vd := V.all e he
    simp only [vdiS, corB, decide_eq_true hw, cond_true, rtB, Bool.and_eq_true, decide_eq_true_eq] at vd
    obtain ⟨_, _, _, _, _, _, _, _, _, h0, _⟩ := vd
    simp only [mayR, decide_eq_true hw, Bool.true_and] at hm
    cases hb : dBlk e
    · cases hr : dRem e
      · rw [hb, hr] at hm
        have := of_decide_eq_false (show decide (dLft e > 0) = false from hm)
        exact .inr (.inr ⟨hw, by omega⟩)
      · exact .inr (.inl rfl)
    · exact .inl rfl
  have ent : ∀ d : SDs, (entD (chgD d)).2.1 ≠ 0 := fun d => by
    unfold entD
    cases dDis (chgD d)
    · rw [cond_false]
      cases ups (chgD d) <;> simp
    · simp
  have hsp : ∀ {A d B}, s.2.2 = A ++ d :: B → atS (s, d.1) = ((A.length : Nat) : Int) := fun {A d B} e => by
    show atL d.1 s.2.2 0 = _
    rw [e, atL_split rfl, Nat.zero_add]
    intro x hx
    have h := V.srt
    rw [e] at h
    have := (List.pairwise_append.1 h).2.2 x hx d (List.mem_cons_self ..)
    omega
  unfold runS
  rcases ch_best s.2.2 with ⟨e0, e1, e2⟩ | ⟨A, d, B, e1, e2, e3, e4⟩ | ⟨A, d, B, e1, e2, e3, e4, e5⟩
  · rw [decide_eq_true e0, cond_true]
    refine .inl ⟨rfl, rfl, atL_none fun e he => by have := (vdi_id (V.all e he)).1; show e.1 ≠ -1; omega, fun e he => ?_⟩
    obtain ⟨h1, h2⟩ := e2 e he
    by_cases hw : dW e = 0
    · rcases rest e he h1 hw with h | h | h
      · exact .inl h
      · exact .inr (.inl h)
      · exact .inr (.inr (.inl h))
    · simp only [mayB, decide_eq_false hw, Bool.not_false, Bool.true_and] at h2
      exact .inl (by simpa using h2)
  · have g1 : s.2.2.getD A.length zDs = d := by rw [e1]; simp
    have g2 : s.2.2.getD A.length (0, 0, 0, 0, false, false, false, 0, 0, 0, []) = d := g1
    rw [e2, Int.toNat_natCast, g1, decide_eq_false (show ¬ ((A.length : Nat) : Int) < 0 by omega), cond_false]
    simp only [mayR, Bool.and_eq_true, Bool.not_eq_true', decide_eq_true_eq] at e3
    obtain ⟨m1, m2, m3, m4⟩ := e3
    refine .inr ⟨A, d, B, e1, rfl, (vdi_id (V.all d (by rw [e1]; simp))).1, ent d, hsp e1, m3, m2, fun _ => by omega, fun e he => ?_⟩
    cases hm : mayR e
    · by_cases hw : dW e = 0
      · rcases rest e he hm hw with h | h | h
        · exact .inl h
        · exact .inr (.inl h)
        · exact .inr (.inr (.inl h))
      · refine .inr (.inr (.inr ⟨by omega, by rw [e1]; simp; omega, fun h => absurd h hw, fun _ h => ?_⟩))
        rw [Int.toNat_natCast, g2] at h; exact absurd m1 h
    · have hm2 := hm
      simp only [mayR, Bool.and_eq_true, Bool.not_eq_true', decide_eq_true_eq] at hm2
      refine .inr (.inr (.inr ⟨by omega, by rw [e1]; simp; omega, fun _ => ?_, fun h => absurd hm2.1 h⟩))
      rw [Int.toNat_natCast, g2]
      exact ⟨m1, e4 e he hm⟩
  · have g1 : s.2.2.getD A.length zDs = d := by rw [e1]; simp
    have g2 : s.2.2.getD A.length (0, 0, 0, 0, false, false, false, 0, 0, 0, []) = d := g1
    rw [e2, Int.toNat_natCast, g1, decide_eq_false (show ¬ ((A.length : Nat) : Int) < 0 by omega), cond_false]
    simp only [mayB, Bool.and_eq_true, Bool.not_eq_true', decide_eq_false_iff_not] at e3
    obtain ⟨m1, m2⟩ := e3
    have hd := V.all d (by rw [e1]; simp)
    have hrem : dRem d = false := by
      simp only [vdiS, corB, decide_eq_false m1, cond_false, beB, Bool.and_eq_true, Bool.or_eq_true, decide_eq_true_eq, Bool.not_eq_true'] at hd
      exact hd.2.2.2.2.2.2.2.2.2.2.2.2
    refine .inr ⟨A, d, B, e1, rfl, (vdi_id hd).1, ent d, hsp e1, m2, hrem, fun h => absurd h m1, fun e he => ?_⟩
    by_cases hw : dW e = 0
    · rcases rest e he (e4 e he) hw with h | h | h
      · exact .inl h
      · exact .inr (.inl h)
      · exact .inr (.inr (.inl h))
    · cases hb : dBlk e
      · have hm : mayB e = true := by simp only [mayB, decide_eq_false hw, hb]; rfl
        refine .inr (.inr (.inr ⟨by omega, by rw [e1]; simp; omega, fun h => absurd h hw, fun _ _ => ?_⟩))
        rw [Int.toNat_natCast, g2]
        exact e5 e he hm
      · exact .inl hb
theorem swk_2 (steps : List SSp) (i : Int) : ∀ (m : Nat) (s : SSd) (t : Nat), Sc s t → t + m ≤ 4800 → (∀ s', Sc s' (t + m) → ∃ f, L_swk_0 f (steps, s', IntKind.i64.wrap (i + 1)) = some true) → ∃ f, L_swk_2 f (steps, s, i, ((m : Nat) : Int)) = some true
  | 0, s, t, h, ht, hk => by
    obtain ⟨f, hf⟩ := hk s h
    refine ⟨f + 1, ?_⟩
    rw [L_swk_2_eq, decide_eq_false (show ¬ ((0 : Nat) : Int) > 0 by omega), cond_false]
    exact hf
  | m + 1, s, t, h, ht, hk => by
    obtain ⟨k1, k2, k3, k4, k5⟩ := h.tick (by omega)
    have V := (valS_iff s).1 h.val
    have hnext := swk_2 steps i m (tckS s).1 (t + 1) k2 (by omega) (fun s' hs' => hk s' (by rw [show t + (m + 1) = t + 1 + m by omega]; exact hs'))
    have e2 : IntKind.i64.wrap (((m + 1 : Nat) : Int) - 1) = ((m : Nat) : Int) := by rw [i64_id (by omega) (by omega)]; omega
    have a1 : (tckS s).2.1 = (runS s).2.2.1 := by rw [k5]
    have a2 : (tckS s).2.2.1 = (runS s).2.2.2.1 := by rw [k5]
    have step : ∀ f, L_swk_2 (f + 1) (steps, s, i, ((m + 1 : Nat) : Int)) = _ := fun f => L_swk_2_eq f steps s i _
    simp only [decide_eq_true (show ((m + 1 : Nat) : Int) > 0 by omega), h.ok, k1, a1, a2, beqD, bneD, cond_true, decide_true, Bool.not_true, cond_false] at step
    rcases run_who V with ⟨w1, w2, w3, w4⟩ | ⟨A, d, B, w0, w1, w2, w3, w4, w5, w6, w7, w8⟩
    · rw [w1] at w3
      obtain ⟨f, hf⟩ := swk_4 steps s i ((m + 1 : Nat) : Int) (tckS s).1 (-1) V.len w4 (by rw [e2]; exact hnext) s.2.2.length 0 (by omega)
      refine ⟨f + 1, (step f).trans ?_⟩
      rw [w1, w2, w3]
      exact hf
    · obtain ⟨f, hf⟩ := swk_4 steps s i ((m + 1 : Nat) : Int) (tckS s).1 ((A.length : Nat) : Int) V.len w8 (by rw [e2]; exact hnext) s.2.2.length 0 (by omega)
      refine ⟨f + 1, (step f).trans ?_⟩
      have g2 : s.2.2.getD A.length (0, 0, 0, 0, false, false, false, 0, 0, 0, []) = d := by rw [w0]; simp
      have hlt : decide (((A.length : Nat) : Int) < ((s.2.2.length : Nat) : Int)) = true := decide_eq_true (by rw [w0]; simp; omega)
      have h5 : d.2.2.2.2.1 = false := w5
      have h6 : d.2.2.2.2.2.2.1 = false := w6
      have h7 : d.2.1 = 0 → 1 ≤ d.2.2.2.2.2.2.2.2.1 := w7
      have w4' : atS (s, d.1) = ((A.length : Nat) : Int) := by rw [← w1]; exact w4
      simp only [w4', decide_eq_false w3, w1, decide_true, Bool.not_true, Int.toNat_natCast, g2, hlt, h5, h6, decide_eq_false (show ¬ d.1 < 0 by omega), decide_eq_true (show d.1 ≥ 0 by omega), decide_eq_false (show ¬ ((A.length : Nat) : Int) < 0 by omega), decide_eq_true (show (0 : Int) ≤ ((A.length : Nat) : Int) by omega), cond_true, cond_false, Bool.and_self]
      by_cases hw : d.2.1 = 0
      · have := h7 hw
        simp only [decide_eq_true hw, decide_eq_false (show ¬ d.2.2.2.2.2.2.2.2.1 < 1 by omega), cond_true, cond_false]
        exact hf
      · simp only [decide_eq_false hw, cond_false]
        exact hf
theorem swk_0 (steps : List SSp) : ∀ (r i : Nat) (s : SSd), i + r = 120 → Sc s (40 * i) → ∃ f, L_swk_0 f (steps, s, ((i : Nat) : Int)) = some true
  | 0, i, s, hi, h => by
    refine ⟨1, ?_⟩
    rw [L_swk_0_eq, decide_eq_false (show ¬ ((i : Nat) : Int) < 120 by omega)]
    simp
  | r + 1, i, s, hi, h => by
    by_cases hl : i < steps.length
    · have e2 : IntKind.i64.wrap (((i : Nat) : Int) + 1) = ((i + 1 : Nat) : Int) := by rw [i64_id (by omega) (by omega)]; omega
      have hd1 : decide (((i : Nat) : Int) < ((steps.length : Nat) : Int)) = true := decide_eq_true (by omega)
      have hd2 : decide (((i : Nat) : Int) < 120) = true := decide_eq_true (by omega)
      have hd3 : decide ((0 : Int) ≤ ((i : Nat) : Int)) = true := decide_eq_true (by omega)
      have hnext : ∀ s', Sc s' (40 * i + 40) → ∃ f, L_swk_0 f (steps, s', ((i + 1 : Nat) : Int)) = some true := fun s' h' => swk_0 steps r (i + 1) s' (by omega) (by rw [show 40 * (i + 1) = 40 * i + 40 by omega]; exact h')
      obtain ⟨x, hx⟩ : ∃ x, steps.getD i (0, 0, 0, 0) = x := ⟨_, rfl⟩
      have step : ∀ f, L_swk_0 (f + 1) (steps, s, ((i : Nat) : Int)) = _ := fun f => L_swk_0_eq f steps s _
      simp only [hd1, hd2, hd3, Int.toNat_natCast, hx, e2, cond_true, Bool.and_self, h.ok, beqD, bneD] at step
      by_cases hn : nitS x = 0
      · simp only [decide_eq_true hn, cond_true] at step
        by_cases h0 : (doS (s, x)).2 = 0
        · obtain ⟨f, hf⟩ := hnext _ ((h.doo hn h0).mono (by omega))
          refine ⟨f + 1, (step f).trans ?_⟩
          simp only [decide_eq_true h0, cond_true]
          exact hf
        · obtain ⟨f, hf⟩ := hnext s (h.mono (by omega))
          refine ⟨f + 1, (step f).trans ?_⟩
          simp only [decide_eq_false h0, cond_false]
          exact hf
      · simp only [decide_eq_false hn, cond_false] at step
        obtain ⟨n1, n2⟩ := nit_rng x
        obtain ⟨m, hm⟩ : ∃ m : Nat, nitS x = ((m : Nat) : Int) := ⟨(nitS x).toNat, by omega⟩
        obtain ⟨f, hf⟩ := swk_2 steps ((i : Nat) : Int) m s (40 * i) h (by omega) (fun s' hs' => by rw [e2]; exact hnext s' (hs'.mono (by omega)))
        refine ⟨f + 1, (step f).trans ?_⟩
        rw [hm]; exact hf
    · refine ⟨1, ?_⟩
      rw [L_swk_0_eq, decide_eq_false (show ¬ ((i : Nat) : Int) < ((steps.length : Nat) : Int) by omega)]
      rfl
theorem swk_true : ∀ a : List SSp, ∃ f, M_swk f a = some true := fun steps => by
  obtain ⟨f, hf⟩ := swk_0 steps 120 0 (0, 0, []) rfl Sc.zero
  exact ⟨f + 1, by rw [M_swk_eq]; exact hf⟩
end Go.AL
