/-
  Layer 30 (sched): SchedValid. By an AI agent.
-/
import Derived.Test.YtmdmmikpmhopkaaKz
namespace Go.AL
open Go.Proofs
set_option linter.unusedVariables false
set_option linter.unusedSimpArgs false
set_option maxHeartbeats 4000000
noncomputable def C_svd : Cfg := ⟨Try.prog, [E_new, E_nit, E_doo, E_sam, E_rva, E_tic, E_val, E_awk], pmT [], 114, [], [], [], []⟩
theorem es_svd : EsOk Try.prog [E_new, E_nit, E_doo, E_sam, E_rva, E_tic, E_val, E_awk] [] [] := es_cons E_new_ok (es_cons E_nit_ok (es_cons E_doo_ok (es_cons E_sam_ok (es_cons E_rva_ok (es_cons E_tic_ok (es_cons E_val_ok (es_cons E_awk_ok (es_nil))))))))
def Lt_svd : Nat → LD := ldT [(0, ⟨[.rd 0 tSSp, .box 3 3 26 3 tSSd, .c 4 (.int .i64)], [], 0⟩), (2, ⟨[.rd 0 tSSp, .box 3 3 26 3 tSSd, .c 4 (.int .i64), .c 8 (.int .i64)], [], 0⟩)]
noncomputable def M_svd (f : Nat) (a : (List (SSp))) : Option (Bool) := (runX (C_svd) Lt_svd (Kret Try.prog [.tmp 2] [.v (.bool)]) f [.code (bodyOf Try.f7)] (initX [.rd tSSp] a) : Option (ResT [.v (.bool)]))
noncomputable def L_svd_0 (f : Nat) (x : (List (SSp)) × SSd × Int) : Option (Bool) := (runX (C_svd) Lt_svd (Kret Try.prog [.tmp 2] [.v (.bool)]) f (headOf Try.f7 0) ((Lt_svd 0).mk' x) : Option (ResT [.v (.bool)]))
noncomputable def L_svd_2 (f : Nat) (x : (List (SSp)) × SSd × Int × Int) : Option (Bool) := (runX (C_svd) Lt_svd (Kret Try.prog [.tmp 2] [.v (.bool)]) f (headOf Try.f7 2) ((Lt_svd 2).mk' x) : Option (ResT [.v (.bool)]))
theorem M_svd_eq (f : Nat) (steps : List (SSp)) : M_svd (f + 1) steps =
    L_svd_0 f (steps, (0, 0, []), 0) := by kernel_rfl
theorem L_svd_0_eq (f : Nat) (steps : List (SSp)) (s : SSd) (i : Int) : L_svd_0 (f + 1) (steps, s, i) =
    bif decide (i < (↑steps.length : Int)) then bif decide (i < 120) then bif decide (0 ≤ i) && decide (i < (↑steps.length : Int)) then bif nitS (steps.getD i.toNat (0, 0, 0, 0)) == 0 then bif okD s then bif (doS (s, steps.getD i.toNat (0, 0, 0, 0))).2 != 0 then bif okD (doS (s, steps.getD i.toNat (0, 0, 0, 0))).1 then bif !decide ((doS (s, steps.getD i.toNat (0, 0, 0, 0))).1 = (0, 0, [])) then some false else bif (doS (s, steps.getD i.toNat (0, 0, 0, 0))).2 == 0 then bif !valS (doS (s, steps.getD i.toNat (0, 0, 0, 0))).1 then some false else bif (doS (s, steps.getD i.toNat (0, 0, 0, 0))).1.1 != s.1 then some false else bif (doS (s, steps.getD i.toNat (0, 0, 0, 0))).1.2.1 != s.2.1 then some false else bif (doS (s, steps.getD i.toNat (0, 0, 0, 0))).2 == 0 then L_svd_0 f (steps, (doS (s, steps.getD i.toNat (0, 0, 0, 0))).1, IntKind.i64.wrap (i + 1)) else L_svd_0 f (steps, s, IntKind.i64.wrap (i + 1)) else bif (doS (s, steps.getD i.toNat (0, 0, 0, 0))).2 == 0 then L_svd_0 f (steps, (doS (s, steps.getD i.toNat (0, 0, 0, 0))).1, IntKind.i64.wrap (i + 1)) else L_svd_0 f (steps, s, IntKind.i64.wrap (i + 1)) else none else bif (doS (s, steps.getD i.toNat (0, 0, 0, 0))).2 == 0 then bif !valS (doS (s, steps.getD i.toNat (0, 0, 0, 0))).1 then some false else bif (doS (s, steps.getD i.toNat (0, 0, 0, 0))).1.1 != s.1 then some false else bif (doS (s, steps.getD i.toNat (0, 0, 0, 0))).1.2.1 != s.2.1 then some false else bif (doS (s, steps.getD i.toNat (0, 0, 0, 0))).2 == 0 then L_svd_0 f (steps, (doS (s, steps.getD i.toNat (0, 0, 0, 0))).1, IntKind.i64.wrap (i + 1)) else L_svd_0 f (steps, s, IntKind.i64.wrap (i + 1)) else bif (doS (s, steps.getD i.toNat (0, 0, 0, 0))).2 == 0 then L_svd_0 f (steps, (doS (s, steps.getD i.toNat (0, 0, 0, 0))).1, IntKind.i64.wrap (i + 1)) else L_svd_0 f (steps, s, IntKind.i64.wrap (i + 1)) else none else L_svd_2 f (steps, s, i, nitS (steps.getD i.toNat (0, 0, 0, 0))) else none else bif valS s then some true else some false else bif valS s then some true else some false := by kernel_rfl
theorem L_svd_2_eq (f : Nat) (steps : List (SSp)) (s : SSd) (i : Int) (n : Int) : L_svd_2 (f + 1) (steps, s, i, n) =
    bif decide (n > 0) then bif okD s then bif (tckS s).2.2.2.2 != 0 then some false else bif !valS (tckS s).1 then some false else bif (tckS s).1.1 != IntKind.i64.wrap (s.1 + 1) then some false else bif decide ((tckS s).1.2.1 < s.2.1) then some false else L_svd_2 f (steps, (tckS s).1, i, IntKind.i64.wrap (n - 1)) else none else L_svd_0 f (steps, s, IntKind.i64.wrap (i + 1)) := by kernel_rfl
theorem svd_2 (steps : List SSp) (i : Int) : ∀ (m : Nat) (s : SSd) (t : Nat), Sc s t → t + m ≤ 4800 → (∀ s', Sc s' (t + m) → ∃ f, L_svd_0 f (steps, s', IntKind.i64.wrap (i + 1)) = some true) → ∃ f, L_svd_2 f (steps, s, i, ((m : Nat) : Int)) = some true
  | 0, s, t, h, ht, hk => by
    obtain ⟨f, hf⟩ := hk s h
    refine ⟨f + 1, ?_⟩
    rw [L_svd_2_eq, decide_eq_false (show ¬ ((0 : Nat) : Int) > 0 by omega), cond_false]
    exact hf
  | m + 1, s, t, h, ht, hk => by
    obtain ⟨k1, k2, k3, k4, _⟩ := h.tick (by omega)
    obtain ⟨f, hf⟩ := svd_2 steps i m (tckS s).1 (t + 1) k2 (by omega) (fun s' hs' => hk s' (by rw [show t + (m + 1) = t + 1 + m by omega]; exact hs'))
    refine ⟨f + 1, ?_⟩
    have hn := h.now
    have hr := ((valS_iff s).1 h.val).rng
    simp only [rngB, Bool.and_eq_true, decide_eq_true_eq] at hr
    have e1 : IntKind.i64.wrap (s.1 + 1) = s.1 + 1 := i64_id (by omega) (by omega)
    have e2 : IntKind.i64.wrap (((m + 1 : Nat) : Int) - 1) = ((m : Nat) : Int) := by rw [i64_id (by omega) (by omega)]; omega
    rw [L_svd_2_eq, decide_eq_true (show ((m + 1 : Nat) : Int) > 0 by omega), h.ok, k1, k2.val, k3, e1, e2, decide_eq_false (show ¬ (tckS s).1.2.1 < s.2.1 by omega)]
    simpa using hf
theorem svd_0 (steps : List SSp) : ∀ (r i : Nat) (s : SSd), i + r = 120 → Sc s (40 * i) → ∃ f, L_svd_0 f (steps, s, ((i : Nat) : Int)) = some true
  | 0, i, s, hi, h => by
    refine ⟨1, ?_⟩
    rw [L_svd_0_eq, decide_eq_false (show ¬ ((i : Nat) : Int) < 120 by omega), h.val]
    simp
  | r + 1, i, s, hi, h => by
    by_cases hl : i < steps.length
    · have e2 : IntKind.i64.wrap (((i : Nat) : Int) + 1) = ((i + 1 : Nat) : Int) := by rw [i64_id (by omega) (by omega)]; omega
      have hd1 : decide (((i : Nat) : Int) < ((steps.length : Nat) : Int)) = true := decide_eq_true (by omega)
      have hd2 : decide (((i : Nat) : Int) < 120) = true := decide_eq_true (by omega)
      have hd3 : decide ((0 : Int) ≤ ((i : Nat) : Int)) = true := decide_eq_true (by omega)
      have hnext : ∀ s', Sc s' (40 * i + 40) → ∃ f, L_svd_0 f (steps, s', ((i + 1 : Nat) : Int)) = some true := fun s' h' => svd_0 steps r (i + 1) s' (by omega) (by rw [show 40 * (i + 1) = 40 * i + 40 by omega]; exact h')
      obtain ⟨x, hx⟩ : ∃ x, steps.getD i (0, 0, 0, 0) = x := ⟨_, rfl⟩
      have step : ∀ f, L_svd_0 (f + 1) (steps, s, ((i : Nat) : Int)) = _ := fun f => L_svd_0_eq f steps s _
      simp only [hd1, hd2, hd3, Int.toNat_natCast, hx, e2, cond_true, Bool.and_self, h.ok, beqD, bneD] at step
      by_cases hn : nitS x = 0
      · simp only [decide_eq_true hn, cond_true] at step
        by_cases h0 : (doS (s, x)).2 = 0
        · obtain ⟨v1, v2, v3⟩ := do_val hn h0
          obtain ⟨f, hf⟩ := hnext _ ((h.doo hn h0).mono (by omega))
          refine ⟨f + 1, (step f).trans ?_⟩
          simp only [decide_eq_true h0, v1, v2, v3, decide_true, Bool.not_true, cond_true, cond_false]
          exact hf
        · have hz := do_err hn h0
          obtain ⟨f, hf⟩ := hnext s (h.mono (by omega))
          refine ⟨f + 1, (step f).trans ?_⟩
          have hz2 : (doS (s, x)).1 = (0, 0, []) := hz
          have hok : okD ((0, 0, []) : SSd) = true := by decide +kernel
          simp only [decide_eq_false h0, hz2, hok, decide_true, Bool.not_true, Bool.not_false, cond_true, cond_false]
          exact hf
      · simp only [decide_eq_false hn, cond_false] at step
        obtain ⟨n1, n2⟩ := nit_rng x
        obtain ⟨m, hm⟩ : ∃ m : Nat, nitS x = ((m : Nat) : Int) := ⟨(nitS x).toNat, by omega⟩
        obtain ⟨f, hf⟩ := svd_2 steps ((i : Nat) : Int) m s (40 * i) h (by omega) (fun s' hs' => by rw [e2]; exact hnext s' (hs'.mono (by omega)))
        refine ⟨f + 1, (step f).trans ?_⟩
        rw [hm]; exact hf
    · refine ⟨1, ?_⟩
      rw [L_svd_0_eq, decide_eq_false (show ¬ ((i : Nat) : Int) < ((steps.length : Nat) : Int) by omega), h.val]
      rfl
theorem svd_true : ∀ a : List SSp, ∃ f, M_svd f a = some true := fun steps => by
  obtain ⟨f, hf⟩ := svd_0 steps 120 0 (0, 0, []) rfl Sc.zero
  exact ⟨f + 1, by rw [M_svd_eq]; exact hf⟩
end Go.AL
