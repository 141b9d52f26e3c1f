/-
  Layer 30 (sched): scripts: what every step keeps. No program in sight. By an AI agent.
-/
import Derived.Test.YtmdmmikpmhopkaaKx
import Derived.Test.YtmdmmikpmhopkaaK21
namespace Go.AL
open Go.Proofs
set_option linter.unusedVariables false
set_option linter.unusedSimpArgs false
theorem run_vir2 {s : SSd} (V : Vs s.1 s.2.1 s.2.2) : (runS s).2.1 ≤ s.2.1 + 2520 := by
  unfold runS
  rcases ch_best s.2.2 with ⟨e0, e1, e2⟩ | ⟨A, d, B, e1, e2, e3, e4⟩ | ⟨A, d, B, e1, e2, e3, e4, e5⟩
  · rw [decide_eq_true e0, cond_true]
    show s.2.1 ≤ _; omega
  all_goals
    have g1 : s.2.2.getD A.length zDs = d := by rw [e1]; simp
    rw [e2, Int.toNat_natCast, g1, decide_eq_false (show ¬ ((A.length : Nat) : Int) < 0 by omega), cond_false]
    have hd := V.all d (by rw [e1]; simp)
    cases hw : decide (dW d = 0)
    · show dPas d ≤ _
      simp only [vdiS, corB, hw, cond_false, beB, Bool.and_eq_true, Bool.or_eq_true, decide_eq_true_eq] at hd
      exact hd.2.2.2.2.2.2.1
    · show s.2.1 ≤ _; omega
theorem kind7 {x : SSp} (hn : nitS x = 0) : plc (x.1, 10) = 0 ∨ plc (x.1, 10) = 1 ∨ plc (x.1, 10) = 2 ∨ plc (x.1, 10) = 3 ∨ plc (x.1, 10) = 4 ∨ plc (x.1, 10) = 5 ∨ plc (x.1, 10) = 6 := by
  obtain ⟨h1, h2⟩ := plc_rng x.1 (n := 10) (by omega)
  obtain ⟨h3, h4⟩ := plc_rng x.2.2.1 (n := 40) (by omega)
  unfold nitS at hn
  by_cases h : plc (x.1, 10) < 7
  · omega
  · rw [decide_eq_false h, cond_false] at hn; omega
theorem nit_rng (x : SSp) : 0 ≤ nitS x ∧ nitS x ≤ 40 := by
  obtain ⟨h3, h4⟩ := plc_rng x.2.2.1 (n := 40) (by omega)
  unfold nitS
  cases decide (plc (x.1, 10) < 7)
  · show 0 ≤ 1 + plc (x.2.2.1, 40) ∧ 1 + plc (x.2.2.1, 40) ≤ 40; omega
  · show (0 : Int) ≤ 0 ∧ (0 : Int) ≤ 40; omega
theorem doS_0 {s : SSd} {x : SSp} (h : plc (x.1, 10) = 0) : doS (s, x) = addS (s, plc (x.2.1, 8), 1 + plc (x.2.2.1, 10), 0, 0) := by simp only [doS, h]; rfl
theorem doS_1 {s : SSd} {x : SSp} (h : plc (x.1, 10) = 1) : doS (s, x) = addS (s, plc (x.2.1, 8), 0, shB x.2.2.1, 1 + plc (x.2.2.2, shB x.2.2.1)) := by simp only [doS, h]; rfl
theorem doS_2 {s : SSd} {x : SSp} (h : plc (x.1, 10) = 2) : doS (s, x) = chgS s (plc (x.2.1, 8)) remF := by simp only [doS, h]; rfl
theorem doS_3 {s : SSd} {x : SSp} (h : plc (x.1, 10) = 3) : doS (s, x) = chgS s (plc (x.2.1, 8)) blkF := by simp only [doS, h]; rfl
theorem doS_4 {s : SSd} {x : SSp} (h : plc (x.1, 10) = 4) : doS (s, x) = chgS s (plc (x.2.1, 8)) (wakF s) := by simp only [doS, h]; rfl
theorem doS_5 {s : SSd} {x : SSp} (h : plc (x.1, 10) = 5) : doS (s, x) = chgS s (plc (x.2.1, 8)) (pstF (1 + plc (x.2.2.1, 100))) := by simp only [doS, h]; rfl
theorem doS_6 {s : SSd} {x : SSp} (h : plc (x.1, 10) = 6) : doS (s, x) = chgS s (plc (x.2.1, 8)) enaF := by simp only [doS, h]; rfl
theorem do_val {s : SSd} {x : SSp} (hn : nitS x = 0) (h : (doS (s, x)).2 = 0) : valS (doS (s, x)).1 = true ∧ (doS (s, x)).1.1 = s.1 ∧ (doS (s, x)).1.2.1 = s.2.1 := by
  rcases kind7 hn with k | k | k | k | k | k | k
  · rw [doS_0 k] at h ⊢; exact add_val _ h
  · rw [doS_1 k] at h ⊢; exact add_val _ h
  · rw [doS_2 k] at h ⊢; exact chg_val (fun d _ _ hv _ => rem_ok hv) h
  · rw [doS_3 k] at h ⊢; exact chg_val (fun d _ _ hv _ => blk_ok hv) h
  · rw [doS_4 k] at h ⊢; exact chg_val (fun d _ _ hv _ => wak_ok hv) h
  · rw [doS_5 k] at h ⊢; exact chg_val (fun d _ hr hv hz => pst_ok hv hr hz) h
  · rw [doS_6 k] at h ⊢; exact chg_val (fun d _ hr hv _ => ena_ok hv hr) h
structure Sc (s : SSd) (t : Nat) : Prop where
  val : valS s = true
  now : s.1 ≤ (t : Int)
  vir : s.2.1 ≤ 2520 * (t : Int)
theorem Sc.ok {s : SSd} {t : Nat} (h : Sc s t) : okD s = true := val_ok h.val
theorem Sc.doo {s : SSd} {t : Nat} (h : Sc s t) {x : SSp} (hn : nitS x = 0) (h0 : (doS (s, x)).2 = 0) : Sc (doS (s, x)).1 t := by
  obtain ⟨h1, h2, h3⟩ := do_val hn h0
  exact ⟨h1, by rw [h2]; exact h.now, by rw [h3]; exact h.vir⟩
theorem Sc.tick {s : SSd} {t : Nat} (h : Sc s t) (ht : t < 4800) : (tckS s).2.2.2.2 = 0 ∧ Sc (tckS s).1 (t + 1) ∧ (tckS s).1.1 = s.1 + 1 ∧ s.2.1 ≤ (tckS s).1.2.1 ∧
    tckS s = ((s.1 + 1, (runS s).2.1, tckL (s.1 + 1) (runS s).1), (runS s).2.2.1, (runS s).2.2.2.1, (runS s).2.2.2.2, 0) := by
  have h1 := h.now
  have h2 := h.vir
  have V := (valS_iff s).1 h.val
  obtain ⟨k1, k2, k3, k4⟩ := tck_val h.val (by omega) (by omega)
  have e : tckS s = ((s.1 + 1, (runS s).2.1, tckL (s.1 + 1) (runS s).1), (runS s).2.2.1, (runS s).2.2.2.1, (runS s).2.2.2.2, 0) := by
    unfold tckS
    rw [h.val, decide_eq_false (show ¬ s.1 = 1099511627776 by omega), decide_eq_false (show ¬ s.2.1 > 1125899906842624 - 2520 by omega)]; rfl
  refine ⟨k1, ⟨k2, by rw [k3]; omega, ?_⟩, k3, k4, e⟩
  have hv := run_vir2 V
  rw [e]
  show (runS s).2.1 ≤ _
  omega
theorem Sc.mono {s : SSd} {t u : Nat} (h : Sc s t) (hu : t ≤ u) : Sc s u := ⟨h.val, by have := h.now; omega, by have := h.vir; omega⟩
theorem Sc.zero : Sc (0, 0, []) 0 := ⟨by decide +kernel, by simp, by simp⟩
end Go.AL
