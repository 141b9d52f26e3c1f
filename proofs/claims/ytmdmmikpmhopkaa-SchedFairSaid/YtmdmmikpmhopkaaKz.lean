/-
  Layer 30 (sched): scripts: what every step keeps. No program in sight. By an AI agent.
-/
import Derived.Test.YtmdmmikpmhopkaaKx
import Derived.Test.YtmdmmikpmhopkaaK21
namespace Go.AL
open Go.Proofs
set_option linter.unusedVariables false
set_option linter.unusedSimpArgs false
theorem run_vir2 {s : SSd} (V : Vs s.1 s.2.1 s.2.2) : (runS s).2.1 ≤ s.2.1 + 2520 := by
  unfold runS
  rcases ch_best s.2.2 with ⟨e0, e1, e2⟩ | ⟨A, d, B, e1, e2, e3, e4⟩ | ⟨A, d, B, e1, e2, e3, e4, e5⟩
  · rw [decide_eq_true e0, cond_true]
    show s.2.1 ≤ _; omega
  all_goals
    have g1 : s.2.2.getD A.length zDs = d := by rw [e1]; simp
    rw [e2, Int.toNat_natCast, g1, decide_eq_false (show ¬ ((A.length : Nat) : Int) < 0 by omega), cond_false]
    have hd := V.all d (by rw [e1]; simp)
    cases hw : decide (dW d = 0)
    · show dPas d ≤ _
      simp only [vdiS, corB, hw, cond_false, beB, Bool.and_eq_true, Bool.or_eq_true, decide_eq_true_eq] at hd
      exact hd.2.2.2.2.2.2.1
    · show s.2.1 ≤ _; omega
structure Sc (s : SSd) (t : Nat) : Prop where
  val : valS s = true
  now : s.1 ≤ (t : Int)
  vir : s.2.1 ≤ 2520 * (t : Int)
theorem Sc.ok {s : SSd} {t : Nat} (h : Sc s t) : okD s = true := val_ok h.val
theorem Sc.tick {s : SSd} {t : Nat} (h : Sc s t) (ht : t < 4800) : (tckS s).2.2.2.2 = 0 ∧ Sc (tckS s).1 (t + 1) ∧ (tckS s).1.1 = s.1 + 1 ∧ s.2.1 ≤ (tckS s).1.2.1 ∧
    tckS s = ((s.1 + 1, (runS s).2.1, tckL (s.1 + 1) (runS s).1), (runS s).2.2.1, (runS s).2.2.2.1, (runS s).2.2.2.2, 0) := by
  have h1 := h.now
  have h2 := h.vir
  have V := (valS_iff s).1 h.val
  obtain ⟨k1, k2, k3, k4⟩ := tck_val h.val (by omega) (by omega)
  have e : tckS s = ((s.1 + 1, (runS s).2.1, tckL (s.1 + 1) (runS s).1), (runS s).2.2.1, (runS s).2.2.2.1, (runS s).2.2.2.2, 0) := by
    unfold tckS
    rw [h.val, decide_eq_false (show ¬ s.1 = 1099511627776 by omega), decide_eq_false (show ¬ s.2.1 > 1125899906842624 - 2520 by omega)]; rfl
  refine ⟨k1, ⟨k2, by rw [k3]; omega, ?_⟩, k3, k4, e⟩
  have hv := run_vir2 V
  rw [e]
  show (runS s).2.1 ≤ _
  omega
theorem Sc.mono {s : SSd} {t u : Nat} (h : Sc s t) (hu : t ≤ u) : Sc s u := ⟨h.val, by have := h.now; omega, by have := h.vir; omega⟩
theorem Sc.zero : Sc (0, 0, []) 0 := ⟨by decide +kernel, by simp, by simp⟩
end Go.AL
