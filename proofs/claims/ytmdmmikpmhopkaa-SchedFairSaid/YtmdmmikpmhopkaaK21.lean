/-
  Layer 30 (sched): admission, plain laws. No program in sight. By an AI agent.
-/
import Derived.Test.YtmdmmikpmhopkaaK17
namespace Go.AL
open Go.Proofs
set_option linter.unusedVariables false
set_option linter.unusedSimpArgs false
theorem val_ok {s : SSd} (h : valS s = true) : okD s = true := by
  have V := (valS_iff s).1 h
  refine okD_mk (by have := V.len; omega) (fun d hd => ?_)
  have := V.all d hd
  simp only [vdiS, upB, Bool.and_eq_true, decide_eq_true_eq] at this
  have := this.2.2.1.1
  omega
theorem utS_ins (d : SDs) : ∀ l : List SDs, utS (insL d l) = utS l + shD d
  | [] => by simp only [insL, utS]; omega
  | e :: r => by
    rw [insL]
    cases decide (e.1 < d.1) with
    | true => rw [cond_true, utS, utS_ins d r, utS]; omega
    | false => rw [cond_false, utS]; omega
theorem add_rt {s : SSd} (hv : valS s = true) (hn : s.1 ≤ 1000000) {id p b : Int} (h0 : 0 ≤ id) (h1 : id < 32) (hp : perB p = true) (hb : 1 ≤ b) (hb2 : b ≤ p) :
    vdiS (newDs s id 0 p b, s.1, s.2.1) = true ∧ shD (newDs s id 0 p b) = b * (1024 / p) ∧
    addS (s, id, 0, p, b) = bif s.2.2.any (fun d => decide (d.1 = id)) then (zSs, 56) else bif decide (utS s.2.2 + b * (1024 / p) > 1024) then (zSs, 15) else ((s.1, s.2.1, insL (newDs s id 0 p b) s.2.2), 0) := by
  have pr := perB_rng hp
  have hvd : vdiS (newDs s id 0 p b, s.1, s.2.1) = true := by
    simp only [vdiS, upB, corB, rtB, newDs, hp, dId, dW, dPer, dBud, dBlk, dDis, dRem, dDl, dLft, dPas, ups, decide_true, cond_true, Bool.and_self, Bool.true_and]
    simp; omega
  have hsh : shD (newDs s id 0 p b) = b * (1024 / p) := rfl
  refine ⟨hvd, hsh, ?_⟩
  unfold addS
  simp only [hv, hvd, Bool.not_true, cond_false, utS_ins, hsh]
end Go.AL
