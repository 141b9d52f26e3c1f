/-
  Layer 30 (sched): admission, plain laws. No program in sight. By an AI agent.
-/
import Derived.Test.YtmdmmikpmhopkaaK17
set_option linter.unusedVariables false
set_option linter.unusedSimpArgs false
namespace Go.AL
open Go.Proofs
theorem val_ok {s : SSd} (h : valS s = true) : okD s = true := by
 have V := (valS_iff s).1 h
 refine okD_mk (by have := V.len; omega) (fun d hd => ?_)
 have := V.all d hd
 simp only [vdiS,upB,Bool.and_eq_true,decide_eq_true_eq] at this
 have := this.2.2.1.1
 omega
end Go.AL
