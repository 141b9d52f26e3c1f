/-
  Layer 16: the reference's Map and Unmap answer as the program's. By an AI agent.
-/
import Derived.Test.YtcpdakiailaneaaV4
import Derived.Test.YtcpdakiailaneaaVe
namespace Go.AL
open Go.Proofs
set_option linter.unusedVariables false
set_option linter.unusedSimpArgs false
theorem okT_okM {l : List SPT} (h : okT l = true) : okM l = true := by
  unfold okM
  rw [Bool.and_eq_true]
  exact ⟨decide_eq_true (by have := okT_len h; omega), List.all_eq_true.2 fun t ht => decide_eq_true (by have := okT_mem h ht; omega)⟩
theorem ft_range {ts : List SPT} {b : Int} (h : ¬ ftS ts b < 0) : 0 ≤ ftS ts b ∧ ftS ts b < ((ts.length : Nat) : Int) := by
  have := findI_lt (fun t : SPT => decide (t.1 = b)) ts 0 (by omega)
  have : ftS ts b < 0 + ts.length := this
  omega
theorem ft_getD {ts : List SPT} {b : Int} (h : ¬ ftS ts b < 0) : ts.getD (ftS ts b).toNat zPT ∈ ts := by
  have := ft_range h
  rw [List.getD_eq_getElem?_getD, List.getElem?_eq_getElem (by omega)]
  exact List.getElem_mem _
end Go.AL
