/-
  SlotValidExact, SlotReserveRelease, SlotPutTake, SlotLockSweep: true at every input. By an AI agent.
-/
import Derived.Test.YtjlcdgjcbienbaaF2
namespace Go.AL
open Go.Proofs
set_option linter.unusedVariables false
set_option linter.unusedSimpArgs false
structure Rr (v m : List SSl) (i k : Int) : Prop where
  rel : relS (m, 9) = v
  val : cvalS m = true
  ok : okSl m = true
  two : resS (m, [k], 10) = ([], 4)
  len : m.length = 12
  bus : ∀ j : Nat, j < 12 → busB (m.getD j zSl) = ((j : Int) == i || ((j : Int) == k || busB (v.getD j zSl)))
structure Ls (l : List SSl) (w : List SId) : Prop where
  len : l.length = 12
  ok : okSl l = true
  gs : Gs l
  lk : ∀ s ∈ l, slk s = (0, 0, 0)
  core : ∀ s ∈ l, (sid s).1 = 0
  hit : ∀ s ∈ l, memD (sid s) w = true → empB s = false
  wl : w.length ≤ 12
  fil : (l.filter fun s => memD (sid s) w).map sid = w
end Go.AL
