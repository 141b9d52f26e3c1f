/-
  THE ABSTRACT LAYER: a region that draws, whose last operations come one by one. By an AI agent.
-/
import Derived.Test.YtbhnmholmpdmeaaGreatAlDraw6
namespace Go.AL
set_option linter.unusedVariables false
set_option linter.unusedSimpArgs false
set_option linter.unusedSectionVars false

def cutO (m : Nat) (ops : Array Oper) : Array Oper := (ops.toList.take m).toArray
def flags (N i : Nat) : Array Bool := (List.replicate i true ++ List.replicate (N - i) false).toArray
def backOK (ops : Array Oper) (m : Nat) : Bool := (List.range ops.size).all fun i => match ops[i]? with
  | none => false
  | some o => (o.after.toList.all fun e => !Region.binds .any e || Nat.blt e.on i) && (match o.guard with | none => true | some (j, _) => Nat.blt j i) &&
      (Nat.blt i m || ((List.range m).all fun k => o.after.toList.any fun e => Region.binds .any e && Nat.beq e.on k))
def chainOK (ops : Array Oper) (m : Nat) : Bool := (List.range (ops.size - m)).all fun j => Region.ready .any ops (flags ops.size (m + j)) == [m + j]
def tailOK (ops : Array Oper) (m : Nat) : Bool := Nat.beq m ops.size || (backOK ops m && chainOK ops m && Nat.ble m ops.size)

section
variable {P : Program} {n : Nat} {w0 : World} {I : Imp} {A0 : Nat → Prop}

structure Back (ops : Array Oper) (m : Nat) : Prop where
  on : ∀ (i : Nat) (o : Oper), ops[i]? = some o → ∀ e ∈ o.after.toList, Region.binds .any e = true → e.on < i
  guard : ∀ (i : Nat) (o : Oper), ops[i]? = some o → ∀ (j : Nat) (want : Bool), o.guard = some (j, want) → j < i
  wait : ∀ (i : Nat) (o : Oper), ops[i]? = some o → m ≤ i → ∀ k, k < m → ∃ e ∈ o.after.toList, Region.binds .any e = true ∧ e.on = k
def ext (L : Array Bool) (t : Nat) : Array Bool := L ++ Array.replicate t false
def open_ (L : Array Bool) : Nat := L.toList.countP (fun b => !b)
theorem open_set {L : Array Bool} {i : Nat} (h : i < L.size) (hf : L.getD i true = false) : open_ (L.setIfInBounds i true) + 1 = open_ L := by
  unfold open_
  have hl : L.toList[i]? = some false := by
    rw [Array.getElem?_toList, Array.getElem?_eq_getElem h]
    rw [Array.getD_eq_getD_getElem?, Array.getElem?_eq_getElem h] at hf
    simpa using hf
  rw [Array.toList_setIfInBounds]
  generalize L.toList = l at hl
  clear h hf
  induction l generalizing i with
  | nil => simp at hl
  | cons b l ih =>
    cases i with
    | zero => simp at hl; subst hl; simp
    | succ i =>
      simp only [List.set_cons_succ, List.countP_cons]
      have := ih (i := i) (by simpa using hl)
      omega
end
end Go.AL
