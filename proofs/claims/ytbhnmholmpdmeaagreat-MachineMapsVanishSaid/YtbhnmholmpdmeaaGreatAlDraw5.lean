/-
  THE ABSTRACT LAYER, SIXTEENTH PART: every order of a drawn region comes to what one order comes to. By an AI agent.
-/
import Derived.Test.YtbhnmholmpdmeaaGreatAlDraw4
namespace Go.AL
set_option linter.unusedVariables false
set_option linter.unusedSimpArgs false
set_option linter.unusedSectionVars false

section
variable {P : Program} {n : Nat} {ops : Array Oper} {K : Nat → Bool}

theorem okS.put {s : St} (hs : okS K s) (d : Option Nat) {v : V} (hv : okV K v) : okS K (s.put d v) := by
  cases d with
  | none => exact hs
  | some d =>
    refine ⟨fun i => ?_, hs.h, hs.n⟩
    rw [St.put]
    simp only
    split
    · exact hv
    · exact hs.t i

def hit (o : Oper) (s : St) (p : Nat) : Bool := match tgt o.op with
  | some x => (s.ev x).names (· == p)
  | none => false

def isCall (o : Oper) : Bool := match o.op with
  | .call { callee := .value _, .. } => true
  | _ => false

structure Aft (K : Nat → Bool) (oj : Oper) (s s2 : St) : Prop where
  ok : okS (minus K oj.dst) s2
  t : ∀ i, oj.dst ≠ some i → s2.t i = s.t i
  h : ∀ p, (oj.dst == some (p % 1000)) = false → hit oj s p = false → s2.h p = s.h p
  d : isCall oj = true → ∀ d, oj.dst = some d → ∀ q, (s2.t d).names (· == q) = true → q % 1000 = d

end
end Go.AL
