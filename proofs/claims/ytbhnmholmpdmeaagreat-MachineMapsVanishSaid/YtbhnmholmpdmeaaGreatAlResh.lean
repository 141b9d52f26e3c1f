/-
  THE ABSTRACT LAYER: a state seen anew: names changed, slots and objects forgotten, objects made read-only. By an AI agent.
-/
import Derived.Test.YtbhnmholmpdmeaaGreatAxSnd
namespace Go.AL
set_option linter.unusedVariables false
set_option linter.unusedSimpArgs false
set_option linter.unusedSectionVars false

section
variable (s : St) (ρ : Nat → Option Nat) (F : Nat → Prop)
def cellR (x x' : V) : Prop := pureC s F x x' ∨ (∃ o p n, x = .ref p n ∧ ρ o = some p ∧ x' = .ref o n) ∨ (∃ o p n i j, x = .ptr p n i j ∧ ρ o = some p ∧ x' = .ptr o n i j) ∨ (∃ o, x = .nil ∧ ρ o = none ∧ x' = .ref o 0) ∨ x' = .dead
def slotR (x x' : V) : Prop := cellR s ρ F x x' ∨ (x' = x ∧ ((∃ rows, x = .rd rows) ∨ (∃ row j, x = .cp row j) ∨ (∃ cs, x = .agg cs) ∨ ∃ f cs, x = .fn f cs ∧ ∀ c ∈ cs, ∃ row j, c = .cp row j)) ∨
  (∃ cs cs', x = .aggi cs ∧ x' = .agg cs' ∧ All2 (pureC s F) cs cs') ∨ (∃ cs cs', x = .aggi cs ∧ x' = .aggi cs' ∧ All2 (cellR s ρ F) cs cs') ∨ (∃ f cs cs', x = .fn f cs ∧ x' = .fn f cs' ∧ All2 (cellR s ρ F) cs cs')
def obR (ob ob' : Ob) : Prop := ob'.ty = ob.ty ∧ ob'.es = ob.es ∧ All2 (All2 fun x x' => cellR s ρ F x x' ∧ (ob'.imp = false → pureC s F x x')) ob.rows ob'.rows

structure Resh (s' : St) : Prop where
  t : ∀ i, s'.t i = .dead ∨ slotR s ρ F (s.t i) (s'.t i)
  h : ∀ o ob', s'.h o = some ob' → (∃ p ob, ρ o = some p ∧ ¬ F p ∧ s.h p = some ob ∧ obR s ρ F ob ob') ∨ (ρ o = none ∧ ob'.rows = [])
  inj : ∀ o o' p, ρ o = some p → ρ o' = some p → o = o'
end

section
variable {I : Imp} {s s' : St} {ρ : Nat → Option Nat} {F : Nat → Prop} {n : Nat} {w0 : World} {A0 : Nat → Prop} {a : Act} {w : World} {β : Nat → Option Nat} {A : Nat → Prop}

end
end Go.AL
