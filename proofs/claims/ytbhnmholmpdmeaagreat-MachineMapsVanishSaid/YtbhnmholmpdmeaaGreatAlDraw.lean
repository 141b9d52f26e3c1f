/-
  THE ABSTRACT LAYER, TWELFTH PART: regions that draw their order. By an AI agent.
-/
import Derived.Test.YtbhnmholmpdmeaaGreatAlRun
namespace Go.AL
set_option linter.unusedVariables false
set_option linter.unusedSimpArgs false
set_option linter.unusedSectionVars false

/-! ### What an operation looks at -/
section
variable {P : Program} {K : Nat → Bool} {e e' : Operand → V} {h h' : Nat → Option Ob}

end

/-! ### Values without the names of K -/
inductive PureV : V → Prop
  | int (k : IntKind) (n : Int) : PureV (.int k n)
  | bool (b : Bool) : PureV (.bool b)
  | str (s : ByteArray) : PureV (.str s)
  | nil : PureV .nil
  | raw (v : Value) : PureV (.raw v)
  | sl (rows : List (List V)) (h : ∀ row ∈ rows, ∀ x ∈ row, PureV x) : PureV (.sl rows)

theorem PureV.rows {rows : List (List V)} (h : PureV (.sl rows)) : ∀ row ∈ rows, ∀ x ∈ row, PureV x := by cases h; assumption

def okC (K : Nat → Bool) : V → Prop
  | .rd rows => ∀ row ∈ rows, ∀ x ∈ row, PureV x
  | .cp row _ => ∀ x ∈ row, PureV x
  | .ref o _ => K o = false
  | .ptr o _ _ _ => K o = false
  | .dead => True
  | x => PureV x

def okA (K : Nat → Bool) : V → Prop
  | .agg cs => ∀ x ∈ cs, PureV x
  | .aggi cs => ∀ x ∈ cs, okC K x
  | x => okC K x

def okV (K : Nat → Bool) : V → Prop
  | .tup vs => ∀ x ∈ vs, okA K x
  | .fn _ cs => ∀ x ∈ cs, okC K x
  | x => okA K x

def okOb (K : Nat → Bool) (ob : Ob) : Prop := ∀ row ∈ ob.rows, ∀ x ∈ row, okC K x ∧ (ob.imp = false → PureV x)

structure okS (K : Nat → Bool) (s : St) : Prop where
  t : ∀ i, okV K (s.t i)
  h : ∀ o ob, s.h o = some ob → okOb K ob
  n : ∀ o, K o = true → s.h o = none

theorem nK {K K' : Nat → Bool} (hK : ∀ p, K' p = true → K p = true) {o : Nat} (ho : K o = false) : K' o = false := by
  cases hk : K' o with
  | false => rfl
  | true => rw [hK o hk] at ho; cases ho

theorem okC_mono {K K' : Nat → Bool} (hK : ∀ p, K' p = true → K p = true) {x : V} (h : okC K x) : okC K' x := by
  have f : ∀ o, K o = false → K' o = false := fun o ho => by
    cases hk : K' o with
    | false => rfl
    | true => rw [hK o hk] at ho; cases ho
  cases x <;> first | exact h | exact f _ h
theorem okA_mono {K K' : Nat → Bool} (hK : ∀ p, K' p = true → K p = true) {x : V} (h : okA K x) : okA K' x := by
  cases x <;> first | exact h | exact okC_mono hK h | exact fun x hx => okC_mono hK (h x hx) | exact nK hK h
theorem okV_mono {K K' : Nat → Bool} (hK : ∀ p, K' p = true → K p = true) {x : V} (h : okV K x) : okV K' x := by
  cases x <;> first | exact h | exact fun x hx => okA_mono hK (h x hx) | exact fun x hx => okC_mono hK (h x hx) | exact nK hK h
theorem okS.mono {K K' : Nat → Bool} (hK : ∀ p, K' p = true → K p = true) {s : St} (h : okS K s) : okS K' s :=
  ⟨fun i => okV_mono hK (h.t i), fun o ob ho row hr x hx => ⟨okC_mono hK (h.h o ob ho row hr x hx).1, (h.h o ob ho row hr x hx).2⟩, fun o ho => h.n o (hK o ho)⟩

/-! From the relation -/
end Go.AL
