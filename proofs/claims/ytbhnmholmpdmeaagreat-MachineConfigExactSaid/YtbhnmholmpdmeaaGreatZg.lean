/-
  Structs loaded, stored, laid in a new slice, whole, in a walk. By an AI agent.
-/
import Derived.Test.YtbhnmholmpdmeaaGreatZ0
import Derived.Deep.MidRow
import Derived.Great.BuildSlice
namespace Go.AL
open Go.RowKit
set_option linter.unusedVariables false
set_option linter.unusedSimpArgs false
theorem HB.range {w : World} {B : Nat} {t : TypeId} {us : List Value} (h : HB w B t us.toArray) : w.rangeAt B 0 us := fun j v hv => by rw [h.cell, Nat.zero_add]; simpa using hv
theorem wpLoad {P : Program} {w : World} {ops : Array Oper} {rest : List Oper} {o : Oper} {a : Act} {Q : Exit → Act → World → Prop} (hgd : o.guard = none) (ty : TypeId) (x : Operand) (ho : o.op = .load ty x)
    {b off : Nat} (hx : a.eval x = .pointer (some ⟨b, off, none⟩)) {us : List Value} (hc : w.rangeAt b off us) {d : TypeDesc} (hu : P.underlying ty = some d) (hd : d.isRow = true) {n : Nat} (hi : (P.info? ty).map (·.size) = some n) (hl : us.length = n)
    (h : wpList P ops Q rest (a.put o.dst (.agg us.toArray)) w) : wpList P ops Q (o :: rest) a w :=
  wpList_load_mid hgd ty x ho b off hx us d hc hu hd (by rw [hi, hl]) h
end Go.AL
