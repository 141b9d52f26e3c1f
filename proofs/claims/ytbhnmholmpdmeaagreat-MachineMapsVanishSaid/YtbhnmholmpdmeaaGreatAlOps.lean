/-
  THE ABSTRACT LAYER, SECOND PART: what an operation does to an abstract state, and that the model's operation does just that. By an AI agent.
-/
import Derived.Test.YtbhnmholmpdmeaaGreatAlBase
import Derived.Great.BuildSlice
import Derived.Laws.StructEq
import Derived.Laws.MakeOwn
import Derived.WalkLawsBesides
namespace Go.AL
set_option linter.unusedVariables false
set_option linter.unusedSimpArgs false
set_option linter.unusedSectionVars false

/-! ### Types -/
def szOf (P : Program) (t : TypeId) : Nat := ((P.info? t).map (·.size)).getD 0
def isRowT (P : Program) (t : TypeId) : Bool := match P.underlying t with | some (.struct _) | some (.array _ _) => true | _ => false
def elemT (P : Program) (t : TypeId) : Option TypeId := match P.underlying t with | some (.slice e) => some e | _ => none
def bytesOf (P : Program) (t : TypeId) : Nat := ((P.info? t).map (·.bytes)).getD 0
def fieldOf (P : Program) (t : TypeId) (f : Nat) : Option (Nat × TypeId) :=
  match P.underlying t with
  | some (.struct fs) => (fs[f]?).bind fun f => (P.info? f.type).bind fun i => if i.size = 0 then none else some (f.offset, f.type)
  | _ => none
def V.ofCell : Value → V
  | .int k n => .int k n
  | .bool b => .bool b
  | .string s => .str s
  | .slice none 0 0 => .nil
  | v => if v.oneCell' then .raw v else .dead
def V.ofVal : Value → V
  | .agg cs => if cs.toList.all (·.oneCell') then .agg (cs.toList.map V.ofCell) else .dead
  | v => .ofCell v
def zeroCs (P : Program) (t : TypeId) : Option (List V) :=
  match (P.info? t).bind (·.zero) with
  | some v => if v.cells.toList.all (·.oneCell') && v.cells.size == szOf P t then some (v.cells.toList.map V.ofCell) else none
  | none => none

/-! ### Values -/
def V.pure : V → Bool
  | .int .. | .bool _ | .str _ | .nil | .sl _ | .raw _ | .agg _ => true
  | _ => false
def V.cells : V → List V
  | .agg cs => cs
  | .aggi cs => cs
  | x => [x]
def V.stor (h : Nat → Option Ob) : V → Prop
  | .int .. | .bool _ | .str _ | .nil | .sl _ | .rd _ | .raw _ | .agg _ | .aggi _ => True
  | .ref o n => ∃ ob, h o = some ob ∧ n = ob.rows.length
  | .ptr o n _ _ => ∃ ob, h o = some ob ∧ n = ob.rows.length
  | _ => False
def mkAgg (imp : Bool) (cs : List V) : V := match imp with | true => .aggi cs | false => .agg cs
def cut (row : List V) (j n : Nat) : List V := (row.drop j).take n
def putAt (row : List V) (j : Nat) (cs : List V) : List V := row.take j ++ cs ++ row.drop (j + cs.length)

def fillC (place : Nat → Option (Nat × Nat)) : List V → List (Nat × V) → Option (List V)
  | cs, [] => some cs
  | cs, (i, v) :: rest => match place i with
    | none => none
    | some (off, size) => if v.cells.length = size ∧ off + v.cells.length ≤ cs.length then fillC place (putAt cs off v.cells) rest else none

def eqCs : List V → List V → Option Bool
  | [], [] => some true
  | .int k a :: xs, .int k' b :: ys => if k = k' then (eqCs xs ys).map (a == b && ·) else none
  | .bool a :: xs, .bool b :: ys => (eqCs xs ys).map (a == b && ·)
  | _, _ => none

def eqNF (P : Program) (rec : TypeId → Option (List Bool)) : List Field → Nat → Option (List Bool)
  | [], _ => some []
  | f :: fs, off => if f.name ≠ "_" ∧ f.offset = off then
      match rec f.type with
      | some m => if szOf P f.type = m.length ∧ 0 < m.length then (eqNF P rec fs (off + m.length)).map (m ++ ·) else none
      | none => none
    else none

def eqN (P : Program) : Nat → TypeId → Option (List Bool)
  | 0, _ => none
  | d + 1, t => match P.underlying t with
    | some .bool => some [false]
    | some (.int _) => some [true]
    | some (.struct fs) => if P.stoodInHeld t then none else eqNF P (eqN P d) fs.toList 0
    | _ => none

def kindV : V → Option Bool
  | .int .. => some true
  | .bool _ => some false
  | _ => none

def eqSh (P : Program) (t : TypeId) : Option (List Bool) := if P.eqGuardType P.depth t then none else eqN P 8 t

/-! ### Operations -/
inductive AR where
  | val (p : Prop) (v : V)
  | new (p : Prop) (ob : Ob) (isRef : Bool)
  | upd (p : Prop) (o : Nat) (ob : Ob)
  | app (p : Prop) (o : Nat) (ob : Ob)
  | call (f : FuncId) (args : List V)
  | bad

def rowsOf (h : Nat → Option Ob) : V → Option (List (List V))
  | .nil => some []
  | .sl rows => some rows
  | .rd rows => some rows
  | .raw (.slice _ 0 _) => some []
  | .ref o n => match h o with
    | some ob => if n = ob.rows.length ∧ ob.imp = false then some ob.rows else none
    | none => none
  | _ => none

def lenOf : V → Option Nat
  | .nil => some 0
  | .sl rows => some rows.length
  | .rd rows => some rows.length
  | .ref _ n => some n
  | _ => none

def loadR (P : Program) (t : TypeId) (p : Prop) (imp : Bool) (row : List V) (j : Nat) : AR :=
  if isRowT P t then .val (p ∧ j + szOf P t ≤ row.length) (mkAgg imp (cut row j (szOf P t)))
  else if (P.underlying t).isSome then match row[j]? with
    | some x => if imp = true ∨ x.pure = true then .val p x else .bad
    | none => .bad
  else .bad

def aload (P : Program) (h : Nat → Option Ob) (t : TypeId) : V → AR
  | .ptr o n i j => match h o with
    | some ob => match ob.rows[i]? with
      | some row => loadR P t (n = ob.rows.length) ob.imp row j
      | none => .bad
    | none => .bad
  | .cp row j => loadR P t True false row j
  | _ => .bad

def astore (P : Program) (h : Nat → Option Ob) (t : TypeId) (x y : V) : AR :=
  match x with
  | .ptr o n i j => match h o with
    | some ob => match ob.rows[i]? with
      | some row => .upd (n = ob.rows.length ∧ y.stor h ∧ y.cells.length = szOf P t ∧ j + y.cells.length ≤ row.length) o { ob with imp := ob.imp || !y.pure, rows := ob.rows.set i (putAt row j y.cells) }
      | none => .bad
    | none => .bad
  | _ => .bad

def placesOK (P : Program) (t : TypeId) : Bool := match P.underlying t with
  | some (.struct fs) => (fs.toList.mapM (fun f => (P.info? f.type).map fun i => (f.offset, i.size))).isSome
  | _ => false

def abuild (P : Program) (h : Nat → Option Ob) (t : TypeId) (parts : List (Nat × V)) : AR :=
  if placesOK P t then match zeroCs P t with
    | some z => match fillC (fun i => (fieldOf P t i).map fun f => (f.1, szOf P f.2)) z parts with
      | some cs => .val (∀ q ∈ parts, q.2.stor h) (mkAgg (!(parts.all (·.2.pure))) cs)
      | none => .bad
    | none => .bad
  else .bad

def afieldAddr (P : Program) (h : Nat → Option Ob) (t : TypeId) (f : Nat) : V → AR
  | .ptr o n i j => match h o with
    | some ob => match fieldOf P t f with | some (off, _) => .val (n = ob.rows.length) (.ptr o n i (j + off)) | none => .bad
    | none => .bad
  | .cp row j => match fieldOf P t f with | some (off, _) => .val True (.cp row (j + off)) | none => .bad
  | _ => .bad

def afield (P : Program) (t : TypeId) (f : Nat) : V → AR
  | .agg cs => match fieldOf P t f with
    | some (off, ft) => if isRowT P ft then .val (off + szOf P ft ≤ cs.length) (.agg (cut cs off (szOf P ft)))
      else if (P.underlying ft).isSome ∧ szOf P ft = 1 then match cs[off]? with | some x => .val True x | none => .bad
      else .bad
    | none => .bad
  | _ => .bad

def aindexAddr (P : Program) (t : TypeId) (x ix : V) : AR :=
  match elemT P t, ix with
  | some e, .int _ i => if szOf P e = 0 then .bad else match x with
    | .sl rows => match rows[i.toNat]? with
      | some row => .val (0 ≤ i ∧ row.length = szOf P e) (.cp row 0)
      | none => .bad
    | .rd rows => match rows[i.toNat]? with
      | some row => .val (0 ≤ i ∧ row.length = szOf P e) (.cp row 0)
      | none => .bad
    | _ => .bad
  | _, _ => .bad

def cutRows {α : Type} (es : Nat) : Nat → List α → List (List α)
  | 0, _ => []
  | n + 1, l => l.take es :: cutRows es n (l.drop es)
def aslice (P : Program) (t : TypeId) (x : V) (lo hi : Option V) : AR :=
  match elemT P t with
  | none => .bad
  | some e => if szOf P e = 0 then .bad else
    match lo, hi with
    | none, none => .bad
    | none, some (.int _ h) => match x with
      | .sl rows => .val (0 ≤ h ∧ h ≤ rows.length) (.sl (rows.take h.toNat))
      | .rd rows => .val (0 ≤ h ∧ h ≤ rows.length) (.rd (rows.take h.toNat))
      | .nil => .val (h = 0) .nil
      | _ => .bad
    | some (.int _ l), none => match x with
      | .sl rows => .val (0 ≤ l ∧ l ≤ rows.length ∧ ∀ r ∈ rows, r.length = szOf P e) (.sl (rows.drop l.toNat))
      | .rd rows => .val (0 ≤ l ∧ l ≤ rows.length ∧ ∀ r ∈ rows, r.length = szOf P e) (.rd (rows.drop l.toNat))
      | .nil => .val (l = 0) .nil
      | _ => .bad
    | some (.int _ l), some (.int _ h) => match x with
      | .sl rows => .val (0 ≤ l ∧ l ≤ h ∧ h ≤ rows.length ∧ ∀ r ∈ rows, r.length = szOf P e) (.sl ((rows.take h.toNat).drop l.toNat))
      | .rd rows => .val (0 ≤ l ∧ l ≤ h ∧ h ≤ rows.length ∧ ∀ r ∈ rows, r.length = szOf P e) (.rd ((rows.take h.toNat).drop l.toNat))
      | .nil => .val (l = 0 ∧ h = 0) .nil
      | _ => .bad
    | _, _ => .bad

def aappend (P : Program) (h : Nat → Option Ob) (t : TypeId) (x y : V) : AR :=
  match elemT P t, rowsOf h y with
  | some e, some new => if szOf P e = 0 ∨ (zeroCs P e).isNone then .bad else match x with
    | .nil => .new ((∀ r ∈ new, r.length = szOf P e) ∧ new.length * bytesOf P e ≤ 140737488355328 ∧ new.length ≤ maxLen) ⟨e, szOf P e, false, new⟩ true
    | .ref o n => match h o with
      | some ob => .app (n = ob.rows.length ∧ ob.ty = e ∧ ob.es = szOf P e ∧ (∀ r ∈ new, r.length = szOf P e) ∧ (n + new.length) * bytesOf P e ≤ 140737488355328 ∧ n + new.length ≤ maxLen) o
          { ob with rows := ob.rows ++ new }
      | none => .bad
    | _ => .bad
  | _, _ => .bad

end Go.AL
