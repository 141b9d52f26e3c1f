/-
  THE ABSTRACT LAYER, SECOND PART: what an operation does to an abstract state, and that the model's operation does just that. By an AI agent.
-/
import Derived.Test.YtbhnmholmpdmeaaGreatAlBase
import Derived.Great.BuildSlice
import Derived.Laws.StructEq
import Derived.Laws.MakeOwn
import Derived.WalkLawsBesides
namespace Go.AL
set_option linter.unusedVariables false
set_option linter.unusedSimpArgs false
set_option linter.unusedSectionVars false

/-! ### Types -/
def szOf (P : Program) (t : TypeId) : Nat := ((P.info? t).map (·.size)).getD 0
def isRowT (P : Program) (t : TypeId) : Bool := match P.underlying t with | some (.struct _) | some (.array _ _) => true | _ => false
def elemT (P : Program) (t : TypeId) : Option TypeId := match P.underlying t with | some (.slice e) => some e | _ => none
def bytesOf (P : Program) (t : TypeId) : Nat := ((P.info? t).map (·.bytes)).getD 0
def fieldOf (P : Program) (t : TypeId) (f : Nat) : Option (Nat × TypeId) :=
  match P.underlying t with
  | some (.struct fs) => (fs[f]?).bind fun f => (P.info? f.type).bind fun i => if i.size = 0 then none else some (f.offset, f.type)
  | _ => none
def V.ofCell : Value → V
  | .int k n => .int k n
  | .bool b => .bool b
  | .string s => .str s
  | .slice none 0 0 => .nil
  | v => if v.oneCell' then .raw v else .dead
def V.ofVal : Value → V
  | .agg cs => if cs.toList.all (·.oneCell') then .agg (cs.toList.map V.ofCell) else .dead
  | v => .ofCell v
def zeroCs (P : Program) (t : TypeId) : Option (List V) :=
  match (P.info? t).bind (·.zero) with
  | some v => if v.cells.toList.all (·.oneCell') && v.cells.size == szOf P t then some (v.cells.toList.map V.ofCell) else none
  | none => none

/-! ### Values -/
def V.pure : V → Bool
  | .int .. | .bool _ | .str _ | .nil | .sl _ | .raw _ | .agg _ => true
  | _ => false
def V.cells : V → List V
  | .agg cs => cs
  | .aggi cs => cs
  | x => [x]
def V.stor (h : Nat → Option Ob) : V → Prop
  | .int .. | .bool _ | .str _ | .nil | .sl _ | .rd _ | .raw _ | .agg _ | .aggi _ => True
  | .ref o n => ∃ ob, h o = some ob ∧ n = ob.rows.length
  | .ptr o n _ _ => ∃ ob, h o = some ob ∧ n = ob.rows.length
  | _ => False
def mkAgg (imp : Bool) (cs : List V) : V := match imp with | true => .aggi cs | false => .agg cs
def cut (row : List V) (j n : Nat) : List V := (row.drop j).take n
def putAt (row : List V) (j : Nat) (cs : List V) : List V := row.take j ++ cs ++ row.drop (j + cs.length)

def fillC (place : Nat → Option (Nat × Nat)) : List V → List (Nat × V) → Option (List V)
  | cs, [] => some cs
  | cs, (i, v) :: rest => match place i with
    | none => none
    | some (off, size) => if v.cells.length = size ∧ off + v.cells.length ≤ cs.length then fillC place (putAt cs off v.cells) rest else none

def eqCs : List V → List V → Option Bool
  | [], [] => some true
  | .int k a :: xs, .int k' b :: ys => if k = k' then (eqCs xs ys).map (a == b && ·) else none
  | .bool a :: xs, .bool b :: ys => (eqCs xs ys).map (a == b && ·)
  | _, _ => none

def intV (op : BinOp) (k : IntKind) (a b : Int) : Option (Prop × V) :=
  match op with
  | .add => some (True, .int k (k.wrap (a + b)))
  | .sub => some (True, .int k (k.wrap (a - b)))
  | .mul => some (True, .int k (k.wrap (a * b)))
  | .quo => some (b ≠ 0, .int k (k.wrap (a.tdiv b)))
  | .rem => some (b ≠ 0, .int k (a.tmod b))
  | .and => some (True, .int k (k.wrap ((BitVec.ofInt k.bits a &&& BitVec.ofInt k.bits b).toNat)))
  | .or => some (True, .int k (k.wrap ((BitVec.ofInt k.bits a ||| BitVec.ofInt k.bits b).toNat)))
  | .eql => some (True, .bool (a == b))
  | .neq => some (True, .bool (a != b))
  | .lss => some (True, .bool (decide (a < b)))
  | .leq => some (True, .bool (decide (a ≤ b)))
  | .gtr => some (True, .bool (decide (a > b)))
  | .geq => some (True, .bool (decide (a ≥ b)))
  | _ => none

def isShift : BinOp → Bool
  | .shl | .shr => true
  | _ => false

def shiftV (op : BinOp) (k : IntKind) (a b : Int) : Option (Prop × V) :=
  match op with
  | .shl => some (0 ≤ b, .int k (k.wrap (a * 2 ^ (min b.toNat k.bits))))
  | .shr => some (0 ≤ b, .int k (a.fdiv (2 ^ (min b.toNat k.bits))))
  | _ => none

def eqNF (P : Program) (rec : TypeId → Option (List Bool)) : List Field → Nat → Option (List Bool)
  | [], _ => some []
  | f :: fs, off => if f.name ≠ "_" ∧ f.offset = off then
      match rec f.type with
      | some m => if szOf P f.type = m.length ∧ 0 < m.length then (eqNF P rec fs (off + m.length)).map (m ++ ·) else none
      | none => none
    else none

def eqN (P : Program) : Nat → TypeId → Option (List Bool)
  | 0, _ => none
  | d + 1, t => match P.underlying t with
    | some .bool => some [false]
    | some (.int _) => some [true]
    | some (.struct fs) => if P.stoodInHeld t then none else eqNF P (eqN P d) fs.toList 0
    | _ => none

def kindV : V → Option Bool
  | .int .. => some true
  | .bool _ => some false
  | _ => none

def eqSh (P : Program) (t : TypeId) : Option (List Bool) := if P.eqGuardType P.depth t then none else eqN P 8 t

def nilV (P : Program) (op : BinOp) (t : TypeId) (p : Prop) (b : Bool) : Option (Prop × V) := match op with
  | .eql => some (p ∧ (elemT P t).isSome, .bool b)
  | .neq => some (p ∧ (elemT P t).isSome, .bool (!b))
  | _ => none
def binV (P : Program) (op : BinOp) (t : TypeId) (x y : V) : Option (Prop × V) :=
  match x, y with
  | .int k a, .int k' b => if isShift op then shiftV op k a b else if k = k' then intV op k a b else none
  | .bool a, .bool b => match op with
    | .eql => some (P.underlying t = some .bool, .bool (a == b))
    | .neq => some (P.underlying t = some .bool, .bool (a != b))
    | _ => none
  | .agg xs, .agg ys => match op with
    | .eql => (eqCs xs ys).map fun b => (isRowT P t = true ∧ eqSh P t = some (xs.filterMap kindV), .bool b)
    | .neq => (eqCs xs ys).map fun b => (isRowT P t = true ∧ eqSh P t = some (xs.filterMap kindV), .bool (!b))
    | _ => none
  | .nil, .nil => nilV P op t True true
  | .sl rows, .nil => nilV P op t (rows ≠ []) false
  | .rd rows, .nil => nilV P op t (rows ≠ []) false
  | .raw (.slice (some _) _ _), .nil => nilV P op t True false
  | _, _ => none

def V.capOK : V → Bool
  | .ptr .. | .int .. | .bool _ | .str _ | .sl _ | .nil | .cp _ _ => true
  | _ => false

/-! ### Operations -/
inductive AR where
  | val (p : Prop) (v : V)
  | new (p : Prop) (ob : Ob) (isRef : Bool)
  | upd (p : Prop) (o : Nat) (ob : Ob)
  | app (p : Prop) (o : Nat) (ob : Ob)
  | call (f : FuncId) (args : List V)
  | bad

def rowsOf (h : Nat → Option Ob) : V → Option (List (List V))
  | .nil => some []
  | .sl rows => some rows
  | .rd rows => some rows
  | .raw (.slice _ 0 _) => some []
  | .ref o n => match h o with
    | some ob => if n = ob.rows.length ∧ ob.imp = false then some ob.rows else none
    | none => none
  | _ => none

def V.live (h : Nat → Option Ob) : V → Prop
  | .ref o n => ∃ ob, h o = some ob ∧ n = ob.rows.length
  | _ => True

def lenOf : V → Option Nat
  | .nil => some 0
  | .sl rows => some rows.length
  | .rd rows => some rows.length
  | .ref _ n => some n
  | _ => none

def loadR (P : Program) (t : TypeId) (p : Prop) (imp : Bool) (row : List V) (j : Nat) : AR :=
  if isRowT P t then .val (p ∧ j + szOf P t ≤ row.length) (mkAgg imp (cut row j (szOf P t)))
  else if (P.underlying t).isSome then match row[j]? with
    | some x => if imp = true ∨ x.pure = true then .val p x else .bad
    | none => .bad
  else .bad

def aload (P : Program) (h : Nat → Option Ob) (t : TypeId) : V → AR
  | .ptr o n i j => match h o with
    | some ob => match ob.rows[i]? with
      | some row => loadR P t (n = ob.rows.length) ob.imp row j
      | none => .bad
    | none => .bad
  | .cp row j => loadR P t True false row j
  | _ => .bad

def astore (P : Program) (h : Nat → Option Ob) (t : TypeId) (x y : V) : AR :=
  match x with
  | .ptr o n i j => match h o with
    | some ob => match ob.rows[i]? with
      | some row => .upd (n = ob.rows.length ∧ y.stor h ∧ y.cells.length = szOf P t ∧ j + y.cells.length ≤ row.length) o { ob with imp := ob.imp || !y.pure, rows := ob.rows.set i (putAt row j y.cells) }
      | none => .bad
    | none => .bad
  | _ => .bad

def placesOK (P : Program) (t : TypeId) : Bool := match P.underlying t with
  | some (.struct fs) => (fs.toList.mapM (fun f => (P.info? f.type).map fun i => (f.offset, i.size))).isSome
  | _ => false

def abuild (P : Program) (h : Nat → Option Ob) (t : TypeId) (parts : List (Nat × V)) : AR :=
  if placesOK P t then match zeroCs P t with
    | some z => match fillC (fun i => (fieldOf P t i).map fun f => (f.1, szOf P f.2)) z parts with
      | some cs => .val (∀ q ∈ parts, q.2.stor h) (mkAgg (!(parts.all (·.2.pure))) cs)
      | none => .bad
    | none => .bad
  else .bad

def abuildSlice (P : Program) (h : Nat → Option Ob) (t : TypeId) (len : Nat) (parts : List (Nat × V)) : AR :=
  match elemT P t with
  | some e => if parts.map (·.1) = List.range len ∧ len * szOf P e ≤ 2 ^ 24 ∧ 0 < szOf P e ∧ (zeroCs P e).isSome then
      .new (∀ q ∈ parts, q.2.stor h ∧ q.2.cells.length = szOf P e) ⟨e, szOf P e, !(parts.all (·.2.pure)), parts.map (·.2.cells)⟩ true else .bad
  | none => .bad

def amake (P : Program) (t : TypeId) (x y : V) : AR :=
  match elemT P t, x, y with
  | some e, .int _ l, .int _ c => match zeroCs P e with
    | some z => if 0 < szOf P e then .new (0 ≤ l ∧ l ≤ c ∧ (bytesOf P e : Int) * c ≤ 140737488355328 ∧ c ≤ 9223372036854775807) ⟨e, szOf P e, false, List.replicate l.toNat z⟩ true else .bad
    | none => .bad
  | _, _, _ => .bad

def afieldAddr (P : Program) (h : Nat → Option Ob) (t : TypeId) (f : Nat) : V → AR
  | .ptr o n i j => match h o with
    | some ob => match fieldOf P t f with | some (off, _) => .val (n = ob.rows.length) (.ptr o n i (j + off)) | none => .bad
    | none => .bad
  | .cp row j => match fieldOf P t f with | some (off, _) => .val True (.cp row (j + off)) | none => .bad
  | _ => .bad

def afield (P : Program) (t : TypeId) (f : Nat) : V → AR
  | .agg cs => match fieldOf P t f with
    | some (off, ft) => if isRowT P ft then .val (off + szOf P ft ≤ cs.length) (.agg (cut cs off (szOf P ft)))
      else if (P.underlying ft).isSome ∧ szOf P ft = 1 then match cs[off]? with | some x => .val True x | none => .bad
      else .bad
    | none => .bad
  | _ => .bad

def aindexAddr (P : Program) (t : TypeId) (x ix : V) : AR :=
  match elemT P t, ix with
  | some e, .int _ i => if szOf P e = 0 then .bad else match x with
    | .sl rows => match rows[i.toNat]? with
      | some row => .val (0 ≤ i ∧ row.length = szOf P e) (.cp row 0)
      | none => .bad
    | .rd rows => match rows[i.toNat]? with
      | some row => .val (0 ≤ i ∧ row.length = szOf P e) (.cp row 0)
      | none => .bad
    | _ => .bad
  | _, _ => .bad

def aindexRef (P : Program) (h : Nat → Option Ob) (t : TypeId) (x ix : V) : AR :=
  match elemT P t, ix with
  | some e, .int _ i => if szOf P e = 0 then .bad else match x with
    | .ref o n => match h o with
      | some ob => .val (0 ≤ i ∧ i < n ∧ n = ob.rows.length ∧ ob.es = szOf P e) (.ptr o n i.toNat 0)
      | none => .bad
    | _ => .bad
  | _, _ => .bad

def arrOf (P : Program) (t : TypeId) : Option (Nat × TypeId) := match P.underlying t with | some (.array n e) => some (n, e) | _ => none
def cutRows {α : Type} (es : Nat) : Nat → List α → List (List α)
  | 0, _ => []
  | n + 1, l => l.take es :: cutRows es n (l.drop es)
def aalloc (P : Program) (t : TypeId) : AR := match zeroCs P t with
  | some z => match arrOf P t with
    | some (m, e) => if 0 < m ∧ 0 < szOf P e ∧ z.length = m * szOf P e then .new True ⟨t, szOf P e, false, cutRows (szOf P e) m z⟩ false else .bad
    | none => .new True ⟨t, szOf P t, false, [z]⟩ false
  | none => .bad
theorem aalloc_cases (P : Program) (t : TypeId) : aalloc P t = .bad ∨ ∃ ob, aalloc P t = .new True ob false := by
  unfold aalloc
  split
  · split
    · split
      · exact .inr ⟨_, rfl⟩
      · exact .inl rfl
    · exact .inr ⟨_, rfl⟩
  · exact .inl rfl
def aindexArr (P : Program) (h : Nat → Option Ob) (t : TypeId) (x ix : V) : AR :=
  match arrOf P t, ix with
  | some (m, e), .int _ i => if szOf P e = 0 then .bad else match x with
    | .ptr o n 0 0 => match h o with
      | some ob => .val (0 ≤ i ∧ i < m ∧ m = ob.rows.length ∧ n = ob.rows.length ∧ ob.es = szOf P e) (.ptr o n i.toNat 0)
      | none => .bad
    | _ => .bad
  | _, _ => .bad

def aslice (P : Program) (t : TypeId) (x : V) (lo hi : Option V) : AR :=
  match elemT P t with
  | none => .bad
  | some e => if szOf P e = 0 then .bad else
    match lo, hi with
    | none, none => .bad
    | none, some (.int _ h) => match x with
      | .sl rows => .val (0 ≤ h ∧ h ≤ rows.length) (.sl (rows.take h.toNat))
      | .rd rows => .val (0 ≤ h ∧ h ≤ rows.length) (.rd (rows.take h.toNat))
      | .nil => .val (h = 0) .nil
      | _ => .bad
    | some (.int _ l), none => match x with
      | .sl rows => .val (0 ≤ l ∧ l ≤ rows.length ∧ ∀ r ∈ rows, r.length = szOf P e) (.sl (rows.drop l.toNat))
      | .rd rows => .val (0 ≤ l ∧ l ≤ rows.length ∧ ∀ r ∈ rows, r.length = szOf P e) (.rd (rows.drop l.toNat))
      | .nil => .val (l = 0) .nil
      | _ => .bad
    | some (.int _ l), some (.int _ h) => match x with
      | .sl rows => .val (0 ≤ l ∧ l ≤ h ∧ h ≤ rows.length ∧ ∀ r ∈ rows, r.length = szOf P e) (.sl ((rows.take h.toNat).drop l.toNat))
      | .rd rows => .val (0 ≤ l ∧ l ≤ h ∧ h ≤ rows.length ∧ ∀ r ∈ rows, r.length = szOf P e) (.rd ((rows.take h.toNat).drop l.toNat))
      | .nil => .val (l = 0 ∧ h = 0) .nil
      | _ => .bad
    | _, _ => .bad

def aappend (P : Program) (h : Nat → Option Ob) (t : TypeId) (x y : V) : AR :=
  match elemT P t, rowsOf h y with
  | some e, some new => if szOf P e = 0 ∨ (zeroCs P e).isNone then .bad else match x with
    | .nil => .new ((∀ r ∈ new, r.length = szOf P e) ∧ new.length * bytesOf P e ≤ 140737488355328 ∧ new.length ≤ maxLen) ⟨e, szOf P e, false, new⟩ true
    | .ref o n => match h o with
      | some ob => .app (n = ob.rows.length ∧ ob.ty = e ∧ ob.es = szOf P e ∧ (∀ r ∈ new, r.length = szOf P e) ∧ (n + new.length) * bytesOf P e ≤ 140737488355328 ∧ n + new.length ≤ maxLen) o
          { ob with rows := ob.rows ++ new }
      | none => .bad
    | _ => .bad
  | _, _ => .bad

def amax : List V → Option V
  | [.int k a, .int k' b] => if k = k' then some (.int k (if b > a then b else a)) else none
  | _ => none
def amin : List V → Option V
  | [.int k a, .int k' b] => if k = k' then some (.int k (if b < a then b else a)) else none
  | _ => none

def callable (P : Program) (g : FuncId) : Bool := match P.funcs[g]? with
  | some fn => fn.body.isSome && !(fn.name == "runtime.NumGoroutine")
  | none => false

def acall (P : Program) (e : Operand → V) (h : Nat → Option Ob) (c : Call) : AR :=
  match c.callee with
  | .value f => match e f with
    | .fn g caps => if callable P g then .call g (c.args.toList.map e ++ caps) else .bad
    | _ => .bad
  | .builtin .len => match c.args.toList with
    | [x] => match e x with
      | .str s => .val (c.argTypes.toList.map P.underlying = [some .string]) (.int .i64 s.size)
      | v => match lenOf v with
        | some n => .val (v.live h ∧ c.argTypes.toList.map (fun t => (elemT P t).isSome) = [true]) (.int .i64 n)
        | none => .bad
    | _ => .bad
  | .builtin .append => match c.args.toList, c.argTypes.toList with
    | [x, y], [t, t'] => if t = t' then aappend P h t (e x) (e y) else .bad
    | _, _ => .bad
  | .builtin .max => match amax (c.args.toList.map e) with | some v => .val True v | none => .bad
  | .builtin .min => match amin (c.args.toList.map e) with | some v => .val True v | none => .bad
  | _ => .bad

def aop (P : Program) (o : Oper) (e : Operand → V) (h : Nat → Option Ob) : AR :=
  match o.op with
  | .move x => .val True (e x)
  | .assign x => .val True (e x)
  | .pick c a b => match e c with | .bool t => .val True (if t then e a else e b) | _ => .bad
  | .alloc t => aalloc P t
  | .box t x => .new ((e x).stor h ∧ (e x).cells.length = szOf P t) ⟨t, szOf P t, !(e x).pure, [(e x).cells]⟩ false
  | .build t parts => abuild P h t (parts.toList.map fun q => (q.1, e q.2))
  | .buildSlice t len parts => abuildSlice P h t len (parts.toList.map fun q => (q.1, e q.2))
  | .load t x => if 0 < szOf P t then aload P h t (e x) else .bad
  | .store t x y => if 0 < szOf P t then astore P h t (e x) (e y) else .bad
  | .binOp op t x y _ => match binV P op t (e x) (e y) with | some (p, v) => .val p v | none => .bad
  | .unOp .not _ x => match e x with | .bool b => .val True (.bool (!b)) | _ => .bad
  | .unOp .neg _ x => match e x with | .int k n => .val True (.int k (k.wrap (0 - n))) | _ => .bad
  | .convert src dst x => match e x with
    | .int _ n => match P.underlying src, P.underlying dst with
      | some _, some (.int k) => .val True (.int k (k.wrap n))
      | _, _ => .bad
    | _ => .bad
  | .slice t x lo hi none => aslice P t (e x) (lo.map e) (hi.map e)
  | .fieldAddr t x f => afieldAddr P h t f (e x)
  | .field t x f => afield P t f (e x)
  | .indexAddr t x i => match e x with
    | .ref .. => aindexRef P h t (e x) (e i)
    | .ptr .. => aindexArr P h t (e x) (e i)
    | _ => aindexAddr P t (e x) (e i)
  | .extract x i => match e x with | .tup vs => (match vs[i]? with | some v => .val True v | none => .bad) | _ => .bad
  | .makeFunc (.func f) first caps => if first.toList = [] ∧ (caps.toList.map e).all V.capOK then .val True (.fn f (caps.toList.map e)) else .bad
  | .nilCheck x => match e x with
    | .ptr o n i j => .val (∃ ob, h o = some ob ∧ n = ob.rows.length) (.ptr o n i j)
    | _ => .bad
  | .call c => acall P e h c
  | .makeSlice t l c => amake P t (e l) (e c)
  | _ => .bad

end Go.AL
