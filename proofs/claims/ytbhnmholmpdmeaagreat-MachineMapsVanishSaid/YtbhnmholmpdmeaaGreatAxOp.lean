/-
  THE EXECUTOR, SECOND PART: what an operation does to symbolic values. By an AI agent.
-/
import Derived.Test.YtbhnmholmpdmeaaGreatAxTy
namespace Go.AL
set_option linter.unusedVariables false
set_option linter.unusedSimpArgs false
set_option linter.unusedSectionVars false

inductive XAR where
  | val (c : Bool) (x : X)
  | new (c : Bool) (ob : XOb) (isRef : Bool)
  | upd (c : Bool) (o : Nat) (ob : XOb)
  | app (c : Bool) (o : Nat) (ob : XOb)
  | call (f : FuncId) (args : List X)
  | bad

def X.ofCell : Value → X
  | .int k n => .int k n
  | .bool b => .bool b
  | .string s => .str s
  | .slice none 0 0 => .nil
  | v => if v.oneCell' then .raw v else .dead
def X.ofVal : Value → X
  | .agg cs => if cs.toList.all (·.oneCell') then .agg false (cs.toList.map X.ofCell) else .dead
  | v => .ofCell v
def XSt.ev (s : XSt) : Operand → X
  | .tmp i => bif Nat.blt i 100000 then s.t i else .dead
  | .const v => .ofVal v
  | .func f => .fn f []
  | .global _ => .dead

def rowTyF (rec : TypeId → Option (List Ty)) : List Field → Nat → Option (List Ty)
  | [], _ => some []
  | f :: fs, off => match Nat.beq f.offset off with
    | true => (match rec f.type with
      | some τ => (match rowTyF rec fs (off + τ.length) with
        | some r => some (τ ++ r)
        | none => none)
      | none => none)
    | false => none
def rowTy (P : Program) : Nat → TypeId → Option (List Ty)
  | 0, _ => none
  | d + 1, t => match P.underlying t with
    | some .bool => some [.bool]
    | some .string => some [.str]
    | some (.int k) => some [.int k]
    | some (.slice e) => (match rowTy P d e with
      | some (c :: r) => some [.sl (c :: r)]
      | _ => none)
    | some (.struct fs) => (match rowTyF (rowTy P d) fs.toList 0 with
      | some τ => (match Nat.beq τ.length (P.cellsOf t) with
        | true => some τ
        | false => none)
      | none => none)
    | _ => none

def X.pure : X → Bool
  | .int .. | .bool _ | .str _ | .nil | .sl .. | .raw _ => true
  | .agg imp _ => !imp
  | _ => false
def X.cells : X → List X
  | .agg _ cs => cs
  | x => [x]

def curO (h : Nat → Option XOb) (o ver : Nat) : Bool := match h o with
  | some ob => Nat.beq ob.ver ver
  | none => false
def X.stor (h : Nat → Option XOb) : X → Bool
  | .int .. | .bool _ | .str _ | .nil | .sl .. | .rd .. | .raw _ | .agg .. => true
  | .ref o v => curO h o v
  | .ptr o v _ _ => curO h o v
  | _ => false
def cutX (row : List X) (j n : Nat) : List X := (row.drop j).take n
def putX (row : List X) (j : Nat) (cs : List X) : List X := row.take j ++ cs ++ row.drop (j + cs.length)

def intO : Option X → Option (Option Int)
  | none => some none
  | some (.int _ n) => some (some n)
  | _ => none

end Go.AL
