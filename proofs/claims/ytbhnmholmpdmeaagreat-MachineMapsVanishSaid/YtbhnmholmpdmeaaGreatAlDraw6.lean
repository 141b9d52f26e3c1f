/-
  THE ABSTRACT LAYER, SEVENTEENTH PART: a drawn region is sound. By an AI agent.
-/
import Derived.Test.YtbhnmholmpdmeaaGreatAlDraw5
namespace Go.AL
set_option linter.unusedVariables false
set_option linter.unusedSimpArgs false
set_option linter.unusedSectionVars false

section
variable {P : Program} {n : Nat} {ops : Array Oper}

def dstsOK (ops : Array Oper) : Bool :=
  let l := ops.toList.filterMap (·.dst)
  l.all (· < 1000) && l.Nodup

def fixD (ops : Array Oper) (listed : Array Bool) : Operand → Bool
  | .tmp d => (List.range ops.size).all fun j => listed.getD j true || (ops[j]?).bind (·.dst) != some d
  | _ => true

def freshT (ops : Array Oper) (listed : Array Bool) (oj : Oper) : Operand → Bool
  | .tmp d => oj.after.any fun e => Region.binds .any e && (!listed.getD e.on true && match ops[e.on]? with
    | some o => isCall o && o.dst == some d
    | none => false)
  | _ => false
def commOK (ops : Array Oper) (listed : Array Bool) (js : List Nat) (oi : Oper) (j : Nat) (oj : Oper) : Bool := oi.apart ops oj && (kindOf oi.op == .plain || kindOf oi.op == .alloc || (match tgt oj.op with | none => true | some x => js.contains j && fixD ops listed x || freshT ops listed oj x))

def lightB (ops : Array Oper) (k : Nat) : Bool := match ops[k]? with | some o => kindOf o.op != .heavy | none => false

def blkA (k : Nat) (ops : List Oper) : List Bool := ops.foldl (fun acc o => acc ++ [o.after.any fun e => Region.binds .any e && (e.on == k || acc.getD e.on false)]) []

def chkB (ops : Array Oper) (k : Nat) (B : List Bool) (listed : Array Bool) : Bool := (List.range ops.size).all fun j => !B.getD j false || (!listed.getD j false && match ops[j]? with
  | some o => o.after.any fun e => Region.binds .any e && (e.on == k || B.getD e.on false)
  | none => true)

def freeB (ops : Array Oper) (listed : Array Bool) (k : Nat) (js : List Nat) (B : List Bool) : Bool := match ops[k]? with
  | none => false
  | some oi => decide (B.length ≤ ops.size) && chkB ops k B listed && (List.range ops.size).all fun j => j == k || listed.getD j true || B.getD j false || (match ops[j]? with
    | none => true
    | some oj => commOK ops listed js oi j oj)

def freeD (ops : Array Oper) (listed : Array Bool) (k : Nat) (js : List Nat) : Bool := freeB ops listed k js (blkA k ops.toList)

def lexD (ops : Array Oper) : List (Nat × List Nat) → Array Bool → Bool
  | [], listed => (Region.ready .any ops listed).isEmpty
  | (k, js) :: r, listed => (Region.ready .any ops listed == [k] || ((Region.ready .any ops listed).contains k && lightB ops k && freeD ops listed k js)) && lexD ops r (listed.setIfInBounds k true)

def drawOK (ops : Array Oper) (perm : List (Nat × List Nat)) : Bool := dstsOK ops && perm.length == ops.size && lexD ops perm (Array.replicate ops.size false)

/-! ### On the machine -/
variable {w0 : World} {I : Imp} {A0 : Nat → Prop}

def KI (l : List (Nat × Nat)) (p : Nat) : Bool := l.any fun q => decide (q.1 ≤ p % 1000) && decide (p % 1000 ≤ q.2)

def regionOK (ops : Array Oper) (perm : List (Nat × List Nat)) (ks : List (Nat × Nat)) : Bool := drawOK ops perm && ops.all fun o => match o.dst with | some d => KI ks d | none => true

end
end Go.AL
