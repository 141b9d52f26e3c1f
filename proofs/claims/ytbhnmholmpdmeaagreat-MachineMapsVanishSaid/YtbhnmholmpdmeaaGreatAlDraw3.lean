/-
  THE ABSTRACT LAYER, FOURTEENTH PART: an operation of a drawn region may be taken first. By an AI agent.
-/
import Derived.Test.YtbhnmholmpdmeaaGreatAlDraw2
import Derived.Test.YtbhnmholmpdmeaaGreatAlFrz
namespace Go.AL
set_option linter.unusedVariables false
set_option linter.unusedSimpArgs false
set_option linter.unusedSectionVars false

/-! ### The light operations -/
inductive Kind where
  | plain    -- yields a value, looks at no object
  | look     -- yields a value, looks at objects
  | alloc    -- makes one variable
  | box      -- makes one variable, looks at objects
  | heavy
  deriving DecidableEq

def kindOf : Op → Kind
  | .move _ | .assign _ | .pick .. | .binOp .. | .unOp .. | .convert .. | .slice .. | .field .. | .extract .. | .makeFunc .. => .plain
  | .load .. | .fieldAddr .. | .indexAddr .. | .nilCheck _ | .build .. => .look
  | .call { callee := .builtin .len, .. } | .call { callee := .builtin .max, .. } | .call { callee := .builtin .min, .. } => .look
  | .alloc _ => .alloc
  | .box .. | .buildSlice .. => .box
  | _ => .heavy

/-! ### Effects -/
theorem okOb.sl {K : Nat → Bool} {ob : Ob} (h : okOb K ob) (himp : ob.imp = false) : PureV (.sl ob.rows) := .sl _ fun row hr x hx => (h row hr x hx).2 himp

def minus (K : Nat → Bool) (dst : Option Nat) : Nat → Bool := fun p => K p && !(dst == some (p % 1000))

end Go.AL
