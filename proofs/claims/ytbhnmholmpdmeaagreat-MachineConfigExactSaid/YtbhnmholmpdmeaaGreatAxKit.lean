/-
  THE EXECUTOR, TENTH PART: what the texts of single functions use. By an AI agent.
-/
import Derived.Test.YtbhnmholmpdmeaaGreatAxLaw
import Derived.KernelRfl
namespace Go.AL
set_option linter.unusedVariables false
set_option linter.unusedSimpArgs false

def pmT : List (Nat × (List (Nat × List Nat) × List (Nat × Nat))) → PM
  | [], _ => ([], [])
  | (i, x) :: r, j => bif Nat.beq j i then x else pmT r j
def ldT : List (Nat × LD) → Nat → LD
  | [], _ => ⟨[], [], 0⟩
  | (i, x) :: r, j => bif Nat.beq j i then x else ldT r j
def bodyOf (f : Func) : Code := match f.body with
  | some c => c
  | none => .skip

def orElseL (a : List XI) (b : List XI) : List XI := match a with
  | [] => b
  | _ => a
def findHead (id : Nat) : Nat → List XI → List XI
  | 0, _ => []
  | _ + 1, [] => []
  | f + 1, .code c :: k => match c with
    | .seq x y => findHead id f (.code x :: .code y :: k)
    | .cond _ x y => orElseL (findHead id f (.code x :: k)) (findHead id f (.code y :: k))
    | .block i x => orElseL (findHead id f (.code x :: .inBlock i :: k)) (findHead id f k)
    | .scope x => findHead id f (.code x :: k)
    | .loop body => bif Nat.beq (labOf k) id then .head body :: k else findHead id f (.code body :: .head body :: k)
    | .exit _ => []
    | .ret => []
    | _ => findHead id f k
  | _ + 1, .head _ :: _ => []
  | _ + 1, .inBlock _ :: _ => []
  | f + 1, _ :: k => findHead id f k
def headOf (fn : Func) (id : Nat) : List XI := findHead id 10000 [.code (bodyOf fn)]

/-! ### Contracts, gathered -/
def EsOk (P : Program) (es : List Ent) (el : List EntL := []) (il : List InlD := []) : Prop := (∀ e ∈ es, e.Ok P) ∧ (∀ e ∈ el, e.Ok P) ∧ ∀ d ∈ il, d.Ok P
theorem es_nil {P : Program} : EsOk P [] := ⟨fun e h => (by cases h), fun e h => (by cases h), fun e h => (by cases h)⟩
theorem es_cons {P : Program} {e : Ent} {es : List Ent} {el : List EntL} {il : List InlD} (h : e.Ok P) (hs : EsOk P es el il) : EsOk P (e :: es) el il := ⟨fun x hx => by
  rcases List.mem_cons.1 hx with rfl | hx
  · exact h
  · exact hs.1 x hx, hs.2⟩
end Go.AL
