/-
  THE EXECUTOR, FIFTH PART: contracts by kinds of arguments; the executor; it is sound. By an AI agent.
-/
import Derived.Test.YtbhnmholmpdmeaaGreatAxRen
import Derived.Test.YtbhnmholmpdmeaaGreatAlPart
import Derived.Test.YtbhnmholmpdmeaaGreatAlLent
import Derived.Test.YtbhnmholmpdmeaaGreatAlDraw7
namespace Go.AL
set_option linter.unusedVariables false
set_option linter.unusedSimpArgs false
set_option linter.unusedSectionVars false

/-! ### Arguments -/
inductive AK where
  | c (t : Ty)
  | g (τ : List Ty)
  | rd (τ : List Ty)
  | cp (τ : List Ty)
  | fn (f : FuncId) (caps : List (List Ty))
  | raw (v : Value)

def CapT : List (List Ty) → Type
  | [] => Unit
  | τ :: ts => CapT1 (RowT τ) ts
where
  CapT1 (A : Type) : List (List Ty) → Type
  | [] => A
  | τ :: ts => A × CapT1 (RowT τ) ts
def AK.T : AK → Type
  | .c t => t.T
  | .g τ => RowT τ
  | .rd τ => List (RowT τ)
  | .cp τ => RowT τ
  | .fn _ caps => CapT caps
  | .raw _ => Unit
def ArgT : List AK → Type
  | [] => Unit
  | k :: ks => ArgT1 k.T ks
where
  ArgT1 (A : Type) : List AK → Type
  | [] => A
  | k :: ks => A × ArgT1 k.T ks

def CapV1 {A : Type} (f : A → V → Prop) : (ts : List (List Ty)) → CapT.CapT1 A ts → List V → Prop
  | [], x, vs => ∃ v, vs = [v] ∧ f x v
  | τ :: ts, x, vs => ∃ v r, vs = v :: r ∧ f (Prod.fst x) v ∧ CapV1 (fun (y : RowT τ) v => ∃ row, v = .cp row 0 ∧ RowV τ y row) ts (Prod.snd x) r
def CapV : (ts : List (List Ty)) → CapT ts → List V → Prop
  | [], _, vs => vs = []
  | τ :: ts, x, vs => CapV1 (fun (y : RowT τ) v => ∃ row, v = .cp row 0 ∧ RowV τ y row) ts x vs

def ArgV : (k : AK) → k.T → V → Prop
  | .c t, x, v => TyV t x v
  | .g τ, x, v => ∃ row, v = .agg row ∧ RowV τ x row
  | .rd τ, l, v => ∃ rows, v = .rd rows ∧ RowsV τ l rows
  | .cp τ, x, v => ∃ row, v = .cp row 0 ∧ RowV τ x row
  | .fn f caps, x, v => ∃ vs, v = .fn f vs ∧ CapV caps x vs
  | .raw u, _, v => v = V.ofCell u
def ArgsV1 {A : Type} (f : A → V → Prop) : (ks : List AK) → ArgT.ArgT1 A ks → List V → Prop
  | [], x, vs => ∃ v, vs = [v] ∧ f x v
  | k :: ks, x, vs => ∃ v r, vs = v :: r ∧ f (Prod.fst x) v ∧ ArgsV1 (ArgV k) ks (Prod.snd x) r
def ArgsV : (ks : List AK) → ArgT ks → List V → Prop
  | [], _, vs => vs = []
  | k :: ks, x, vs => ArgsV1 (ArgV k) ks x vs

section
variable {H : Hps} (hobs : ∀ o xob, H.x o = some xob → xob.ver < H.c ∧ ∃ ob, H.v o = some ob ∧ XObV H xob ob)
include hobs

end

/-! ### Contracts -/
structure Ent where
  g : FuncId
  ad : List AK
  rk : List RK
  pre : ArgT ad → Bool
  fn : ArgT ad → ResT rk

def Ent.Ok (P : Program) (e : Ent) : Prop := ∀ a, e.pre a = true → ∀ vargs, ArgsV e.ad a vargs → FnP P e.g vargs (RessV e.rk (e.fn a))

/-! ### Contracts with a lent object: the first argument, a slice that the callee writes or takes; with 'two' the last argument too, a slice that is taken -/
structure EntL where
  g : FuncId
  mv : Bool
  two : Bool := false
  ty : Nat
  es : Nat
  τ : List Ty
  ad : List AK
  rk : List RK
  pre : List (RowT τ) → List (RowT τ) → ArgT ad → Bool
  fn : List (RowT τ) → List (RowT τ) → ArgT ad → ResT rk × List (RowT τ)

def EntL.Pd (e : EntL) (l l2 : List (RowT e.τ)) (a : ArgT e.ad) (rows : List (List V)) (rds : List RD) (outs : List (Option (List (List V)))) : Prop :=
  RessV e.rk (e.fn l l2 a).1 rds ∧ (if e.two then outs = [none, none] else if e.mv then outs = [none] else ∃ rows', outs = [some rows'] ∧ RowsV e.τ (e.fn l l2 a).2 rows' ∧ rows'.length = rows.length)
def EntL.Ok (P : Program) (e : EntL) : Prop :=
  if e.two then ∀ l l2 a, e.pre l l2 a = true → ∀ rows rows2 vargs, RowsV e.τ l rows → RowsV e.τ l2 rows2 → ArgsV e.ad a vargs →
    FnL P e.g (.ref 500 rows.length :: (vargs ++ [.ref 501 rows2.length])) [⟨e.ty, e.es, false, rows⟩, ⟨e.ty, e.es, false, rows2⟩] (e.Pd l l2 a rows)
  else ∀ l a, e.pre l [] a = true → ∀ rows vargs, RowsV e.τ l rows → ArgsV e.ad a vargs →
    FnL P e.g (.ref 500 rows.length :: vargs) [⟨e.ty, e.es, false, rows⟩] (e.Pd l [] a rows)

/-! ### One operation -/
/-! ### What a drawn operation must not look at -/
/-! ### Own slices, read as pure ones -/
def frzD (h : Nat → Option XOb) (σ : List Ty) : X → Option (List (RowT σ) × List Nat)
  | .ref p ver => match h p with
    | some (.t v _ _ τ l) => if hτ : tysEq τ σ = true then bif Nat.beq v ver then some (castL l hτ, [p]) else none else none
    | some (.u v _ _ imp rows) => bif Nat.beq v ver && !imp then (match rowsD σ rows with
      | some l => some (l, [p])
      | none => none) else none
    | none => none
  | x => match slOf σ x with
    | some l => some (l, [])
    | none => none

def noF {A : Type} (o : Option A) : Option (A × List Nat) := match o with
  | some a => some (a, [])
  | none => none

def sclD (h : Nat → Option XOb) (t : Ty) (x : X) : Option (t.T × List Nat) := match t with
  | .sl σ => frzD h σ x
  | .int k => noF (intOfX k x)
  | .bool => noF (boolOfX x)
  | .str => noF (strOfX x)

def pairF {A B : Type} (a : Option (A × List Nat)) (b : Option (B × List Nat)) : Option ((A × B) × List Nat) := match a with
  | some (a, f) => match b with
    | some (b, g) => some ((a, b), f ++ g)
    | none => none
  | none => none

def srowD1 {A : Type} (h : Nat → Option XOb) (f : X → Option (A × List Nat)) : (τ : List Ty) → List X → Option (RowT1 A τ × List Nat)
  | [] => fun xs => match xs with
    | [x] => f x
    | _ => none
  | t :: ts => fun xs => match xs with
    | x :: r => pairF (f x) (srowD1 h (sclD h t) ts r)
    | [] => none
def srowD (h : Nat → Option XOb) : (τ : List Ty) → List X → Option (RowT τ × List Nat)
  | [] => fun xs => match xs with
    | [] => some ((), [])
    | _ => none
  | t :: ts => fun xs => srowD1 h (sclD h t) ts xs


/-! ### Code -/
inductive XI where
  | code (c : Code)
  | ops (ops : Array Oper) (rest : List Oper)
  | opsD (ops : Array Oper) (perm : List (Nat × List Nat))
  | inBlock (id : Nat)
  | head (body : Code)

abbrev PM := Nat → List (Nat × List Nat) × List (Nat × Nat)

def codeOK (pm : PM) : Code → Bool
  | .seq x y => codeOK pm x && codeOK pm y
  | .cond _ x y => codeOK pm x && codeOK pm y
  | .block _ x => codeOK pm x
  | .scope x => codeOK pm x
  | .loop x => codeOK pm x
  | .region id ops true => tailOK ops (pm id).1.length && regionOK (cutO (pm id).1.length ops) (pm id).1 (pm id).2
  | _ => true

structure InlD where
  g : FuncId
  c : Code
  n : Nat
  pm : PM
  rs : List ResultVar
  fz : List (Nat × List Ty) := []
structure InlD.Ok (P : Program) (d : InlD) : Prop where
  ok : ∃ fn, P.funcs[d.g]? = some fn ∧ fn.body = some d.c ∧ fn.ntmps = d.n ∧ fn.results.toList = d.rs
  pm : codeOK d.pm d.c = true

structure Cfg where
  P : Program
  es : List Ent
  pm : PM
  n : Nat
  el : List EntL := []
  fz : List (Nat × List Ty) := []
  inl : List InlD := []
  ql : List Nat := []

end Go.AL
