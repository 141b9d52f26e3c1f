/-
  THE EXECUTOR, FOURTH PART: symbolic states. By an AI agent.
-/
import Derived.Test.YtbhnmholmpdmeaaGreatAxSim
namespace Go.AL
set_option linter.unusedVariables false
set_option linter.unusedSimpArgs false
set_option linter.unusedSectionVars false

def XSt.put (s : XSt) (d : Option Nat) (x : X) : XSt := match d with
  | some d => ⟨fun i => bif Nat.beq i d then x else s.t i, s.h, s.c⟩
  | none => s
def XSt.new (s : XSt) (d : Nat) (ob : XOb) (x : X) : XSt := ⟨fun i => bif Nat.beq i d then x else s.t i, fun p => bif Nat.beq p d then some ob else s.h p, s.c + 1⟩
def XSt.setOb (s : XSt) (o : Nat) (ob : XOb) : XSt := ⟨s.t, fun p => bif Nat.beq p o then some ob else s.h p, s.c⟩
def XSt.app (s : XSt) (o : Nat) (ob : XOb) : XSt := ⟨s.t, fun p => bif Nat.beq p o then some ob else s.h p, s.c + 1⟩
def XSt.kill (K : Nat → Bool) (s : XSt) : XSt := ⟨s.t, fun p => bif K p then none else s.h p, s.c⟩

theorem beq_if {α : Type} (a b : Nat) (x y : α) : (bif Nat.beq a b then x else y) = if a = b then x else y := by
  by_cases h : a = b
  · subst h; simp [Nat.beq_refl]
  · have : Nat.beq a b = false := by
      cases hb : Nat.beq a b with
      | false => rfl
      | true => exact absurd (Nat.eq_of_beq_eq_true hb) h
    simp [this, h]

section
variable {xs : XSt} {s : St} (R : RS xs s)
include R

theorem RS.obs (o : Nat) (xob : XOb) (h : xs.h o = some xob) : xob.ver < xs.c ∧ ∃ ob, s.h o = some ob ∧ XObV ⟨xs.c, xs.h, s.h⟩ xob ob := R.h o xob h

theorem RS.putR (d : Option Nat) {x : X} {v : V} (hv : XV ⟨xs.c, xs.h, s.h⟩ x v) : RS (xs.put d x) (s.put d v) := by
  cases d with
  | none => exact R
  | some d =>
    refine ⟨fun i => ?_, R.h⟩
    simp only [XSt.put, St.put, beq_if]
    split
    · exact hv
    · exact R.t i

omit R in
theorem XObV.frame {K : Nat → Bool} {H H' : Hps} (L : HLe K H H') {xob : XOb} {ob : Ob} (h : XObV H xob ob) : XObV H' xob (ob.kill K) := by
  cases xob with
  | t ver ty es τ l =>
    obtain ⟨h1, h2, h3, h4⟩ := h
    have : ob.kill K = ob := by simp [Ob.kill, h3]
    rw [this]
    exact ⟨h1, h2, h3, h4⟩
  | u ver ty es imp rows =>
    obtain ⟨h1, h2, h3, h4⟩ := h
    refine ⟨by rw [Ob.kill_ty]; exact h1, by rw [Ob.kill_es]; exact h2, by rw [Ob.kill_imp]; exact h3, ?_⟩
    unfold Ob.kill
    split
    · have : ∀ {a : List (List X)} {b : List (List V)}, All2 (XVs H) a b → All2 (XVs H') a (b.map (·.map (V.kill1 K))) := by
        intro a
        induction a with
        | nil => intro b h; cases b with
          | nil => trivial
          | cons _ _ => exact h.elim
        | cons x a ih => intro b h; cases b with
          | nil => exact h.elim
          | cons y b => exact ⟨XVs.kill1 L _ _ h.1, ih h.2⟩
      exact this h4
    · exact All2.mono (fun a b h => XVs.frame L a b h) h4

end

/-! ### Results of a call -/
inductive RK where
  | v (t : Ty)
  | g (τ : List Ty)
  | o (ty es : Nat) (τ : List Ty)
  | a (ty es j : Nat) (τ : List Ty)

def RK.T : RK → Type
  | .v t => t.T
  | .g τ => RowT τ
  | .o _ _ τ => List (RowT τ)
  | .a _ _ _ τ => RowT τ
def ResT : List RK → Type
  | [] => Unit
  | k :: ks => ResT1 k.T ks
where
  ResT1 (A : Type) : List RK → Type
  | [] => A
  | k :: ks => A × ResT1 k.T ks

def ResV : (k : RK) → k.T → RD → Prop
  | .v t, x, rd => ∃ y, rd = .v y ∧ TyV t x y
  | .g τ, x, rd => ∃ row, rd = .v (.agg row) ∧ RowV τ x row
  | .o ty es τ, l, rd => ∃ rows, rd = .o ty es rows ∧ RowsV τ l rows
  | .a ty es j τ, x, rd => ∃ pre rows post, rd = .a ty es rows pre post ∧ pre.length = j ∧ RowV τ x (pre ++ .sl rows :: post)
def RessV1 {A : Type} (f : A → RD → Prop) : (ks : List RK) → ResT.ResT1 A ks → List RD → Prop
  | [], x, rds => ∃ rd, rds = [rd] ∧ f x rd
  | k :: ks, x, rds => ∃ rd r, rds = rd :: r ∧ f (Prod.fst x) rd ∧ RessV1 (ResV k) ks (Prod.snd x) r
def RessV : (ks : List RK) → ResT ks → List RD → Prop
  | [], _, rds => rds = []
  | k :: ks, x, rds => RessV1 (ResV k) ks x rds

def resX (c d : Nat) : (k : RK) → k.T → X
  | .v t, x => cellX t x
  | .g τ, x => .agg false (rowX τ x)
  | .o _ _ _, _ => .ref d c
  | .a _ _ j τ, x => .agg true ((rowX τ x).set j (.ref d c))
def resO (c : Nat) : (k : RK) → k.T → Option XOb
  | .v _, _ => none
  | .g _, _ => none
  | .o ty es τ, l => some (.t c ty es τ l)
  | .a ty es j τ, x => match (rowX τ x)[j]? with
    | some (.sl σ l) => some (.t c ty es σ l)
    | _ => none
def resXs1 {A : Type} (c d : Nat) (f : Nat → A → X) : (ks : List RK) → ResT.ResT1 A ks → List X
  | [], x => [f d x]
  | k :: ks, x => f d (Prod.fst x) :: resXs1 c (d + 1000) (fun d => resX c d k) ks (Prod.snd x)
def resXs (c d : Nat) : (ks : List RK) → ResT ks → List X
  | [], _ => []
  | k :: ks, x => resXs1 c d (fun d => resX c d k) ks x
def resOs1 {A : Type} (c : Nat) (f : A → Option XOb) : (ks : List RK) → ResT.ResT1 A ks → List (Option XOb)
  | [], x => [f x]
  | k :: ks, x => f (Prod.fst x) :: resOs1 c (resO c k) ks (Prod.snd x)
def resOs (c : Nat) : (ks : List RK) → ResT ks → List (Option XOb)
  | [], _ => []
  | k :: ks, x => resOs1 c (resO c k) ks x

def packX : List X → X
  | [x] => x
  | xs => .tup xs

def hCall (h : Nat → Option XOb) : Nat → List (Option XOb) → Nat → Option XOb
  | _, [] => h
  | d, ob :: obs => fun p => bif Nat.beq p d then ob else hCall h (d + 1000) obs p

def XSt.call (s : XSt) (dst : Option Nat) (ks : List RK) (r : ResT ks) : XSt := match dst with
  | some d => ⟨fun i => bif Nat.beq i d then packX (resXs s.c d ks r) else s.t i, hCall s.h d (resOs s.c ks r), s.c + 1⟩
  | none => s

/-! ### A call's results, related -/
theorem xvs_set {H : Hps} : ∀ {cs : List X} {vs : List V} {j : Nat} {x : X} {v : V}, XVs H cs vs → XV H x v → XVs H (cs.set j x) (vs.set j v)
  | [], vs, j, x, v, h, hx => by simp only [XVs] at h; subst h; simp only [List.set_nil, XVs]
  | y :: cs, vs, 0, x, v, h, hx => by
    simp only [XVs] at h
    obtain ⟨u, r, rfl, h1, h2⟩ := h
    simp only [List.set_cons_zero, XVs]
    exact ⟨v, r, rfl, hx, h2⟩
  | y :: cs, vs, j + 1, x, v, h, hx => by
    simp only [XVs] at h
    obtain ⟨u, r, rfl, h1, h2⟩ := h
    simp only [List.set_cons_succ, XVs]
    exact ⟨u, r.set j v, rfl, h1, xvs_set h2 hx⟩

end Go.AL
