/-
  THE EXECUTOR, FIRST PART: typed symbolic values, and how they stand to the abstract ones. No program in sight. By an AI agent.
-/
import Derived.Test.YtbhnmholmpdmeaaGreatAlFn
namespace Go.AL
set_option linter.unusedVariables false
set_option linter.unusedSimpArgs false
set_option linter.unusedSectionVars false

def All2 {A B : Type} (R : A → B → Prop) : List A → List B → Prop
  | [], [] => True
  | a :: as, b :: bs => R a b ∧ All2 R as bs
  | _, _ => False

theorem All2.len {A B : Type} {R : A → B → Prop} : ∀ {as : List A} {bs : List B}, All2 R as bs → as.length = bs.length
  | [], [], _ => rfl
  | a :: as, b :: bs, h => by simp [All2.len h.2]
  | [], _ :: _, h => h.elim
  | _ :: _, [], h => h.elim
theorem All2.get {A B : Type} {R : A → B → Prop} : ∀ {as : List A} {bs : List B}, All2 R as bs → ∀ (i : Nat) (a : A), as[i]? = some a → ∃ b, bs[i]? = some b ∧ R a b
  | [], [], _, i, a, h => by simp at h
  | a :: as, b :: bs, h, 0, x, hx => by simp at hx; subst hx; exact ⟨b, rfl, h.1⟩
  | a :: as, b :: bs, h, i + 1, x, hx => by
    obtain ⟨y, h1, h2⟩ := All2.get h.2 i x (by simpa using hx)
    exact ⟨y, by simpa using h1, h2⟩
  | [], _ :: _, h, _, _, _ => h.elim
  | _ :: _, [], h, _, _, _ => h.elim
theorem All2.getB {A B : Type} {R : A → B → Prop} : ∀ {as : List A} {bs : List B}, All2 R as bs → ∀ (i : Nat) (b : B), bs[i]? = some b → ∃ a, as[i]? = some a ∧ R a b
  | [], [], _, i, a, h => by simp at h
  | a :: as, b :: bs, h, 0, x, hx => by simp at hx; subst hx; exact ⟨a, rfl, h.1⟩
  | a :: as, b :: bs, h, i + 1, x, hx => by
    obtain ⟨y, h1, h2⟩ := All2.getB h.2 i x (by simpa using hx)
    exact ⟨y, by simpa using h1, h2⟩
  | [], _ :: _, h, _, _, _ => h.elim
  | _ :: _, [], h, _, _, _ => h.elim
theorem All2.app {A B : Type} {R : A → B → Prop} {cs : List A} {ds : List B} (h2 : All2 R cs ds) : ∀ {as : List A} {bs : List B}, All2 R as bs → All2 R (as ++ cs) (bs ++ ds)
  | [], [], _ => h2
  | a :: as, b :: bs, h => ⟨h.1, All2.app h2 h.2⟩
  | [], _ :: _, h => h.elim
  | _ :: _, [], h => h.elim
theorem All2.take {A B : Type} {R : A → B → Prop} : ∀ (n : Nat) {as : List A} {bs : List B}, All2 R as bs → All2 R (as.take n) (bs.take n)
  | 0, _, _, _ => by simp [All2]
  | n + 1, [], [], _ => trivial
  | n + 1, a :: as, b :: bs, h => ⟨h.1, All2.take n h.2⟩
  | _ + 1, [], _ :: _, h => h.elim
  | _ + 1, _ :: _, [], h => h.elim
theorem All2.drop {A B : Type} {R : A → B → Prop} : ∀ (n : Nat) {as : List A} {bs : List B}, All2 R as bs → All2 R (as.drop n) (bs.drop n)
  | 0, _, _, h => h
  | n + 1, [], [], _ => trivial
  | n + 1, a :: as, b :: bs, h => All2.drop n h.2
  | _ + 1, [], _ :: _, h => h.elim
  | _ + 1, _ :: _, [], h => h.elim
theorem All2.set {A B : Type} {R : A → B → Prop} {x : A} {y : B} (hxy : R x y) : ∀ (n : Nat) {as : List A} {bs : List B}, All2 R as bs → All2 R (as.set n x) (bs.set n y)
  | _, [], [], _ => trivial
  | 0, a :: as, b :: bs, h => ⟨hxy, h.2⟩
  | n + 1, a :: as, b :: bs, h => ⟨h.1, All2.set hxy n h.2⟩
  | _, [], _ :: _, h => h.elim
  | _, _ :: _, [], h => h.elim
theorem All2.mono {A B : Type} {R S : A → B → Prop} (hRS : ∀ a b, R a b → S a b) : ∀ {as : List A} {bs : List B}, All2 R as bs → All2 S as bs
  | [], [], _ => trivial
  | a :: as, b :: bs, h => ⟨hRS _ _ h.1, All2.mono hRS h.2⟩
  | [], _ :: _, h => h.elim
  | _ :: _, [], h => h.elim

inductive Ty where
  | int (k : IntKind)
  | bool
  | str
  | sl (cs : List Ty)

mutual
def Ty.T : Ty → Type
  | .int _ => Int
  | .bool => Bool
  | .str => ByteArray
  | .sl cs => List (RowT cs)
def RowT : List Ty → Type
  | [] => Unit
  | t :: ts => RowT1 t.T ts
def RowT1 (A : Type) : List Ty → Type
  | [] => A
  | t :: ts => A × RowT1 t.T ts
end

example : RowT [.int .i64, .bool, .sl [.int .i64]] = (Int × Bool × List Int) := rfl

def IntKind.eq : IntKind → IntKind → Bool
  | .i8, .i8 | .i16, .i16 | .i32, .i32 | .i64, .i64 | .u8, .u8 | .u16, .u16 | .u32, .u32 | .u64, .u64 => true
  | _, _ => false
theorem IntKind.eq_of {a b : IntKind} (h : IntKind.eq a b = true) : a = b := by cases a <;> cases b <;> first | rfl | cases h

mutual
def Ty.eq : Ty → Ty → Bool
  | .int k, .int k' => IntKind.eq k k'
  | .bool, .bool => true
  | .str, .str => true
  | .sl a, .sl b => tysEq a b
  | _, _ => false
def tysEq : List Ty → List Ty → Bool
  | [], [] => true
  | a :: as, b :: bs => Ty.eq a b && tysEq as bs
  | _, _ => false
end
mutual
theorem Ty.eq_of : ∀ {a b : Ty}, Ty.eq a b = true → a = b
  | .int k, .int k', h => by
    simp only [Ty.eq] at h
    have := IntKind.eq_of h
    subst this; rfl
  | .bool, .bool, _ => rfl
  | .str, .str, _ => rfl
  | .sl a, .sl b, h => by
    simp only [Ty.eq] at h
    have := tysEq_of h
    subst this; rfl
  | .int _, .bool, h => by simp [Ty.eq] at h
  | .int _, .str, h => by simp [Ty.eq] at h
  | .int _, .sl _, h => by simp [Ty.eq] at h
  | .bool, .int _, h => by simp [Ty.eq] at h
  | .bool, .str, h => by simp [Ty.eq] at h
  | .bool, .sl _, h => by simp [Ty.eq] at h
  | .str, .int _, h => by simp [Ty.eq] at h
  | .str, .bool, h => by simp [Ty.eq] at h
  | .str, .sl _, h => by simp [Ty.eq] at h
  | .sl _, .int _, h => by simp [Ty.eq] at h
  | .sl _, .bool, h => by simp [Ty.eq] at h
  | .sl _, .str, h => by simp [Ty.eq] at h
theorem tysEq_of : ∀ {a b : List Ty}, tysEq a b = true → a = b
  | [], [], _ => rfl
  | a :: as, b :: bs, h => by
    simp only [tysEq, Bool.and_eq_true] at h
    have h1 := Ty.eq_of h.1
    have h2 := tysEq_of h.2
    subst h1 h2; rfl
  | [], _ :: _, h => by simp [tysEq] at h
  | _ :: _, [], h => by simp [tysEq] at h
end

inductive X where
  | int (k : IntKind) (n : Int)
  | bool (b : Bool)
  | str (s : ByteArray)
  | nil
  | sl (τ : List Ty) (l : List (RowT τ))
  | rd (τ : List Ty) (l : List (RowT τ))
  | ref (o ver : Nat)
  | ptr (o ver i j : Nat)
  | cp (row : List X) (j : Nat)
  | agg (imp : Bool) (cs : List X)
  | tup (vs : List X)
  | raw (v : Value)
  | fn (f : FuncId) (caps : List X)
  | dead

inductive XOb where
  | t (ver ty es : Nat) (τ : List Ty) (l : List (RowT τ))
  | u (ver ty es : Nat) (imp : Bool) (rows : List (List X))

def XOb.ver : XOb → Nat
  | .t v .. => v
  | .u v .. => v

structure XSt where
  t : Nat → X
  h : Nat → Option XOb
  c : Nat

/-! ### How they stand to the abstract values -/
mutual
def TyV : (t : Ty) → t.T → V → Prop
  | .int k, n, v => v = .int k n
  | .bool, b, v => v = .bool b
  | .str, s, v => v = .str s
  | .sl cs, l, v => ((l : List (RowT cs)) = [] ∧ v = .nil) ∨ ∃ rows, v = .sl rows ∧ All2 (RowV cs) l rows
def RowV : (τ : List Ty) → RowT τ → List V → Prop
  | [], _, row => row = []
  | t :: ts, x, row => RowV1 (TyV t) ts x row
def RowV1 {A : Type} (R : A → V → Prop) : (τ : List Ty) → RowT1 A τ → List V → Prop
  | [], x, row => ∃ v, row = [v] ∧ R x v
  | t :: ts, x, row => ∃ v r, row = v :: r ∧ R (Prod.fst x) v ∧ RowV1 (TyV t) ts (Prod.snd x) r
end

def RowsV (τ : List Ty) (l : List (RowT τ)) (rows : List (List V)) : Prop := All2 (RowV τ) l rows

structure Hps where
  c : Nat
  x : Nat → Option XOb
  v : Nat → Option Ob

def X.curP (H : Hps) : X → Prop
  | .ref o ver => ∃ xob, H.x o = some xob ∧ xob.ver = ver
  | .ptr o ver _ _ => ∃ xob, H.x o = some xob ∧ xob.ver = ver
  | _ => True

def X.capG (c : Nat) : X → Prop
  | .ref _ _ => False
  | .fn _ _ => False
  | .dead => False
  | .ptr _ ver _ _ => ver < c
  | _ => True
theorem X.capG_mono {c c' : Nat} (h : c ≤ c') {x : X} (hx : x.capG c) : x.capG c' := by
  cases x <;> simp only [X.capG] at hx ⊢
  exact Nat.lt_of_lt_of_le hx h

mutual
def XV (H : Hps) : X → V → Prop
  | .int k n, v => v = .int k n
  | .bool b, v => v = .bool b
  | .str s, v => v = .str s
  | .nil, v => v = .nil
  | .sl τ l, v => (l = [] ∧ v = .nil) ∨ ∃ rows, v = .sl rows ∧ RowsV τ l rows
  | .rd τ l, v => ∃ rows, v = .rd rows ∧ RowsV τ l rows
  | .ref o ver, v => ver < H.c ∧ ∀ xob, H.x o = some xob → xob.ver = ver → ∃ ob, H.v o = some ob ∧ v = .ref o ob.rows.length
  | .ptr o ver i j, v => ver < H.c ∧ ∀ xob, H.x o = some xob → xob.ver = ver → ∃ ob, H.v o = some ob ∧ i < ob.rows.length ∧ v = .ptr o ob.rows.length i j
  | .cp row j, v => ∃ vs, v = .cp vs j ∧ XVs H row vs
  | .agg imp cs, v => ∃ vs, v = mkAgg imp vs ∧ XVs H cs vs
  | .tup xs, v => ∃ vs, v = .tup vs ∧ XVs H xs vs
  | .raw u, v => v = .raw u
  | .fn f caps, v => (∀ x ∈ caps, x.capG H.c) ∧ ((∀ x ∈ caps, x.curP H) → ∃ vs, v = .fn f vs ∧ XVs H caps vs)
  | .dead, _ => True
def XVs (H : Hps) : List X → List V → Prop
  | [], vs => vs = []
  | x :: xs, vs => ∃ v r, vs = v :: r ∧ XV H x v ∧ XVs H xs r
end

def XObV (H : Hps) : XOb → Ob → Prop
  | .t _ ty es τ l, ob => ob.ty = ty ∧ ob.es = es ∧ ob.imp = false ∧ RowsV τ l ob.rows
  | .u _ ty es imp rows, ob => ob.ty = ty ∧ ob.es = es ∧ ob.imp = imp ∧ All2 (XVs H) rows ob.rows

structure RS (xs : XSt) (s : St) : Prop where
  t : ∀ i, XV ⟨xs.c, xs.h, s.h⟩ (xs.t i) (s.t i)
  h : ∀ o xob, xs.h o = some xob → xob.ver < xs.c ∧ ∃ ob, s.h o = some ob ∧ XObV ⟨xs.c, xs.h, s.h⟩ xob ob

/-! ### The cells of a typed row -/
def cellX : (t : Ty) → t.T → X
  | .int k, n => .int k n
  | .bool, b => .bool b
  | .str, s => .str s
  | .sl cs, l => .sl cs l
def rowX1 {A : Type} (f : A → X) : (τ : List Ty) → RowT1 A τ → List X
  | [], x => [f x]
  | t :: ts, x => f (Prod.fst x) :: rowX1 (cellX t) ts (Prod.snd x)
def rowX : (τ : List Ty) → RowT τ → List X
  | [], _ => []
  | t :: ts, x => rowX1 (cellX t) ts x

def cellZ : (t : Ty) → t.T
  | .int _ => (0 : Int)
  | .bool => false
  | .str => ByteArray.empty
  | .sl _ => []
def rowZ1 {A : Type} (a : A) : (τ : List Ty) → RowT1 A τ
  | [] => a
  | t :: ts => (a, rowZ1 (cellZ t) ts)
def rowZ : (τ : List Ty) → RowT τ
  | [] => ()
  | t :: ts => rowZ1 (cellZ t) ts

theorem cell_xv {H : Hps} : ∀ (t : Ty) (x : t.T) (v : V), TyV t x v → XV H (cellX t x) v
  | .int k, n, v, h => by simpa [cellX, XV, TyV] using h
  | .bool, b, v, h => by simpa [cellX, XV, TyV] using h
  | .str, s, v, h => by simpa [cellX, XV, TyV] using h
  | .sl cs, l, v, h => by
    simp only [TyV] at h
    simp only [cellX, XV, RowsV]
    exact h

theorem row1_xv {H : Hps} {A : Type} {R : A → V → Prop} {f : A → X} (hf : ∀ x v, R x v → XV H (f x) v) : ∀ (τ : List Ty) (x : RowT1 A τ) (row : List V), RowV1 R τ x row → XVs H (rowX1 f τ x) row
  | [], x, row, h => by
    simp only [RowV1] at h
    obtain ⟨v, rfl, hv⟩ := h
    simp only [rowX1, XVs]
    exact ⟨v, [], rfl, hf _ _ hv, rfl⟩
  | t :: ts, x, row, h => by
    simp only [RowV1] at h
    obtain ⟨v, r, rfl, hv, hr⟩ := h
    simp only [rowX1, XVs]
    exact ⟨v, r, rfl, hf _ _ hv, row1_xv (cell_xv t) ts _ r hr⟩

theorem row_xv {H : Hps} : ∀ (τ : List Ty) (x : RowT τ) (row : List V), RowV τ x row → XVs H (rowX τ x) row
  | [], x, row, h => by simp only [RowV] at h; simp only [rowX, XVs]; exact h
  | t :: ts, x, row, h => by simp only [RowV] at h; simp only [rowX]; exact row1_xv (cell_xv t) ts x row h

/-! ### Reading typed rows off cells -/
def castL {τ σ : List Ty} (l : List (RowT τ)) (h : tysEq τ σ = true) : List (RowT σ) := (tysEq_of h) ▸ l

def slOf (σ : List Ty) (x : X) : Option (List (RowT σ)) := match x with
  | .sl τ l => if h : tysEq τ σ = true then some (castL l h) else none
  | .nil => some []
  | _ => none

def intOfX (k : IntKind) (x : X) : Option Int := match x with
  | .int k' n => bif IntKind.eq k' k then some n else none
  | _ => none
def boolOfX (x : X) : Option Bool := match x with
  | .bool b => some b
  | _ => none
def strOfX (x : X) : Option ByteArray := match x with
  | .str b => some b
  | _ => none

def cellD (t : Ty) (x : X) : Option t.T := match t with
  | .int k => intOfX k x
  | .bool => boolOfX x
  | .str => strOfX x
  | .sl cs => slOf cs x

def pairO {A B : Type} (a : Option A) (b : Option B) : Option (A × B) := match a with
  | some a => match b with
    | some b => some (a, b)
    | none => none
  | none => none

def rowD1 {A : Type} (f : X → Option A) : (τ : List Ty) → List X → Option (RowT1 A τ)
  | [] => fun xs => match xs with
    | [x] => f x
    | _ => none
  | t :: ts => fun xs => match xs with
    | x :: r => pairO (f x) (rowD1 (cellD t) ts r)
    | [] => none
def rowD : (τ : List Ty) → List X → Option (RowT τ)
  | [] => fun xs => match xs with
    | [] => some ()
    | _ => none
  | t :: ts => fun xs => rowD1 (cellD t) ts xs

def consO {A : Type} (a : Option A) (b : Option (List A)) : Option (List A) := match a with
  | some a => match b with
    | some b => some (a :: b)
    | none => none
  | none => none
def rowsD (τ : List Ty) : List (List X) → Option (List (RowT τ))
  | [] => some []
  | r :: rs => consO (rowD τ r) (rowsD τ rs)

theorem castL_rows {τ σ : List Ty} (l : List (RowT τ)) (h : tysEq τ σ = true) (rows : List (List V)) : RowsV σ (castL l h) rows ↔ RowsV τ l rows := by
  have := tysEq_of h
  subst this
  exact Iff.rfl

theorem castL_nil {τ σ : List Ty} (l : List (RowT τ)) (h : tysEq τ σ = true) : castL l h = [] ↔ l = [] := by
  have := tysEq_of h
  subst this
  exact Iff.rfl

theorem slOf_ok {H : Hps} {σ : List Ty} {x : X} {l : List (RowT σ)} {v : V} (hx : slOf σ x = some l) (hv : XV H x v) : (l = [] ∧ v = .nil) ∨ ∃ rows, v = .sl rows ∧ RowsV σ l rows := by
  cases x <;> simp only [slOf] at hx <;> try (cases hx; done)
  · have := Option.some.inj hx
    subst this
    exact .inl ⟨rfl, by simpa only [XV] using hv⟩
  · split at hx <;> try (cases hx; done)
    rename_i h
    have := Option.some.inj hx
    subst this
    simp only [XV] at hv
    rcases hv with ⟨h1, h2⟩ | ⟨rows, h1, h2⟩
    · exact .inl ⟨(castL_nil _ h).2 h1, h2⟩
    · exact .inr ⟨rows, h1, (castL_rows _ h rows).2 h2⟩

theorem intOfX_ok {k : IntKind} {x : X} {n : Int} (h : intOfX k x = some n) : x = .int k n := by
  cases x <;> simp only [intOfX] at h <;> try (cases h; done)
  rename_i k' m
  cases hk : IntKind.eq k' k with
  | false => rw [hk] at h; cases h
  | true =>
    rw [hk] at h
    cases h
    rw [IntKind.eq_of hk]
theorem boolOfX_ok {x : X} {b : Bool} (h : boolOfX x = some b) : x = .bool b := by
  cases x <;> simp only [boolOfX] at h <;> first | (cases h; done) | (cases h; rfl)
theorem strOfX_ok {x : X} {b : ByteArray} (h : strOfX x = some b) : x = .str b := by
  cases x <;> simp only [strOfX] at h <;> first | (cases h; done) | (cases h; rfl)

theorem cellD_ok {H : Hps} (t : Ty) (x : X) (y : t.T) (v : V) (h : cellD t x = some y) (hv : XV H x v) : TyV t y v := by
  cases t with
  | int k => have := intOfX_ok h; subst this; simp only [XV] at hv; simp only [TyV]; exact hv
  | bool => have := boolOfX_ok h; subst this; simp only [XV] at hv; simp only [TyV]; exact hv
  | str => have := strOfX_ok h; subst this; simp only [XV] at hv; simp only [TyV]; exact hv
  | sl cs => have := slOf_ok (σ := cs) h hv; simp only [TyV]; exact this

theorem pairO_some {A B : Type} {a : Option A} {b : Option B} {p : A × B} (h : pairO a b = some p) : a = some p.1 ∧ b = some p.2 := by
  cases a <;> cases b <;> simp [pairO] at h
  subst h; exact ⟨rfl, rfl⟩

theorem rowD1_ok {H : Hps} {A : Type} {f : X → Option A} {R : A → V → Prop} (hf : ∀ x y v, f x = some y → XV H x v → R y v) : ∀ (τ : List Ty) (xs : List X) (y : RowT1 A τ) (vs : List V), rowD1 f τ xs = some y → XVs H xs vs → RowV1 R τ y vs
  | [], xs, y, vs, h, hv => by
    match xs, h, hv with
    | [x], h, hv =>
      have h : f x = some y := h
      simp only [XVs] at hv
      obtain ⟨v, r, rfl, h1, rfl⟩ := hv
      simp only [RowV1]
      exact ⟨v, rfl, hf _ _ _ h h1⟩
  | t :: ts, xs, y, vs, h, hv => by
    match xs, h, hv with
    | x :: r, h, hv =>
      have h : pairO (f x) (rowD1 (cellD t) ts r) = some y := h
      obtain ⟨ha, hr⟩ := pairO_some h
      simp only [XVs] at hv
      obtain ⟨v, r', rfl, h1, h2⟩ := hv
      simp only [RowV1]
      exact ⟨v, r', rfl, hf _ _ _ ha h1, rowD1_ok (cellD_ok t) ts r _ r' hr h2⟩

theorem rowD_ok {H : Hps} (τ : List Ty) (xs : List X) (y : RowT τ) (vs : List V) (h : rowD τ xs = some y) (hv : XVs H xs vs) : RowV τ y vs := by
  cases τ with
  | nil =>
    match xs, h, hv with
    | [], h, hv => simp only [XVs] at hv; simp only [RowV]; exact hv
  | cons t ts =>
    simp only [RowV]
    exact rowD1_ok (cellD_ok t) ts xs y vs h hv

/-! ### Frames -/
structure HLe (K : Nat → Bool) (H H' : Hps) : Prop where
  c : H.c ≤ H'.c
  o : ∀ o xob', H'.x o = some xob' → xob'.ver < H.c → K o = false ∧ (∃ xob, H.x o = some xob ∧ xob.ver = xob'.ver) ∧ ∀ ob, H.v o = some ob → ∃ ob', H'.v o = some ob' ∧ ob'.rows.length = ob.rows.length

theorem curP_frame {K : Nat → Bool} {H H' : Hps} (L : HLe K H H') {x : X} (hc : ∀ o ver i j, x = .ptr o ver i j → ver < H.c) (hr : ∀ o ver, x = .ref o ver → ver < H.c) (h : x.curP H') : x.curP H := by
  cases x <;> simp only [X.curP] at h ⊢
  · obtain ⟨xob', h1, h2⟩ := h
    obtain ⟨_, ⟨xob, h3, h4⟩, _⟩ := L.o _ xob' h1 (by rw [h2]; exact hr _ _ rfl)
    exact ⟨xob, h3, by rw [h4, h2]⟩
  · obtain ⟨xob', h1, h2⟩ := h
    obtain ⟨_, ⟨xob, h3, h4⟩, _⟩ := L.o _ xob' h1 (by rw [h2]; exact hc _ _ _ _ rfl)
    exact ⟨xob, h3, by rw [h4, h2]⟩

mutual
theorem XV.frame {K : Nat → Bool} {H H' : Hps} (L : HLe K H H') : ∀ (x : X) (v : V), XV H x v → XV H' x v
  | .int k n, v, h => by simpa only [XV] using h
  | .bool b, v, h => by simpa only [XV] using h
  | .str s, v, h => by simpa only [XV] using h
  | .nil, v, h => by simpa only [XV] using h
  | .sl τ l, v, h => by simpa only [XV] using h
  | .rd τ l, v, h => by simpa only [XV] using h
  | .raw u, v, h => by simpa only [XV] using h
  | .dead, v, h => by simp only [XV]
  | .ref o ver, v, h => by
    simp only [XV] at h ⊢
    refine ⟨Nat.lt_of_lt_of_le h.1 L.c, fun xob' h1 h2 => ?_⟩
    obtain ⟨_, ⟨xob, h3, h4⟩, h5⟩ := L.o o xob' h1 (by rw [h2]; exact h.1)
    obtain ⟨ob, h6, h7⟩ := h.2 xob h3 (by rw [h4, h2])
    obtain ⟨ob', h8, h9⟩ := h5 ob h6
    exact ⟨ob', h8, by rw [h7, h9]⟩
  | .ptr o ver i j, v, h => by
    simp only [XV] at h ⊢
    refine ⟨Nat.lt_of_lt_of_le h.1 L.c, fun xob' h1 h2 => ?_⟩
    obtain ⟨_, ⟨xob, h3, h4⟩, h5⟩ := L.o o xob' h1 (by rw [h2]; exact h.1)
    obtain ⟨ob, h6, h10, h7⟩ := h.2 xob h3 (by rw [h4, h2])
    obtain ⟨ob', h8, h9⟩ := h5 ob h6
    exact ⟨ob', h8, by rw [h9]; exact h10, by rw [h7, h9]⟩
  | .cp row j, v, h => by
    simp only [XV] at h ⊢
    obtain ⟨vs, h1, h2⟩ := h
    exact ⟨vs, h1, XVs.frame L row vs h2⟩
  | .agg imp cs, v, h => by
    simp only [XV] at h ⊢
    obtain ⟨vs, h1, h2⟩ := h
    exact ⟨vs, h1, XVs.frame L cs vs h2⟩
  | .tup cs, v, h => by
    simp only [XV] at h ⊢
    obtain ⟨vs, h1, h2⟩ := h
    exact ⟨vs, h1, XVs.frame L cs vs h2⟩
  | .fn f caps, v, h => by
    simp only [XV] at h ⊢
    refine ⟨fun x hx => X.capG_mono L.c (h.1 x hx), fun hc => ?_⟩
    obtain ⟨vs, h1, h2⟩ := h.2 fun x hx => curP_frame L (fun o ver i j e => by have := h.1 x hx; rw [e] at this; exact this) (fun o ver e => by have := h.1 x hx; rw [e] at this; exact this.elim) (hc x hx)
    exact ⟨vs, h1, XVs.frame L caps vs h2⟩
theorem XVs.frame {K : Nat → Bool} {H H' : Hps} (L : HLe K H H') : ∀ (xs : List X) (vs : List V), XVs H xs vs → XVs H' xs vs
  | [], vs, h => by simpa only [XVs] using h
  | x :: xs, vs, h => by
    simp only [XVs] at h ⊢
    obtain ⟨v, r, h1, h2, h3⟩ := h
    exact ⟨v, r, h1, XV.frame L x v h2, XVs.frame L xs r h3⟩
end

theorem XV.kill1 {K : Nat → Bool} {H H' : Hps} (L : HLe K H H') (x : X) (v : V) (h : XV H x v) : XV H' x (v.kill1 K) := by
  have h1 := XV.frame L x v h
  cases v with
  | ref p n =>
    simp only [V.kill1]
    split
    · rename_i hp
      cases x <;> simp only [XV] at h1 h ⊢ <;> try (cases h1; done)
      · rcases h1 with ⟨_, h1⟩ | ⟨_, h1, _⟩ <;> cases h1
      · obtain ⟨_, h1, _⟩ := h1; cases h1
      · refine ⟨h1.1, fun xob' h2 h3 => ?_⟩
        obtain ⟨_, h4, h5⟩ := h1.2 xob' h2 h3
        cases h5
        rw [(L.o _ xob' h2 (by rw [h3]; exact h.1)).1] at hp
        cases hp
      · refine ⟨h1.1, fun xob' h2 h3 => ?_⟩
        obtain ⟨_, h4, _, h5⟩ := h1.2 xob' h2 h3
        cases h5
      · obtain ⟨_, h1, _⟩ := h1; cases h1
      · obtain ⟨_, h1, _⟩ := h1
        rename_i imp _ _ _
        cases imp <;> cases h1
      · obtain ⟨_, h1, _⟩ := h1; cases h1
      · refine ⟨h1.1, fun hc => ?_⟩
        obtain ⟨_, h2, _⟩ := h1.2 hc
        cases h2
    · exact h1
  | ptr p n i j =>
    simp only [V.kill1]
    split
    · rename_i hp
      cases x <;> simp only [XV] at h1 h ⊢ <;> try (cases h1; done)
      · rcases h1 with ⟨_, h1⟩ | ⟨_, h1, _⟩ <;> cases h1
      · obtain ⟨_, h1, _⟩ := h1; cases h1
      · refine ⟨h1.1, fun xob' h2 h3 => ?_⟩
        obtain ⟨_, h4, h5⟩ := h1.2 xob' h2 h3
        cases h5
      · refine ⟨h1.1, fun xob' h2 h3 => ?_⟩
        obtain ⟨_, h4, _, h5⟩ := h1.2 xob' h2 h3
        cases h5
        rw [(L.o _ xob' h2 (by rw [h3]; exact h.1)).1] at hp
        cases hp
      · obtain ⟨_, h1, _⟩ := h1; cases h1
      · obtain ⟨_, h1, _⟩ := h1
        rename_i imp _ _ _
        cases imp <;> cases h1
      · obtain ⟨_, h1, _⟩ := h1; cases h1
      · refine ⟨h1.1, fun hc => ?_⟩
        obtain ⟨_, h2, _⟩ := h1.2 hc
        cases h2
    · exact h1
  | _ => exact h1

theorem XVs.kill1 {K : Nat → Bool} {H H' : Hps} (L : HLe K H H') : ∀ (xs : List X) (vs : List V), XVs H xs vs → XVs H' xs (vs.map (V.kill1 K))
  | [], vs, h => by simp only [XVs] at h ⊢; subst h; rfl
  | x :: xs, vs, h => by
    simp only [XVs] at h ⊢
    obtain ⟨v, r, rfl, h2, h3⟩ := h
    exact ⟨_, _, rfl, h2.kill1 L, XVs.kill1 L xs r h3⟩

theorem XV.killA {K : Nat → Bool} {H H' : Hps} (L : HLe K H H') (x : X) (v : V) (h : XV H x v) : XV H' x (v.killA K) := by
  cases v with
  | aggi cs =>
    simp only [V.killA]
    cases x <;> simp only [XV] at h ⊢ <;> try (cases h; done)
    · rcases h with ⟨_, h⟩ | ⟨_, h, _⟩ <;> cases h
    · obtain ⟨_, h, _⟩ := h; cases h
    · refine ⟨Nat.lt_of_lt_of_le h.1 L.c, fun xob' h2 h3 => ?_⟩
      obtain ⟨_, ⟨xob, h4, h5⟩, _⟩ := L.o _ xob' h2 (by rw [h3]; exact h.1)
      obtain ⟨_, _, h6⟩ := h.2 xob h4 (by rw [h5, h3])
      cases h6
    · refine ⟨Nat.lt_of_lt_of_le h.1 L.c, fun xob' h2 h3 => ?_⟩
      obtain ⟨_, ⟨xob, h4, h5⟩, _⟩ := L.o _ xob' h2 (by rw [h3]; exact h.1)
      obtain ⟨_, _, _, h6⟩ := h.2 xob h4 (by rw [h5, h3])
      cases h6
    · obtain ⟨_, h, _⟩ := h; cases h
    · obtain ⟨vs, h1, h2⟩ := h
      rename_i imp cs'
      cases imp
      · cases h1
      · simp only [mkAgg, V.aggi.injEq] at h1
        subst h1
        exact ⟨_, rfl, XVs.kill1 L _ _ h2⟩
    · obtain ⟨_, h, _⟩ := h; cases h
    · refine ⟨fun y hy => X.capG_mono L.c (h.1 y hy), fun hc => ?_⟩
      obtain ⟨_, h2, _⟩ := h.2 fun y hy => curP_frame L (fun o ver i j e => by have := h.1 y hy; rw [e] at this; exact this) (fun o ver e => by have := h.1 y hy; rw [e] at this; exact this.elim) (hc y hy)
      cases h2
  | _ => exact h.kill1 L

theorem XVs.killA {K : Nat → Bool} {H H' : Hps} (L : HLe K H H') : ∀ (xs : List X) (vs : List V), XVs H xs vs → XVs H' xs (vs.map (V.killA K))
  | [], vs, h => by simp only [XVs] at h ⊢; subst h; rfl
  | x :: xs, vs, h => by
    simp only [XVs] at h ⊢
    obtain ⟨v, r, rfl, h2, h3⟩ := h
    exact ⟨_, _, rfl, h2.killA L, XVs.killA L xs r h3⟩

theorem XVs.get {H : Hps} : ∀ {xs : List X} {vs : List V}, XVs H xs vs → ∀ (v : V), v ∈ vs → ∃ x ∈ xs, XV H x v
  | [], vs, h, v, hv => by simp only [XVs] at h; subst h; cases hv
  | x :: xs, vs, h, v, hv => by
    simp only [XVs] at h
    obtain ⟨v', r, rfl, h2, h3⟩ := h
    rcases List.mem_cons.1 hv with rfl | hv
    · exact ⟨x, List.mem_cons_self .., h2⟩
    · obtain ⟨y, h4, h5⟩ := XVs.get h3 v hv
      exact ⟨y, List.mem_cons_of_mem _ h4, h5⟩

theorem XV.kill {K : Nat → Bool} {H H' : Hps} (L : HLe K H H') (x : X) (v : V) (h : XV H x v) : XV H' x (v.kill K) := by
  cases v with
  | tup ws =>
    simp only [V.kill]
    cases x <;> simp only [XV] at h ⊢ <;> try (cases h; done)
    · rcases h with ⟨_, h⟩ | ⟨_, h, _⟩ <;> cases h
    · obtain ⟨_, h, _⟩ := h; cases h
    · refine ⟨Nat.lt_of_lt_of_le h.1 L.c, fun xob' h2 h3 => ?_⟩
      obtain ⟨_, ⟨xob, h4, h5⟩, _⟩ := L.o _ xob' h2 (by rw [h3]; exact h.1)
      obtain ⟨_, _, h6⟩ := h.2 xob h4 (by rw [h5, h3])
      cases h6
    · refine ⟨Nat.lt_of_lt_of_le h.1 L.c, fun xob' h2 h3 => ?_⟩
      obtain ⟨_, ⟨xob, h4, h5⟩, _⟩ := L.o _ xob' h2 (by rw [h3]; exact h.1)
      obtain ⟨_, _, _, h6⟩ := h.2 xob h4 (by rw [h5, h3])
      cases h6
    · obtain ⟨_, h, _⟩ := h; cases h
    · obtain ⟨_, h, _⟩ := h
      rename_i imp _ _ _
      cases imp <;> cases h
    · obtain ⟨vs, h1, h2⟩ := h
      cases h1
      exact ⟨_, rfl, XVs.killA L _ _ h2⟩
    · refine ⟨fun y hy => X.capG_mono L.c (h.1 y hy), fun hc => ?_⟩
      obtain ⟨_, h2, _⟩ := h.2 fun y hy => curP_frame L (fun o ver i j e => by have := h.1 y hy; rw [e] at this; exact this) (fun o ver e => by have := h.1 y hy; rw [e] at this; exact this.elim) (hc y hy)
      cases h2
  | fn f ws =>
    simp only [V.kill]
    split
    · rename_i hany
      have h1 := XV.frame L x _ h
      cases x <;> simp only [XV] at h h1 ⊢ <;> try (cases h; done)
      · rcases h with ⟨_, h⟩ | ⟨_, h, _⟩ <;> cases h
      · obtain ⟨_, h, _⟩ := h; cases h
      · refine ⟨h1.1, fun xob' h2 h3 => ?_⟩
        obtain ⟨_, _, h6⟩ := h1.2 xob' h2 h3
        cases h6
      · refine ⟨h1.1, fun xob' h2 h3 => ?_⟩
        obtain ⟨_, _, _, h6⟩ := h1.2 xob' h2 h3
        cases h6
      · obtain ⟨_, h, _⟩ := h; cases h
      · obtain ⟨_, h, _⟩ := h
        rename_i imp _ _ _
        cases imp <;> cases h
      · obtain ⟨_, h, _⟩ := h; cases h
      · refine ⟨h1.1, fun hc => ?_⟩
        exfalso
        obtain ⟨vs, h2, h3⟩ := h.2 fun y hy => curP_frame L (fun o ver i j e => by have := h.1 y hy; rw [e] at this; exact this) (fun o ver e => by have := h.1 y hy; rw [e] at this; exact this.elim) (hc y hy)
        cases h2
        obtain ⟨u, hu, hn⟩ := List.any_eq_true.1 hany
        obtain ⟨y, hy, hyu⟩ := XVs.get h3 u hu
        have hcy := hc y hy
        have hgy := h.1 y hy
        cases u <;> simp [V.names] at hn
        · rename_i p m
          cases y <;> simp only [XV] at hyu <;> try (cases hyu; done)
          · rcases hyu with ⟨_, h⟩ | ⟨_, h, _⟩ <;> cases h
          · obtain ⟨_, h, _⟩ := hyu; cases h
          · exact hgy
          · obtain ⟨xob', h5, h6⟩ := hcy
            obtain ⟨_, ⟨xob, h7, h8⟩, _⟩ := L.o _ xob' h5 (by rw [h6]; exact hyu.1)
            obtain ⟨_, _, _, h9⟩ := hyu.2 xob h7 (by rw [h8, h6])
            cases h9
          · obtain ⟨_, h, _⟩ := hyu; cases h
          · obtain ⟨_, h, _⟩ := hyu
            rename_i imp _ _ _
            cases imp <;> cases h
          · obtain ⟨_, h, _⟩ := hyu; cases h
          · exact hgy
          · exact hgy
        · rename_i p m i j
          cases y <;> simp only [XV] at hyu <;> try (cases hyu; done)
          · rcases hyu with ⟨_, h⟩ | ⟨_, h, _⟩ <;> cases h
          · obtain ⟨_, h, _⟩ := hyu; cases h
          · exact hgy
          · obtain ⟨xob', h5, h6⟩ := hcy
            obtain ⟨h10, ⟨xob, h7, h8⟩, _⟩ := L.o _ xob' h5 (by rw [h6]; exact hyu.1)
            obtain ⟨_, _, _, h9⟩ := hyu.2 xob h7 (by rw [h8, h6])
            cases h9
            rw [h10] at hn
            cases hn
          · obtain ⟨_, h, _⟩ := hyu; cases h
          · obtain ⟨_, h, _⟩ := hyu
            rename_i imp _ _ _
            cases imp <;> cases h
          · obtain ⟨_, h, _⟩ := hyu; cases h
          · exact hgy
          · exact hgy
    · exact XV.frame L x _ h
  | _ => exact h.killA L

end Go.AL
