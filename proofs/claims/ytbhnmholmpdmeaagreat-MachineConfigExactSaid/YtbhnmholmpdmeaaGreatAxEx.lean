/-
  THE EXECUTOR, FIFTH PART: contracts by kinds of arguments; the executor; it is sound. By an AI agent.
-/
import Derived.Test.YtbhnmholmpdmeaaGreatAxRen
import Derived.Test.YtbhnmholmpdmeaaGreatAlPart
import Derived.Test.YtbhnmholmpdmeaaGreatAlLent
import Derived.Test.YtbhnmholmpdmeaaGreatAlDraw7
namespace Go.AL
set_option linter.unusedVariables false
set_option linter.unusedSimpArgs false
set_option linter.unusedSectionVars false

/-! ### Arguments -/
inductive AK where
  | c (t : Ty)
  | g (τ : List Ty)
  | rd (τ : List Ty)
  | cp (τ : List Ty)
  | fn (f : FuncId) (caps : List (List Ty))
  | raw (v : Value)

def CapT : List (List Ty) → Type
  | [] => Unit
  | τ :: ts => CapT1 (RowT τ) ts
where
  CapT1 (A : Type) : List (List Ty) → Type
  | [] => A
  | τ :: ts => A × CapT1 (RowT τ) ts
def AK.T : AK → Type
  | .c t => t.T
  | .g τ => RowT τ
  | .rd τ => List (RowT τ)
  | .cp τ => RowT τ
  | .fn _ caps => CapT caps
  | .raw _ => Unit
def ArgT : List AK → Type
  | [] => Unit
  | k :: ks => ArgT1 k.T ks
where
  ArgT1 (A : Type) : List AK → Type
  | [] => A
  | k :: ks => A × ArgT1 k.T ks

def CapV1 {A : Type} (f : A → V → Prop) : (ts : List (List Ty)) → CapT.CapT1 A ts → List V → Prop
  | [], x, vs => ∃ v, vs = [v] ∧ f x v
  | τ :: ts, x, vs => ∃ v r, vs = v :: r ∧ f (Prod.fst x) v ∧ CapV1 (fun (y : RowT τ) v => ∃ row, v = .cp row 0 ∧ RowV τ y row) ts (Prod.snd x) r
def CapV : (ts : List (List Ty)) → CapT ts → List V → Prop
  | [], _, vs => vs = []
  | τ :: ts, x, vs => CapV1 (fun (y : RowT τ) v => ∃ row, v = .cp row 0 ∧ RowV τ y row) ts x vs

def ArgV : (k : AK) → k.T → V → Prop
  | .c t, x, v => TyV t x v
  | .g τ, x, v => ∃ row, v = .agg row ∧ RowV τ x row
  | .rd τ, l, v => ∃ rows, v = .rd rows ∧ RowsV τ l rows
  | .cp τ, x, v => ∃ row, v = .cp row 0 ∧ RowV τ x row
  | .fn f caps, x, v => ∃ vs, v = .fn f vs ∧ CapV caps x vs
  | .raw u, _, v => v = V.ofCell u
def ArgsV1 {A : Type} (f : A → V → Prop) : (ks : List AK) → ArgT.ArgT1 A ks → List V → Prop
  | [], x, vs => ∃ v, vs = [v] ∧ f x v
  | k :: ks, x, vs => ∃ v r, vs = v :: r ∧ f (Prod.fst x) v ∧ ArgsV1 (ArgV k) ks (Prod.snd x) r
def ArgsV : (ks : List AK) → ArgT ks → List V → Prop
  | [], _, vs => vs = []
  | k :: ks, x, vs => ArgsV1 (ArgV k) ks x vs

def castRow {τ σ : List Ty} (x : RowT τ) (h : tysEq τ σ = true) : RowT σ := (tysEq_of h) ▸ x
theorem castRow_v {τ σ : List Ty} (x : RowT τ) (h : tysEq τ σ = true) (row : List V) : RowV σ (castRow x h) row ↔ RowV τ x row := by
  have := tysEq_of h
  subst this
  exact Iff.rfl

def cpD (h : Nat → Option XOb) (σ : List Ty) : X → Option (RowT σ)
  | .ptr o ver i j => match h o with
    | some (.t v _ _ τ l) => if hτ : tysEq τ σ = true then bif Nat.beq v ver && Nat.beq j 0 then some (castRow (l.getD i (rowZ τ)) hτ) else none else none
    | some (.u v _ _ imp rows) => bif Nat.beq v ver && Nat.beq j 0 then (match rows[i]? with
      | some row => bif imp then rowD σ (row.take σ.length) else rowD σ row
      | none => none) else none
    | none => none
  | .cp row j => bif Nat.beq j 0 then rowD σ row else none
  | _ => none

def rdD (h : Nat → Option XOb) (σ : List Ty) : X → Option (List (RowT σ))
  | .nil => some []
  | .sl τ l => if hτ : tysEq τ σ = true then some (castL l hτ) else none
  | .rd τ l => if hτ : tysEq τ σ = true then some (castL l hτ) else none
  | .ref o ver => match h o with
    | some (.t v _ _ τ l) => if hτ : tysEq τ σ = true then bif Nat.beq v ver then some (castL l hτ) else none else none
    | some (.u v _ _ imp rows) => bif Nat.beq v ver && !imp then rowsD σ rows else none
    | none => none
  | _ => none

def capD1 {A : Type} (h : Nat → Option XOb) (f : X → Option A) : (ts : List (List Ty)) → List X → Option (CapT.CapT1 A ts)
  | [] => fun xs => match xs with
    | [x] => f x
    | _ => none
  | τ :: ts => fun xs => match xs with
    | x :: r => pairO (f x) (capD1 h (cpD h τ) ts r)
    | [] => none
def capD (h : Nat → Option XOb) : (ts : List (List Ty)) → List X → Option (CapT ts)
  | [] => fun xs => match xs with
    | [] => some ()
    | _ => none
  | τ :: ts => fun xs => capD1 h (cpD h τ) ts xs

def gD (σ : List Ty) : X → Option (RowT σ)
  | .agg false cs => rowD σ cs
  | _ => none

def fnD (h : Nat → Option XOb) (f : FuncId) (caps : List (List Ty)) : X → Option (CapT caps)
  | .fn g xs => bif Nat.beq g f && xs.all (X.capB' h) then capD h caps xs else none
  | _ => none
where
  X.capB' (h : Nat → Option XOb) : X → Bool
  | .ptr o ver _ _ => curO h o ver
  | .cp _ _ => true
  | _ => false

def argD (h : Nat → Option XOb) (k : AK) (x : X) : Option k.T := match k with
  | .c t => cellD t x
  | .g τ => gD τ x
  | .rd τ => rdD h τ x
  | .cp τ => cpD h τ x
  | .fn f caps => fnD h f caps x
  | .raw _ => none

def argsD1 {A : Type} (h : Nat → Option XOb) (f : X → Option A) : (ks : List AK) → List X → Option (ArgT.ArgT1 A ks)
  | [] => fun xs => match xs with
    | [x] => f x
    | _ => none
  | k :: ks => fun xs => match xs with
    | x :: r => pairO (f x) (argsD1 h (argD h k) ks r)
    | [] => none
def argsD (h : Nat → Option XOb) : (ks : List AK) → List X → Option (ArgT ks)
  | [] => fun xs => match xs with
    | [] => some ()
    | _ => none
  | k :: ks => fun xs => argsD1 h (argD h k) ks xs

theorem xvs_take {H : Hps} : ∀ {xs : List X} {vs : List V}, XVs H xs vs → ∀ n : Nat, XVs H (xs.take n) (vs.take n)
  | [], vs, h, n => by simp only [XVs] at h; subst h; simp only [List.take_nil, XVs]
  | x :: xs, vs, h, 0 => by simp only [List.take_zero, XVs]
  | x :: xs, vs, h, n + 1 => by
    simp only [XVs] at h
    obtain ⟨v, r, rfl, h1, h2⟩ := h
    simp only [List.take_succ_cons, XVs]
    exact ⟨_, _, rfl, h1, xvs_take h2 n⟩
theorem tyV_atom : ∀ (t : Ty) (x : t.T) (v : V), TyV t x v → v.atom = true
  | .int k, x, v, h => by simp only [TyV] at h; subst h; rfl
  | .bool, x, v, h => by simp only [TyV] at h; subst h; rfl
  | .str, x, v, h => by simp only [TyV] at h; subst h; rfl
  | .sl cs, x, v, h => by
    simp only [TyV] at h
    rcases h with ⟨_, rfl⟩ | ⟨rows, rfl, _⟩ <;> rfl
theorem rowV1_atom {A : Type} : ∀ (τ : List Ty) (R : A → V → Prop), (∀ x v, R x v → v.atom = true) → ∀ (x : RowT1 A τ) (row : List V), RowV1 R τ x row → ∀ y ∈ row, y.atom = true
  | [], R, hR, x, row, h, y, hy => by
    simp only [RowV1] at h
    obtain ⟨v, rfl, hv⟩ := h
    rw [List.mem_singleton.1 hy]; exact hR _ _ hv
  | t :: ts, R, hR, x, row, h, y, hy => by
    simp only [RowV1] at h
    obtain ⟨v, r, rfl, hv, hr⟩ := h
    rcases List.mem_cons.1 hy with rfl | hy
    · exact hR _ _ hv
    · exact rowV1_atom ts (TyV t) (fun x v => tyV_atom t x v) _ r hr y hy
theorem rowV_atom (τ : List Ty) (x : RowT τ) (row : List V) (h : RowV τ x row) : ∀ y ∈ row, y.atom = true := by
  cases τ with
  | nil => simp only [RowV] at h; subst h; intro y hy; cases hy
  | cons t ts => simp only [RowV] at h; exact rowV1_atom ts (TyV t) (fun x v => tyV_atom t x v) x row h

section
variable {H : Hps} (hobs : ∀ o xob, H.x o = some xob → xob.ver < H.c ∧ ∃ ob, H.v o = some ob ∧ XObV H xob ob)
include hobs

theorem cpD_ok {σ : List Ty} {x : X} {a : RowT σ} {v : V} (h : cpD H.x σ x = some a) (hx : XV H x v) : ∃ row, RowV σ a row ∧ capOK1 H.v v (.cp row 0) ∧ argOK H.v v (.cp row 0) := by
  unfold cpD at h
  split at h
  · rename_i o ver i j
    split at h
    · rename_i v' ty es τ l ho
      split at h <;> try (cases h; done)
      rename_i hτ
      cases hb : (Nat.beq v' ver && Nat.beq j 0) with
      | false => rw [hb] at h; cases h
      | true =>
        rw [hb] at h
        simp only [Bool.and_eq_true] at hb
        have hj := Nat.eq_of_beq_eq_true hb.2
        subst hj
        have := Option.some.inj h
        subst this
        obtain ⟨xob, ob, h1, h2, h3, h4, h5, rfl⟩ := cur_ptr hobs hx (by unfold curO; rw [ho]; exact hb.1)
        rw [ho] at h1; cases h1
        obtain ⟨row, h6, h7⟩ := ofObT hobs h4 h5
        obtain ⟨_, _, himp, _⟩ := h4
        exact ⟨row, (castRow_v _ hτ row).2 h7, ⟨ob, h3, rfl, .inl ⟨himp, h6⟩, rfl⟩, ⟨ob, h3, rfl, .inl ⟨himp, h6⟩, rfl⟩⟩
    · rename_i v' ty es imp rows ho
      cases hb : (Nat.beq v' ver && Nat.beq j 0) with
      | false => rw [hb] at h; cases h
      | true =>
        rw [hb] at h
        simp only [Bool.and_eq_true] at hb
        have hj := Nat.eq_of_beq_eq_true hb.2
        subst hj
        simp only [cond_true] at h
        split at h <;> try (cases h; done)
        rename_i row hrow
        obtain ⟨xob, ob, h1, h2, h3, h4, h5, rfl⟩ := cur_ptr hobs hx (by unfold curO; rw [ho]; exact hb.1)
        rw [ho] at h1; cases h1
        obtain ⟨_, _, himp, h8⟩ := h4
        obtain ⟨row', h6, h7⟩ := All2.get h8 i row hrow
        cases himp' : imp with
        | false =>
          rw [himp'] at h himp
          exact ⟨row', rowD_ok σ row a row' h h7, ⟨ob, h3, rfl, .inl ⟨himp, h6⟩, rfl⟩, ⟨ob, h3, rfl, .inl ⟨himp, h6⟩, rfl⟩⟩
        | true =>
          rw [himp'] at h
          have h9 : XVs H (row.take σ.length) (row'.take σ.length) := xvs_take h7 _
          have hr := rowD_ok σ _ a _ h h9
          have hat : (row'.take σ.length).all V.atom = true := List.all_eq_true.2 fun y hy => rowV_atom σ a _ hr y hy
          have he : row'.take σ.length = row'.take (row'.take σ.length).length := by rw [List.length_take, List.take_eq_take_min]
          exact ⟨_, hr, ⟨ob, h3, rfl, .inr ⟨row', h6, he, hat⟩, rfl⟩, ⟨ob, h3, rfl, .inr ⟨row', h6, he, hat⟩, rfl⟩⟩
    · cases h
  · rename_i row j
    simp only [XV] at hx
    obtain ⟨vs, rfl, h2⟩ := hx
    cases hb : Nat.beq j 0 with
    | false => rw [hb] at h; cases h
    | true =>
      rw [hb] at h
      have hj := Nat.eq_of_beq_eq_true hb
      subst hj
      exact ⟨vs, rowD_ok σ row a vs h h2, ⟨rfl, rfl⟩, ⟨rfl, rfl⟩⟩
  · cases h

theorem rdD_ok {σ : List Ty} {x : X} {a : List (RowT σ)} {v : V} (h : rdD H.x σ x = some a) (hx : XV H x v) : ∃ rows, RowsV σ a rows ∧ argOK H.v v (.rd rows) := by
  unfold rdD at h
  split at h
  · have := Option.some.inj h
    subst this
    simp only [XV] at hx
    subst hx
    exact ⟨[], trivial, rfl⟩
  · split at h <;> try (cases h; done)
    rename_i hτ
    have := Option.some.inj h
    subst this
    simp only [XV] at hx
    rcases hx with ⟨rfl, rfl⟩ | ⟨rows, rfl, hr⟩
    · exact ⟨[], (castL_rows _ hτ []).2 trivial, rfl⟩
    · exact ⟨rows, (castL_rows _ hτ rows).2 hr, rfl⟩
  · split at h <;> try (cases h; done)
    rename_i hτ
    have := Option.some.inj h
    subst this
    simp only [XV] at hx
    obtain ⟨rows, rfl, hr⟩ := hx
    exact ⟨rows, (castL_rows _ hτ rows).2 hr, rfl⟩
  · rename_i o ver
    split at h
    · rename_i v' ty es τ l ho
      split at h <;> try (cases h; done)
      rename_i hτ
      cases hb : Nat.beq v' ver with
      | false => rw [hb] at h; cases h
      | true =>
        rw [hb] at h
        have := Option.some.inj h
        subst this
        obtain ⟨xob, ob, h1, h2, h3, h4, rfl⟩ := cur_ref hobs hx (by unfold curO; rw [ho]; exact hb)
        rw [ho] at h1; cases h1
        obtain ⟨_, _, himp, h8⟩ := h4
        exact ⟨ob.rows, (castL_rows _ hτ _).2 h8, ⟨ob, h3, rfl, himp, rfl⟩⟩
    · rename_i v' ty es imp rows ho
      cases hb : (Nat.beq v' ver && !imp) with
      | false => rw [hb] at h; cases h
      | true =>
        rw [hb] at h
        simp only [Bool.and_eq_true, Bool.not_eq_true'] at hb
        simp only [cond_true] at h
        obtain ⟨xob, ob, h1, h2, h3, h4, rfl⟩ := cur_ref hobs hx (by unfold curO; rw [ho]; exact hb.1)
        rw [ho] at h1; cases h1
        obtain ⟨_, _, himp, h8⟩ := h4
        exact ⟨ob.rows, mapM_rows h h8, ⟨ob, h3, rfl, by rw [himp]; exact hb.2, rfl⟩⟩
    · cases h
  · cases h

theorem capD1_ok {A : Type} {f : X → Option A} {R : A → V → Prop} (hf : ∀ x a v, f x = some a → XV H x v → ∃ v', capOK1 H.v v v' ∧ R a v') : ∀ (ts : List (List Ty)) (xs : List X) (a : CapT.CapT1 A ts) (vs : List V), capD1 H.x f ts xs = some a → XVs H xs vs →
    ∃ vs', capsOK H.v vs vs' ∧ CapV1 R ts a vs'
  | [], xs, a, vs, h, hv => by
    match xs, h, hv with
    | [x], h, hv =>
      have h : f x = some a := h
      simp only [XVs] at hv
      obtain ⟨v, r, rfl, h1, rfl⟩ := hv
      obtain ⟨v', h2, h3⟩ := hf x a v h h1
      simp only [CapV1]
      exact ⟨[v'], ⟨h2, trivial⟩, v', rfl, h3⟩
  | τ :: ts, xs, a, vs, h, hv => by
    match xs, h, hv with
    | x :: r, h, hv =>
      have h : pairO (f x) (capD1 H.x (cpD H.x τ) ts r) = some a := h
      obtain ⟨ha, hr⟩ := pairO_some h
      simp only [XVs] at hv
      obtain ⟨v, r', rfl, h1, h2⟩ := hv
      obtain ⟨v', h4, h5⟩ := hf x _ v ha h1
      obtain ⟨vs', h6, h7⟩ := capD1_ok (R := fun (y : RowT τ) v => ∃ row, v = .cp row 0 ∧ RowV τ y row) (fun x a v hxa hxv => by
        obtain ⟨row, e1, e2, _⟩ := cpD_ok hobs hxa hxv
        exact ⟨_, e2, row, rfl, e1⟩) ts r _ r' hr h2
      simp only [CapV1]
      exact ⟨v' :: vs', ⟨h4, h6⟩, v', vs', rfl, h5, h7⟩

theorem capD_ok (ts : List (List Ty)) (xs : List X) (a : CapT ts) (vs : List V) (h : capD H.x ts xs = some a) (hv : XVs H xs vs) : ∃ vs', capsOK H.v vs vs' ∧ CapV ts a vs' := by
  cases ts with
  | nil =>
    match xs, h, hv with
    | [], h, hv => simp only [XVs] at hv; subst hv; exact ⟨[], trivial, by simp only [CapV]⟩
  | cons τ ts =>
    simp only [CapV]
    exact capD1_ok hobs (R := fun (y : RowT τ) v => ∃ row, v = .cp row 0 ∧ RowV τ y row) (fun x a v hxa hxv => by
        obtain ⟨row, e1, e2, _⟩ := cpD_ok hobs hxa hxv
        exact ⟨_, e2, row, rfl, e1⟩) ts xs a vs h hv

omit hobs in
theorem tyV_pure : ∀ (t : Ty) (x : t.T) (v : V), TyV t x v → v.pure = true ∧ ∀ cs, v ≠ .agg cs
  | .int k, x, v, h => by simp only [TyV] at h; subst h; exact ⟨rfl, fun cs h => by cases h⟩
  | .bool, x, v, h => by simp only [TyV] at h; subst h; exact ⟨rfl, fun cs h => by cases h⟩
  | .str, x, v, h => by simp only [TyV] at h; subst h; exact ⟨rfl, fun cs h => by cases h⟩
  | .sl cs, x, v, h => by
    simp only [TyV] at h
    rcases h with ⟨_, rfl⟩ | ⟨rows, rfl, _⟩ <;> exact ⟨rfl, fun cs h => by cases h⟩

theorem argD_ok (k : AK) (x : X) (a : k.T) (v : V) (h : argD H.x k x = some a) (hx : XV H x v) : ∃ v', argOK H.v v v' ∧ ArgV k a v' := by
  cases k with
  | c t =>
    have h1 := cellD_ok t x a v h hx
    refine ⟨v, ?_, h1⟩
    obtain ⟨hp, hna⟩ := tyV_pure t a v h1
    cases v <;> first | exact ⟨rfl, hp⟩ | (simp [V.pure] at hp; done) | exact absurd rfl (hna _)
  | g τ =>
    change gD τ x = some a at h
    unfold gD at h
    split at h <;> try (cases h; done)
    simp only [XV, mkAgg] at hx
    obtain ⟨vs, rfl, h2⟩ := hx
    exact ⟨.agg vs, (Or.inl rfl : vs = vs ∨ weakL vs vs), vs, rfl, rowD_ok τ _ a vs h h2⟩
  | rd τ =>
    obtain ⟨rows, h1, h2⟩ := rdD_ok hobs h hx
    exact ⟨_, h2, rows, rfl, h1⟩
  | cp τ =>
    obtain ⟨row, h1, _, h2⟩ := cpD_ok hobs h hx
    exact ⟨_, h2, row, rfl, h1⟩
  | fn f caps =>
    change fnD H.x f caps x = some a at h
    unfold fnD at h
    split at h <;> try (cases h; done)
    rename_i g xs
    cases hb : (Nat.beq g f && xs.all (fnD.X.capB' H.x)) with
    | false => rw [hb] at h; cases h
    | true =>
      rw [hb] at h
      simp only [Bool.and_eq_true] at hb
      have hg := Nat.eq_of_beq_eq_true hb.1
      subst hg
      simp only [XV] at hx
      have hcur : ∀ x ∈ xs, x.curP H := by
        intro x hx'
        have h1 := List.all_eq_true.1 hb.2 x hx'
        cases x <;> simp only [fnD.X.capB'] at h1 <;> try (cases h1; done)
        · unfold curO at h1
          split at h1 <;> try (cases h1; done)
          rename_i xob ho
          exact ⟨xob, ho, Nat.eq_of_beq_eq_true h1⟩
        · trivial
      obtain ⟨vs, rfl, h3⟩ := hx.2 hcur
      obtain ⟨vs', h4, h5⟩ := capD_ok hobs caps xs a vs h h3
      exact ⟨.fn g vs', (⟨rfl, h4⟩ : g = g ∧ capsOK H.v vs vs'), vs', rfl, h5⟩
  | raw u => cases h

theorem argsD1_ok {A : Type} {f : X → Option A} {R : A → V → Prop} (hf : ∀ x a v, f x = some a → XV H x v → ∃ v', argOK H.v v v' ∧ R a v') : ∀ (ks : List AK) (xs : List X) (a : ArgT.ArgT1 A ks) (vs : List V), argsD1 H.x f ks xs = some a → XVs H xs vs →
    ∃ vs', argsOK H.v vs vs' ∧ ArgsV1 R ks a vs'
  | [], xs, a, vs, h, hv => by
    match xs, h, hv with
    | [x], h, hv =>
      have h : f x = some a := h
      simp only [XVs] at hv
      obtain ⟨v, r, rfl, h1, rfl⟩ := hv
      obtain ⟨v', h2, h3⟩ := hf x a v h h1
      simp only [ArgsV1]
      exact ⟨[v'], ⟨h2, trivial⟩, v', rfl, h3⟩
  | k :: ks, xs, a, vs, h, hv => by
    match xs, h, hv with
    | x :: r, h, hv =>
      have h : pairO (f x) (argsD1 H.x (argD H.x k) ks r) = some a := h
      obtain ⟨ha, hr⟩ := pairO_some h
      simp only [XVs] at hv
      obtain ⟨v, r', rfl, h1, h2⟩ := hv
      obtain ⟨v', h4, h5⟩ := hf x _ v ha h1
      obtain ⟨vs', h6, h7⟩ := argsD1_ok (argD_ok hobs k) ks r _ r' hr h2
      simp only [ArgsV1]
      exact ⟨v' :: vs', ⟨h4, h6⟩, v', vs', rfl, h5, h7⟩

theorem argsD_ok (ks : List AK) (xs : List X) (a : ArgT ks) (vs : List V) (h : argsD H.x ks xs = some a) (hv : XVs H xs vs) : ∃ vs', argsOK H.v vs vs' ∧ ArgsV ks a vs' := by
  cases ks with
  | nil =>
    match xs, h, hv with
    | [], h, hv => simp only [XVs] at hv; subst hv; exact ⟨[], trivial, by simp only [ArgsV]⟩
  | cons k ks =>
    simp only [ArgsV]
    exact argsD1_ok hobs (argD_ok hobs k) ks xs a vs h hv
end

/-! ### Contracts -/
structure Ent where
  g : FuncId
  ad : List AK
  rk : List RK
  pre : ArgT ad → Bool
  fn : ArgT ad → ResT rk

def Ent.Ok (P : Program) (e : Ent) : Prop := ∀ a, e.pre a = true → ∀ vargs, ArgsV e.ad a vargs → FnP P e.g vargs (RessV e.rk (e.fn a))

def callE {β : Type} (s : XSt) (g : FuncId) (args : List X) (dst : Option Nat) (Φ : XSt → Option β) : List Ent → Option β
  | [] => none
  | e :: es => bif Nat.beq e.g g then (match argsD s.h e.ad args with
      | some a => bif e.pre a then Φ (s.call dst e.rk (e.fn a)) else none
      | none => callE s g args dst Φ es) else callE s g args dst Φ es

/-! ### Contracts with a lent object: the first argument, a slice that the callee writes or takes; with 'two' the last argument too, a slice that is taken -/
structure EntL where
  g : FuncId
  mv : Bool
  two : Bool := false
  ty : Nat
  es : Nat
  τ : List Ty
  ad : List AK
  rk : List RK
  pre : List (RowT τ) → List (RowT τ) → ArgT ad → Bool
  fn : List (RowT τ) → List (RowT τ) → ArgT ad → ResT rk × List (RowT τ)

def EntL.Pd (e : EntL) (l l2 : List (RowT e.τ)) (a : ArgT e.ad) (rows : List (List V)) (rds : List RD) (outs : List (Option (List (List V)))) : Prop :=
  RessV e.rk (e.fn l l2 a).1 rds ∧ (if e.two then outs = [none, none] else if e.mv then outs = [none] else ∃ rows', outs = [some rows'] ∧ RowsV e.τ (e.fn l l2 a).2 rows' ∧ rows'.length = rows.length)
def EntL.Ok (P : Program) (e : EntL) : Prop :=
  if e.two then ∀ l l2 a, e.pre l l2 a = true → ∀ rows rows2 vargs, RowsV e.τ l rows → RowsV e.τ l2 rows2 → ArgsV e.ad a vargs →
    FnL P e.g (.ref 500 rows.length :: (vargs ++ [.ref 501 rows2.length])) [⟨e.ty, e.es, false, rows⟩, ⟨e.ty, e.es, false, rows2⟩] (e.Pd l l2 a rows)
  else ∀ l a, e.pre l [] a = true → ∀ rows vargs, RowsV e.τ l rows → ArgsV e.ad a vargs →
    FnL P e.g (.ref 500 rows.length :: vargs) [⟨e.ty, e.es, false, rows⟩] (e.Pd l [] a rows)

def refD (h : Nat → Option XOb) (ty es : Nat) (σ : List Ty) : X → Option (Nat × Nat × List (RowT σ))
  | .ref o ver => match h o with
    | some (.t v ty' es' τ l) => if hτ : tysEq τ σ = true then bif Nat.beq v ver && (Nat.beq ty' ty && Nat.beq es' es) then some (o, v, castL l hτ) else none else none
    | some (.u v ty' es' imp rows) => bif Nat.beq v ver && (Nat.beq ty' ty && (Nat.beq es' es && !imp)) then (match rowsD σ rows with
      | some l => some (o, v, l)
      | none => none) else none
    | none => none
  | _ => none
def lessX (h : Nat → Option XOb) (qs : List Nat) (p : Nat) : Option XOb := bif qs.any (fun q => Nat.beq p q) then none else h p
def callEL {β : Type} (s : XSt) (g : FuncId) (args : List X) (dst : Option Nat) (Φ : XSt → Option β) : List EntL → Option β
  | [] => none
  | e :: es => bif Nat.beq e.g g then (match args with
      | x :: r => (match refD s.h e.ty e.es e.τ x with
        | some (q, ver, l) => bif e.two || e.mv then none
          else (match argsD (lessX s.h [q]) e.ad r with
          | some a => bif e.pre l [] a then Φ ((s.setOb q (.t ver e.ty e.es e.τ (e.fn l [] a).2)).call dst e.rk (e.fn l [] a).1) else none
          | none => callEL s g args dst Φ es)
        | none => callEL s g args dst Φ es)
      | [] => none) else callEL s g args dst Φ es

/-! ### One operation -/
def dokB (n : Nat) : Option Nat → Bool
  | some d => Nat.blt d n
  | none => true

def xrun {β : Type} (P : Program) (es : List Ent) (n : Nat) (o : Oper) (Φ : XSt → Option β) (s : XSt) : Option β :=
  bif dokB n o.dst then (match xop P o s.ev s.h s.c with
    | .val c x => bif c then Φ (s.put o.dst x) else none
    | .new c ob r => (match o.dst with
      | some d => bif c then Φ (s.new d (ob.setVer s.c) (mkRef r d s.c)) else none
      | none => none)
    | .upd c q ob => bif c then Φ ((s.setOb q ob).put o.dst .dead) else none
    | .app c q ob => bif c then Φ ((s.app q (ob.setVer s.c)).put o.dst (.ref q s.c)) else none
    | .call g args => callE s g args o.dst Φ es
    | .bad => none) else none

def xskip {β : Type} (n : Nat) (o : Oper) (Φ : XSt → Option β) (s : XSt) : Option β := bif dokB n o.dst then Φ (s.put o.dst (.tup [])) else none

def nthO : List Oper → Nat → Option Oper
  | [], _ => none
  | o :: _, 0 => some o
  | _ :: r, i + 1 => nthO r i
theorem nthO_eq : ∀ (l : List Oper) (i : Nat), nthO l i = l[i]?
  | [], i => by simp [nthO]
  | o :: r, 0 => by simp [nthO]
  | o :: r, i + 1 => by simp [nthO, nthO_eq r i]

def dstOf (l : List Oper) (j : Nat) : Option Nat := match nthO l j with
  | some o => o.dst
  | none => none
theorem dstOf_eq (l : List Oper) (j : Nat) : dstOf l j = (l[j]?).bind (·.dst) := by
  unfold dstOf; rw [nthO_eq]; cases l[j]? <;> rfl

def xstep {β : Type} (P : Program) (es : List Ent) (n : Nat) (l : List Oper) (o : Oper) (Φ : XSt → Option β) (s : XSt) : Option β :=
  match o.guard with
  | none => xrun P es n o Φ s
  | some (j, want) => match dstOf l j with
    | some d => match s.ev (.tmp d) with
      | .bool b => bif b then (bif want then xrun P es n o Φ (s.put (some d) (.bool true)) else xskip n o Φ (s.put (some d) (.bool true)))
          else (bif want then xskip n o Φ (s.put (some d) (.bool false)) else xrun P es n o Φ (s.put (some d) (.bool false)))
      | .tup _ => xskip n o Φ s
      | _ => none
    | none => none

def isL (el : List EntL) (o : Oper) : Bool := match o.op with
  | .call c => (match c.callee with
    | .value (.func g) => el.any fun e => Nat.beq e.g g
    | _ => false)
  | _ => false
def xrunL {β : Type} (P : Program) (el : List EntL) (n : Nat) (o : Oper) (Φ : XSt → Option β) (s : XSt) : Option β :=
  match o.guard with
  | none => bif dokB n o.dst then (match xop P o s.ev s.h s.c with
    | .call g args => callEL s g args o.dst Φ el
    | _ => none) else none
  | some _ => none

/-! ### What a drawn operation must not look at -/
def X.nnX (h : Nat → Option XOb) (q : Nat) : X → Bool
  | .int .. | .bool _ | .str _ | .nil | .raw _ | .sl .. | .rd .. | .cp .. => true
  | .agg imp _ => !imp
  | .ref p ver => curO h p ver && !Nat.beq p q
  | .ptr p ver _ _ => curO h p ver && !Nat.beq p q
  | _ => false
def xsep1 (h : Nat → Option XOb) (x : X) (xs : List X) : Bool := match x with
  | .int .. | .bool _ | .str _ | .nil | .raw _ | .sl .. | .rd .. | .cp .. => true
  | .agg imp _ => true
  | .ref q ver => curO h q ver && xs.all (X.nnX h q)
  | .ptr q ver _ _ => curO h q ver && xs.all (X.nnX h q)
  | _ => false
def tgtX (l : List Oper) (j : Nat) : Option Operand := match nthO l j with
  | some o => tgt o.op
  | none => none
def xsep (l : List Oper) (o : Oper) (s : XSt) : List Nat → Bool
  | [] => true
  | j :: r => (match tgtX l j with
    | some x => xsep1 s.h (s.ev x) (o.op.operands.toList.map s.ev)
    | none => true) && xsep l o s r

/-! ### Own slices, read as pure ones -/
def frzD (h : Nat → Option XOb) (σ : List Ty) : X → Option (List (RowT σ) × List Nat)
  | .ref p ver => match h p with
    | some (.t v _ _ τ l) => if hτ : tysEq τ σ = true then bif Nat.beq v ver then some (castL l hτ, [p]) else none else none
    | some (.u v _ _ imp rows) => bif Nat.beq v ver && !imp then (match rowsD σ rows with
      | some l => some (l, [p])
      | none => none) else none
    | none => none
  | x => match slOf σ x with
    | some l => some (l, [])
    | none => none

def noF {A : Type} (o : Option A) : Option (A × List Nat) := match o with
  | some a => some (a, [])
  | none => none

def sclD (h : Nat → Option XOb) (t : Ty) (x : X) : Option (t.T × List Nat) := match t with
  | .sl σ => frzD h σ x
  | .int k => noF (intOfX k x)
  | .bool => noF (boolOfX x)
  | .str => noF (strOfX x)

def pairF {A B : Type} (a : Option (A × List Nat)) (b : Option (B × List Nat)) : Option ((A × B) × List Nat) := match a with
  | some (a, f) => match b with
    | some (b, g) => some ((a, b), f ++ g)
    | none => none
  | none => none

def srowD1 {A : Type} (h : Nat → Option XOb) (f : X → Option (A × List Nat)) : (τ : List Ty) → List X → Option (RowT1 A τ × List Nat)
  | [] => fun xs => match xs with
    | [x] => f x
    | _ => none
  | t :: ts => fun xs => match xs with
    | x :: r => pairF (f x) (srowD1 h (sclD h t) ts r)
    | [] => none
def srowD (h : Nat → Option XOb) : (τ : List Ty) → List X → Option (RowT τ × List Nat)
  | [] => fun xs => match xs with
    | [] => some ((), [])
    | _ => none
  | t :: ts => fun xs => srowD1 h (sclD h t) ts xs


def X.isImp : X → Bool
  | .agg true _ => true
  | _ => false
def gDV (h : Nat → Option XOb) (τ : List Ty) : X → Option (RowT τ)
  | .agg imp cs => bif imp then (match srowD h τ cs with
    | some (v, _) => some v
    | none => none) else rowD τ cs
  | _ => none
def argDV (h : Nat → Option XOb) (k : AK) (x : X) : Option k.T := match k with
  | .g τ => gDV h τ x
  | .c t => cellD t x
  | .rd τ => rdD h τ x
  | .cp τ => cpD h τ x
  | .fn f caps => fnD h f caps x
  | .raw _ => none
def argsDV1 {A : Type} (h : Nat → Option XOb) (f : X → Option A) : (ks : List AK) → List X → Option (ArgT.ArgT1 A ks)
  | [] => fun xs => match xs with
    | [x] => f x
    | _ => none
  | k :: ks => fun xs => match xs with
    | x :: r => pairO (f x) (argsDV1 h (argDV h k) ks r)
    | [] => none
def argsDV (h : Nat → Option XOb) : (ks : List AK) → List X → Option (ArgT ks)
  | [] => fun xs => match xs with
    | [] => some ()
    | _ => none
  | k :: ks => fun xs => argsDV1 h (argDV h k) ks xs
def scalT : Ty → Bool
  | .sl _ => false
  | _ => true
def scalK : RK → Bool
  | .v t => scalT t
  | _ => false
def callEV {β : Type} (s : XSt) (g : FuncId) (args : List X) (dst : Option Nat) (Φ : XSt → Option β) : List Ent → Option β
  | [] => none
  | e :: es => bif Nat.beq e.g g && e.rk.all scalK then (match argsDV s.h e.ad args with
      | some a => bif e.pre a then Φ (s.call dst e.rk (e.fn a)) else none
      | none => callEV s g args dst Φ es) else callEV s g args dst Φ es

/-! ### Code -/
inductive XI where
  | code (c : Code)
  | ops (ops : Array Oper) (rest : List Oper)
  | opsD (ops : Array Oper) (perm : List (Nat × List Nat))
  | inBlock (id : Nat)
  | head (body : Code)

def popX (id : Nat) : List XI → Option (List XI)
  | [] => none
  | .inBlock id' :: k => bif Nat.beq id id' then some k else popX id k
  | .head _ :: k => popX id k
  | .code _ :: k => popX id k
  | .ops _ _ :: k => popX id k
  | .opsD _ _ :: k => popX id k

abbrev PM := Nat → List (Nat × List Nat) × List (Nat × Nat)

def codeOK (pm : PM) : Code → Bool
  | .seq x y => codeOK pm x && codeOK pm y
  | .cond _ x y => codeOK pm x && codeOK pm y
  | .block _ x => codeOK pm x
  | .scope x => codeOK pm x
  | .loop x => codeOK pm x
  | .region id ops true => tailOK ops (pm id).1.length && regionOK (cutO (pm id).1.length ops) (pm id).1 (pm id).2
  | _ => true

structure InlD where
  g : FuncId
  c : Code
  n : Nat
  pm : PM
  rs : List ResultVar
  fz : List (Nat × List Ty) := []
structure InlD.Ok (P : Program) (d : InlD) : Prop where
  ok : ∃ fn, P.funcs[d.g]? = some fn ∧ fn.body = some d.c ∧ fn.ntmps = d.n ∧ fn.results.toList = d.rs
  pm : codeOK d.pm d.c = true

structure Cfg where
  P : Program
  es : List Ent
  pm : PM
  n : Nat
  el : List EntL := []
  fz : List (Nat × List Ty) := []
  inl : List InlD := []
  ql : List Nat := []

def fzD : List (Nat × List Ty) → Nat → Option (Nat × List Ty)
  | [], _ => none
  | (k, σ) :: r, d => bif Nat.beq k d then some (k, σ) else bif Nat.beq (k / 1000) d && Nat.blt 999 k then some (k % 1000, σ) else fzD r d
def frzV (q ver : Nat) (σ : List Ty) (l : List (RowT σ)) : X → X
  | .ref p v => bif Nat.beq p q && Nat.beq v ver then .sl σ l else .ref p v
  | x => x
def frzX (n : Nat) (fz : List (Nat × List Ty)) (d : Option Nat) (s : XSt) : XSt := match d with
  | none => s
  | some d => match fzD fz d with
    | none => s
    | some (k, σ) => match s.t k with
      | .ref q ver => bif Nat.blt k n then (match rdD s.h σ (.ref q ver) with
        | some l => ⟨fun i => frzV q ver σ l (s.t i), fun p => bif Nat.beq p q then none else s.h p, s.c⟩
        | none => s) else s
      | _ => s

def newD (σ : List Ty) : XOb → Option (List (RowT σ))
  | .t _ _ _ τ l => if hτ : tysEq τ σ = true then some (castL l hτ) else none
  | .u _ _ _ imp rows => bif imp then none else rowsD σ rows
def XSt.newP (s : XSt) (d : Nat) (ob : XOb) (σ : List Ty) (l : List (RowT σ)) : XSt := ((s.new d ob (mkRef true d s.c)).kill fun p => Nat.beq p d).put (some d) (.sl σ l)
def xrunD {β : Type} (P : Program) (es : List Ent) (n : Nat) (fz : List (Nat × List Ty)) (o : Oper) (Φ : XSt → Option β) (s : XSt) : Option β := match o.dst with
  | none => xrun P es n o Φ s
  | some d => match fzD fz d with
    | none => xrun P es n o Φ s
    | some (k, σ) => bif Nat.beq k d && dokB n o.dst then (match xop P o s.ev s.h s.c with
      | .new c ob true => (match newD σ ob with
        | some l => bif c then Φ (s.newP d (ob.setVer s.c) σ l) else none
        | none => none)
      | _ => none) else none
def xstepD {β : Type} (P : Program) (es : List Ent) (n : Nat) (fz : List (Nat × List Ty)) (l : List Oper) (o : Oper) (Φ : XSt → Option β) (s : XSt) : Option β :=
  match o.guard with
  | none => xrunD P es n fz o Φ s
  | some (j, want) => match dstOf l j with
    | some d => match s.ev (.tmp d) with
      | .bool b => bif b then (bif want then xrunD P es n fz o Φ (s.put (some d) (.bool true)) else xskip n o Φ (s.put (some d) (.bool true)))
          else (bif want then xskip n o Φ (s.put (some d) (.bool false)) else xrunD P es n fz o Φ (s.put (some d) (.bool false)))
      | .tup _ => xskip n o Φ s
      | _ => none
    | none => none

def isCallX (o : Oper) : Bool := match o.op with
  | .call c => (match c.callee with
    | .value _ => true
    | _ => false)
  | _ => false
def isVw (C : Cfg) (o : Oper) (s : XSt) : Bool := isCallX o && (match o.guard with
  | some _ => false
  | none => (match xop C.P o s.ev s.h s.c with
    | .call g args => args.any X.isImp
    | _ => false))
def xrunV {β : Type} (C : Cfg) (o : Oper) (Φ : XSt → Option β) (s : XSt) : Option β := match o.guard with
  | some _ => none
  | none => bif dokB C.n o.dst then (match xop C.P o s.ev s.h s.c with
    | .call g args => callEV s g args o.dst Φ C.es
    | _ => none) else none
def exec {β : Type} (C : Cfg) (Kr : XSt → Option β) (Kg : List XI → XSt → Option β) : Nat → List XI → XSt → Option β
  | 0, _, _ => none
  | _ + 1, [], s => Kr s
  | f + 1, .code c :: k, s => match c with
    | .skip => exec C Kr Kg f k s
    | .label _ => exec C Kr Kg f k s
    | .seq x y => exec C Kr Kg f (.code x :: .code y :: k) s
    | .cond c x y => (match s.ev c with
      | .bool b => bif b then exec C Kr Kg f (.code x :: k) s else exec C Kr Kg f (.code y :: k) s
      | _ => none)
    | .block id x => exec C Kr Kg f (.code x :: .inBlock id :: k) s
    | .scope x => exec C Kr Kg f (.code x :: k) s
    | .exit id => (match popX id k with
      | some k' => exec C Kr Kg f k' s
      | none => none)
    | .ret => Kr s
    | .region id ops draw => (match draw with
      | false => exec C Kr Kg f (.ops ops ops.toList :: k) s
      | true => exec C Kr Kg f (.opsD (cutO (C.pm id).1.length ops) (C.pm id).1 :: .ops ops (ops.toList.drop (C.pm id).1.length) :: k) (s.kill (KI (C.pm id).2)))
    | .loop body => Kg (.head body :: k) s
    | _ => none
  | f + 1, .ops ops l :: k, s => (match l with
    | [] => exec C Kr Kg f k s
    | o :: rest => bif isVw C o s then xrunV C o (fun s => exec C Kr Kg f (.ops ops rest :: k) (frzX C.n C.fz o.dst s)) s else bif isL C.el o then xrunL C.P C.el C.n o (fun s => exec C Kr Kg f (.ops ops rest :: k) (frzX C.n C.fz o.dst s)) s else xstep C.P C.es C.n ops.toList o (fun s => exec C Kr Kg f (.ops ops rest :: k) (frzX C.n C.fz o.dst s)) s)
  | f + 1, .opsD ops l :: k, s => (match l with
    | [] => exec C Kr Kg f k s
    | (i, js) :: r => (match nthO ops.toList i with
      | some o => bif xsep ops.toList o s js then xstepD C.P C.es C.n C.fz ops.toList o (exec C Kr Kg f (.opsD ops r :: k)) s else none
      | none => none))
  | f + 1, .inBlock _ :: k, s => exec C Kr Kg f k s
  | f + 1, .head body :: k, s => Kg (.head body :: k) s

end Go.AL
