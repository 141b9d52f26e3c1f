/-
  THE EXECUTOR, SEVENTH PART: states at the head of a loop, read as data and laid out of data. By an AI agent.
-/
import Derived.Test.YtbhnmholmpdmeaaGreatAlResh
namespace Go.AL
set_option linter.unusedVariables false
set_option linter.unusedSimpArgs false
set_option linter.unusedSectionVars false

/-! ### Captured rows, as they lie in a slot -/
def capX1 {A : Type} (f : A → X) : (ts : List (List Ty)) → CapT.CapT1 A ts → List X
  | [], x => [f x]
  | τ :: ts, x => f (Prod.fst x) :: capX1 (fun (y : RowT τ) => .cp (rowX τ y) 0) ts (Prod.snd x)
def capX : (ts : List (List Ty)) → CapT ts → List X
  | [], _ => []
  | τ :: ts, x => capX1 (fun (y : RowT τ) => .cp (rowX τ y) 0) ts x
theorem capX_ok {H : Hps} : ∀ (ts : List (List Ty)) (x : CapT ts) (vs : List V), CapV ts x vs → XVs H (capX ts x) vs ∧ ∀ y ∈ capX ts x, y.capG H.c := by
  have key : ∀ (ts : List (List Ty)) {A : Type} (f : A → X) (R : A → V → Prop), (∀ x v, R x v → XV H (f x) v ∧ (f x).capG H.c) → ∀ (x : CapT.CapT1 A ts) (vs : List V), CapV1 R ts x vs → XVs H (capX1 f ts x) vs ∧ ∀ y ∈ capX1 f ts x, y.capG H.c := by
    intro ts
    induction ts with
    | nil =>
      intro A f R hf x vs h
      simp only [CapV1] at h
      obtain ⟨v, rfl, hv⟩ := h
      simp only [capX1, XVs]
      exact ⟨⟨v, [], rfl, (hf _ _ hv).1, rfl⟩, fun y hy => by simp at hy; subst hy; exact (hf _ _ hv).2⟩
    | cons τ ts ih =>
      intro A f R hf x vs h
      simp only [CapV1] at h
      obtain ⟨v, r, rfl, hv, hr⟩ := h
      obtain ⟨e1, e2⟩ := ih (fun (y : RowT τ) => .cp (rowX τ y) 0) (fun (y : RowT τ) v => ∃ row, v = .cp row 0 ∧ RowV τ y row) (fun x v h => by
        obtain ⟨row, rfl, h⟩ := h
        exact ⟨by simp only [XV]; exact ⟨row, rfl, row_xv τ x row h⟩, trivial⟩) _ r hr
      simp only [capX1, XVs]
      refine ⟨⟨v, r, rfl, (hf _ _ hv).1, e1⟩, fun y hy => ?_⟩
      rcases List.mem_cons.1 hy with rfl | hy
      · exact (hf _ _ hv).2
      · exact e2 y hy
  intro ts x vs h
  cases ts with
  | nil => simp only [CapV] at h; subst h; simp only [capX, XVs]; exact ⟨trivial, fun y hy => by simp at hy⟩
  | cons τ ts =>
    simp only [CapV] at h
    exact key ts _ _ (fun x v h => by
        obtain ⟨row, rfl, h⟩ := h
        exact ⟨by simp only [XV]; exact ⟨row, rfl, row_xv τ x row h⟩, trivial⟩) x vs h

def cpG (τ : List Ty) : X → Option (RowT τ)
  | .cp row 0 => rowD τ row
  | _ => none
def capG1 {A : Type} (f : X → Option A) : (ts : List (List Ty)) → List X → Option (CapT.CapT1 A ts)
  | [] => fun xs => match xs with
    | [x] => f x
    | _ => none
  | τ :: ts => fun xs => match xs with
    | x :: r => pairO (f x) (capG1 (cpG τ) ts r)
    | [] => none
def capGs : (ts : List (List Ty)) → List X → Option (CapT ts)
  | [] => fun xs => match xs with
    | [] => some ()
    | _ => none
  | τ :: ts => fun xs => capG1 (cpG τ) ts xs
theorem cpG_ok {H : Hps} {τ : List Ty} {x : X} {y : RowT τ} {v : V} (h : cpG τ x = some y) (hv : XV H x v) : (∃ row, v = .cp row 0 ∧ RowV τ y row) ∧ x.curP H := by
  unfold cpG at h
  split at h <;> try (cases h; done)
  simp only [XV] at hv
  obtain ⟨vs, rfl, hv⟩ := hv
  exact ⟨⟨vs, rfl, rowD_ok τ _ y vs h hv⟩, trivial⟩
theorem capG1_ok {H : Hps} {A : Type} {f : X → Option A} {R : A → V → Prop} (hf : ∀ x a v, f x = some a → XV H x v → R a v) : ∀ (ts : List (List Ty)) (xs : List X) (a : CapT.CapT1 A ts) (vs : List V), capG1 f ts xs = some a → XVs H xs vs → CapV1 R ts a vs
  | [], xs, a, vs, h, hv => by
    match xs, h, hv with
    | [x], h, hv =>
      have h : f x = some a := h
      simp only [XVs] at hv
      obtain ⟨v, r, rfl, h1, rfl⟩ := hv
      simp only [CapV1]
      exact ⟨v, rfl, hf x a v h h1⟩
  | τ :: ts, xs, a, vs, h, hv => by
    match xs, h, hv with
    | x :: r, h, hv =>
      have h : pairO (f x) (capG1 (cpG τ) ts r) = some a := h
      obtain ⟨ha, hr⟩ := pairO_some h
      simp only [XVs] at hv
      obtain ⟨v, r', rfl, h1, h2⟩ := hv
      simp only [CapV1]
      exact ⟨v, r', rfl, hf x _ v ha h1, capG1_ok (R := fun (y : RowT τ) v => ∃ row, v = .cp row 0 ∧ RowV τ y row) (fun x a v hxa hxv => (cpG_ok hxa hxv).1) ts r _ r' hr h2⟩
theorem capGs_ok {H : Hps} (ts : List (List Ty)) (xs : List X) (a : CapT ts) (vs : List V) (h : capGs ts xs = some a) (hv : XVs H xs vs) : CapV ts a vs := by
  cases ts with
  | nil =>
    match xs, h, hv with
    | [], h, hv => simp only [XVs] at hv; subst hv; simp only [CapV]
  | cons τ ts =>
    simp only [CapV]
    exact capG1_ok (R := fun (y : RowT τ) v => ∃ row, v = .cp row 0 ∧ RowV τ y row) (fun x a v hxa hxv => (cpG_ok hxa hxv).1) ts xs a vs h hv
theorem capG1_cur {H : Hps} {A : Type} {f : X → Option A} (hf : ∀ x a, f x = some a → ∃ row, x = .cp row 0) : ∀ (ts : List (List Ty)) (xs : List X) (a : CapT.CapT1 A ts), capG1 f ts xs = some a → ∀ x ∈ xs, ∃ row, x = .cp row 0
  | [], xs, a, h => by
    match xs, h with
    | [x], h => intro y hy; rw [List.mem_singleton.1 hy]; exact hf x a h
  | τ :: ts, xs, a, h => by
    match xs, h with
    | x :: r, h =>
      have h : pairO (f x) (capG1 (cpG τ) ts r) = some a := h
      obtain ⟨ha, hr⟩ := pairO_some h
      intro y hy
      rcases List.mem_cons.1 hy with rfl | hy
      · exact hf _ _ ha
      · exact capG1_cur (H := H) (fun x a h => by unfold cpG at h; split at h <;> first | exact ⟨_, rfl⟩ | cases h) ts r _ hr y hy
theorem capGs_cur (ts : List (List Ty)) (xs : List X) (a : CapT ts) (h : capGs ts xs = some a) : ∀ x ∈ xs, ∃ row, x = .cp row 0 := by
  cases ts with
  | nil =>
    match xs, h with
    | [], h => intro x hx; cases hx
  | cons τ ts => exact capG1_cur (H := ⟨0, fun _ => none, fun _ => none⟩) (fun x a h => by unfold cpG at h; split at h <;> first | exact ⟨_, rfl⟩ | cases h) ts xs a h

inductive DK where
  | c (i : Nat) (t : Ty)
  | g (i : Nat) (τ : List Ty)
  | rd (i : Nat) (τ : List Ty)
  | list (i o ty es : Nat) (τ : List Ty)
  | arr (i o ty es : Nat) (τ : List Ty)
  | box (i o ty es : Nat) (τ : List Ty)
  | boxo (i o ty es : Nat) (τ : List Ty) (j q tyq esq : Nat) (ns : List Nat)
  | boxo2 (i o ty es : Nat) (τ : List Ty) (j q tyq esq j2 q2 tyq2 esq2 : Nat)
  | cp (i : Nat) (τ : List Ty)
  | fn (i : Nat) (f : FuncId) (caps : List (List Ty))

def DK.T : DK → Type
  | .c _ t => t.T
  | .g _ τ => RowT τ
  | .rd _ τ => List (RowT τ)
  | .list _ _ _ _ τ => List (RowT τ)
  | .arr _ _ _ _ τ => List (RowT τ)
  | .box _ _ _ _ τ => RowT τ
  | .boxo _ _ _ _ τ _ _ _ _ _ => RowT τ
  | .boxo2 _ _ _ _ τ _ _ _ _ _ _ _ _ => RowT τ
  | .cp _ τ => RowT τ
  | .fn _ _ caps => CapT caps
def DsT : List DK → Type
  | [] => Unit
  | d :: ds => DsT1 d.T ds
where
  DsT1 (A : Type) : List DK → Type
  | [] => A
  | d :: ds => A × DsT1 d.T ds

abbrev Srcs := List (Nat × Option Nat)

def lstD (h : Nat → Option XOb) (ty es : Nat) : Option Ty → Option X → Option (X × Option Nat)
  | some (.sl σ), some .nil => some (.sl σ [], none)
  | some (.sl σ), some (.ref p ver) => match h p with
    | some (.t v ty' es' σ' l) => if hτ : tysEq σ' σ = true then bif Nat.beq v ver && Nat.beq ty' ty && Nat.beq es' es then some (.sl σ (castL l hτ), some p) else none else none
    | some (.u v ty' es' imp rows) => bif Nat.beq v ver && Nat.beq ty' ty && Nat.beq es' es && !imp then (match rowsD σ rows with
      | some l => some (.sl σ l, some p)
      | none => none) else none
    | none => none
  | _, _ => none
def nilD (row : List X) : List Nat → Bool
  | [] => true
  | k :: ns => (match row[k]? with
    | some .nil => true
    | _ => false) && nilD row ns
def setN {A : Type} (v : A) (row : List A) : List Nat → List A
  | [] => row
  | k :: ns => (setN v row ns).set k v
def DK.get (xs : XSt) (d : DK) : Option (d.T × List Nat × Srcs) := match d with
  | .c i t => match sclD xs.h t (xs.t i) with
    | some (v, f) => some (v, f, [])
    | none => none
  | .g i τ => match xs.t i with
    | .agg true cs => (match srowD xs.h τ cs with
      | some (v, f) => some (v, f, [])
      | none => none)
    | .agg false cs => (match rowD τ cs with
      | some v => some (v, [], [])
      | none => none)
    | _ => none
  | .rd i τ => match xs.t i with
    | .rd σ l => if hτ : tysEq σ τ = true then some (castL l hτ, [], []) else none
    | _ => none
  | .list i o ty es τ => match xs.t i with
    | .nil => some ([], [], [(o, none)])
    | .ref p ver => (match xs.h p with
      | some (.t v ty' es' σ l) => if hτ : tysEq σ τ = true then bif Nat.beq v ver && Nat.beq ty' ty && Nat.beq es' es then some (castL l hτ, [], [(o, some p)]) else none else none
      | some (.u v ty' es' imp rows) => bif Nat.beq v ver && Nat.beq ty' ty && Nat.beq es' es && !imp then (match rowsD τ rows with
        | some l => some (l, [], [(o, some p)])
        | none => none) else none
      | none => none)
    | _ => none
  | .arr i o ty es τ => match xs.t i with
    | .ptr p ver 0 0 => (match xs.h p with
      | some (.t v ty' es' σ l) => if hτ : tysEq σ τ = true then bif Nat.beq v ver && Nat.beq ty' ty && Nat.beq es' es then some (castL l hτ, [], [(o, some p)]) else none else none
      | _ => none)
    | _ => none
  | .box i o ty es τ => match xs.t i with
    | .ptr p ver 0 0 => (match xs.h p with
      | some (.u v ty' es' imp [row]) => bif Nat.beq v ver && Nat.beq ty' ty && Nat.beq es' es then (match srowD xs.h τ row with
        | some (v, f) => some (v, f, [(o, some p)])
        | none => none) else none
      | _ => none)
    | _ => none
  | .boxo i o ty es τ j q tyq esq ns => match xs.t i with
    | .ptr p ver 0 0 => (match xs.h p with
      | some (.u v ty' es' imp [row]) => bif Nat.beq v ver && Nat.beq ty' ty && Nat.beq es' es && nilD row ns then (match lstD xs.h tyq esq τ[j]? row[j]? with
        | some (ce, src) => (match srowD xs.h τ (row.set j ce) with
          | some (v, f) => some (v, f, [(o, some p), (q, src)])
          | none => none)
        | none => none) else none
      | _ => none)
    | _ => none
  | .boxo2 i o ty es τ j q tyq esq j2 q2 tyq2 esq2 => match xs.t i with
    | .ptr p ver 0 0 => (match xs.h p with
      | some (.u v ty' es' imp [row]) => bif Nat.beq v ver && Nat.beq ty' ty && Nat.beq es' es && !Nat.beq j j2 && !Nat.beq q q2 then (match lstD xs.h tyq esq τ[j]? row[j]? with
        | some (ce, src) => (match lstD xs.h tyq2 esq2 τ[j2]? row[j2]? with
          | some (ce2, src2) => (match srowD xs.h τ ((row.set j ce).set j2 ce2) with
            | some (v, f) => some (v, f, [(o, some p), (q, src), (q2, src2)])
            | none => none)
          | none => none)
        | none => none) else none
      | _ => none)
    | _ => none
  | .cp i τ => match cpG τ (xs.t i) with
    | some v => some (v, [], [])
    | none => none
  | .fn i f caps => match xs.t i with
    | .fn fid l => bif Nat.beq fid f then (match capGs caps l with
      | some v => some (v, [], [])
      | none => none) else none
    | _ => none

def pair3 {A B : Type} (a : Option (A × List Nat × Srcs)) (b : Option (B × List Nat × Srcs)) : Option ((A × B) × List Nat × Srcs) := match a with
  | some (a, f, s) => match b with
    | some (b, g, t) => some ((a, b), f ++ g, s ++ t)
    | none => none
  | none => none

def dsGet1 {A : Type} (xs : XSt) (a : Option (A × List Nat × Srcs)) : (ds : List DK) → Option (DsT.DsT1 A ds × List Nat × Srcs)
  | [] => a
  | d :: ds => pair3 a (dsGet1 xs (d.get xs) ds)
def dsGet (xs : XSt) : (ds : List DK) → Option (DsT ds × List Nat × Srcs)
  | [] => some ((), [], [])
  | d :: ds => dsGet1 xs (d.get xs) ds

structure LD where
  ds : List DK
  als : List (Nat × Nat)
  ln : Nat := 0

def somesOf : Srcs → List Nat
  | [] => []
  | (_, some p) :: r => p :: somesOf r
  | (_, none) :: r => somesOf r
def disjN (a b : List Nat) : Bool := a.all fun x => !memN x b
def lookS (o : Nat) : Srcs → Option (Option Nat)
  | [] => none
  | (o', p) :: r => bif Nat.beq o o' then some p else lookS o r

def alOK (xs : XSt) (sr : Srcs) : List (Nat × Nat) → Bool
  | [] => true
  | (i, o) :: r => (match lookS o sr with
    | some (some p) => (match xs.t i with
      | .ref q ver => Nat.beq q p && curO xs.h p ver
      | _ => false)
    | some none => (match xs.t i with
      | .nil => true
      | _ => false)
    | none => false) && alOK xs sr r

def lnOK (ln : Nat) (f : List Nat) (sr : Srcs) : Bool := match ln with
  | 0 => true
  | n + 1 => f.isEmpty && sr.all fun q => match q with
    | (o, some p) => Nat.beq o p || !(Nat.ble 500 o && Nat.blt o (500 + (n + 1)))
    | (o, none) => !(Nat.ble 500 o && Nat.blt o (500 + (n + 1)))
def LnI (I : Imp) (ln : Nat) : Prop := ((∀ b, ¬ I.P b) ∧ ∀ o, ¬ I.q o) ∨ (0 < ln ∧ ∀ o, I.q o → 500 ≤ o ∧ o < 500 + ln)

def LD.get (D : LD) (xs : XSt) : Option (DsT D.ds) := match dsGet xs D.ds with
  | some (v, f, sr) => bif nodupN (sr.map (·.1)) && nodupN (somesOf sr) && disjN f (somesOf sr) && alOK xs sr D.als && lnOK D.ln f sr then some v else none
  | none => none

def XSt.ext (s : XSt) (i : Nat) (x : X) (o : Nat) (ob : XOb) : XSt := ⟨fun j => bif Nat.beq j i then x else s.t j, fun p => bif Nat.beq p o then some ob else s.h p, s.c + 1⟩
def XSt.ext0 (s : XSt) (o : Nat) (ob : XOb) : XSt := ⟨s.t, fun p => bif Nat.beq p o then some ob else s.h p, s.c + 1⟩
def putO (i o ty es j q tyq esq : Nat) (ns : List Nat) (cs : List X) (s : XSt) : XSt := match cs[j]? with
  | some (.sl σ l) => (s.ext0 q (.t s.c tyq esq σ l)).ext i (.ptr o (s.c + 1) 0 0) o (.u (s.c + 1) ty es true [setN .nil (cs.set j (.ref q s.c)) ns])
  | _ => s
def putO2 (i o ty es j q tyq esq j2 q2 tyq2 esq2 : Nat) (cs : List X) (s : XSt) : XSt := match cs[j]? with
  | some (.sl σ l) => (match cs[j2]? with
    | some (.sl σ2 l2) => ((s.ext0 q2 (.t s.c tyq2 esq2 σ2 l2)).ext0 q (.t (s.c + 1) tyq esq σ l)).ext i (.ptr o (s.c + 2) 0 0) o (.u (s.c + 2) ty es true [(cs.set j2 (.ref q2 s.c)).set j (.ref q (s.c + 1))])
    | _ => s)
  | _ => s
def DK.put (d : DK) (x : d.T) (s : XSt) : XSt := match d with
  | .c i t => s.put (some i) (cellX t x)
  | .g i τ => s.put (some i) (.agg false (rowX τ x))
  | .rd i τ => s.put (some i) (.rd τ x)
  | .list i o ty es τ => s.ext i (.ref o s.c) o (.t s.c ty es τ x)
  | .arr i o ty es τ => s.ext i (.ptr o s.c 0 0) o (.t s.c ty es τ x)
  | .box i o ty es τ => s.ext i (.ptr o s.c 0 0) o (.u s.c ty es false [rowX τ x])
  | .boxo i o ty es τ j q tyq esq ns => putO i o ty es j q tyq esq ns (rowX τ x) s
  | .boxo2 i o ty es τ j q tyq esq j2 q2 tyq2 esq2 => putO2 i o ty es j q tyq esq j2 q2 tyq2 esq2 (rowX τ x) s
  | .cp i τ => s.put (some i) (.cp (rowX τ x) 0)
  | .fn i f caps => s.put (some i) (.fn f (capX caps x))
def base0 : XSt := ⟨fun _ => .dead, fun _ => none, 0⟩
def dsMk1 {A : Type} (f : A → XSt → XSt) : (ds : List DK) → DsT.DsT1 A ds → XSt
  | [], x => f x base0
  | d :: ds, x => f (Prod.fst x) (dsMk1 (DK.put d) ds (Prod.snd x))
def dsMk : (ds : List DK) → DsT ds → XSt
  | [], _ => base0
  | d :: ds, x => dsMk1 (DK.put d) ds x
def alPut (s : XSt) : List (Nat × Nat) → XSt
  | [] => s
  | (i, o) :: r => (alPut s r).put (some i) (match s.h o with
    | some ob => .ref o ob.ver
    | none => .dead)
def LD.mk' (D : LD) (x : DsT D.ds) : XSt := alPut (dsMk D.ds x) D.als

/-! ### It is the same state -/
section
variable {xs : XSt} {s : St} {F : Nat → Prop}

theorem rowV_pureC {τ : List Ty} {y : RowT τ} {row : List V} (h : RowV τ y row) : All2 (pureC s F) row row := by
  have h1 := rowV_deep τ y row h
  have : ∀ (l : List V), (∀ y ∈ l, PureV y) → All2 (pureC s F) l l := by
    intro l
    induction l with
    | nil => intro _; trivial
    | cons x l ih =>
      intro hl
      refine ⟨.inl ⟨rfl, ?_⟩, ih (fun y hy => hl y (List.mem_cons_of_mem _ hy))⟩
      have := hl x (List.mem_cons_self ..)
      cases this <;> exact ⟨rfl, fun cs h => by cases h⟩
  exact this row h1

theorem ob_refl {ρ : Nat → Option Nat} {τ : List Ty} {l : List (RowT τ)} {ob : Ob} (h : RowsV τ l ob.rows) : obR s ρ F ob ob := by
  refine ⟨rfl, rfl, ?_⟩
  have : ∀ (l : List (RowT τ)) (rows : List (List V)), RowsV τ l rows → All2 (All2 fun x x' => cellR s ρ F x x' ∧ (ob.imp = false → pureC s F x x')) rows rows := by
    intro l
    induction l with
    | nil => intro rows h; cases rows with
      | nil => trivial
      | cons _ _ => exact h.elim
    | cons x l ih => intro rows h; cases rows with
      | nil => exact h.elim
      | cons row rows => exact ⟨All2.mono (fun a b h => ⟨.inl h, fun _ => h⟩) (rowV_pureC h.1), ih rows h.2⟩
  exact this l ob.rows h

/-! ### Laying a state -/
def St.ext (s : St) (i : Nat) (v : V) (o : Nat) (ob : Ob) : St := ⟨fun j => if j = i then v else s.t j, fun p => if p = o then some ob else s.h p⟩

theorem RS.extR {ys : XSt} {t : St} (R : RS ys t) (i : Nat) {x : X} {v : V} (o : Nat) {ob : XOb} {ob' : Ob} (hver : ob.ver = ys.c) (hob : XObV ⟨ys.c, ys.h, t.h⟩ ob ob') (hv : XV ⟨ys.c + 1, (ys.ext i x o ob).h, (t.ext i v o ob').h⟩ x v) : RS (ys.ext i x o ob) (t.ext i v o ob') := by
  have L : HLe (fun _ => false) ⟨ys.c, ys.h, t.h⟩ ⟨ys.c + 1, (ys.ext i x o ob).h, (t.ext i v o ob').h⟩ := by
    refine ⟨Nat.le_succ _, fun p xob' h1 h2 => ?_⟩
    simp only [XSt.ext, beq_if] at h1
    by_cases hp : p = o
    · rw [if_pos hp] at h1; cases h1; simp only at h2; omega
    · rw [if_neg hp] at h1
      exact ⟨rfl, ⟨xob', h1, rfl⟩, fun ob2 h3 => ⟨ob2, by simp only [St.ext]; rw [if_neg hp]; exact h3, rfl⟩⟩
  refine ⟨fun j => ?_, fun p xob h => ?_⟩
  · show XV _ (bif Nat.beq j i then x else ys.t j) (if j = i then v else t.t j)
    rw [beq_if]
    by_cases hj : j = i
    · rw [if_pos hj, if_pos hj]; exact hv
    · rw [if_neg hj, if_neg hj]; exact XV.frame L _ _ (R.t j)
  · have h' := h
    simp only [XSt.ext, beq_if] at h
    by_cases hp : p = o
    · rw [if_pos hp] at h; cases h; subst hp
      refine ⟨by show ob.ver < ys.c + 1; omega, ob', by simp [St.ext], ?_⟩
      have := hob.frame L
      rw [Ob.kill_none] at this; exact this
    · rw [if_neg hp] at h
      obtain ⟨h1, ob2, h2, h3⟩ := R.h p xob h
      refine ⟨by show xob.ver < ys.c + 1; omega, ob2, by simp [St.ext, hp, h2], ?_⟩
      have := h3.frame L
      rw [Ob.kill_none] at this; exact this

structure Part (xs : XSt) (s : St) (ρ : Nat → Option Nat) (F : Nat → Prop) (names : List Nat) (ys : XSt) (t : St) : Prop where
  rs : RS ys t
  tt : ∀ i, t.t i = .dead ∨ slotR s ρ F (s.t i) (t.t i)
  hh : ∀ o ob', t.h o = some ob' → o ∈ names ∧ ((∃ p ob, ρ o = some p ∧ ¬ F p ∧ s.h p = some ob ∧ obR s ρ F ob ob') ∨ (ρ o = none ∧ ob'.rows = []))

theorem part_base (ρ : Nat → Option Nat) : Part xs s ρ F [] base0 ⟨fun _ => .dead, fun _ => none⟩ :=
  ⟨⟨fun i => by simp only [base0, XV], fun o xob h => by cases h⟩, fun i => .inl rfl, fun o ob' h => by cases h⟩

theorem Part.put {ρ : Nat → Option Nat} {names : List Nat} {ys : XSt} {t : St} (Q : Part xs s ρ F names ys t) (i : Nat) {x : X} {v : V} (hx : XV ⟨ys.c, ys.h, t.h⟩ x v) (hr : v = .dead ∨ slotR s ρ F (s.t i) v) : Part xs s ρ F names (ys.put (some i) x) (t.put (some i) v) := by
  refine ⟨Q.rs.putR (some i) hx, fun j => ?_, Q.hh⟩
  simp only [St.put]
  split
  · rename_i hj; subst hj; exact hr
  · exact Q.tt j

theorem Part.ext {ρ : Nat → Option Nat} {names : List Nat} {ys : XSt} {t : St} (Q : Part xs s ρ F names ys t) (i : Nat) {x : X} {v : V} (o : Nat) {ob : XOb} {ob' : Ob} (hver : ob.ver = ys.c) (hob : XObV ⟨ys.c, ys.h, t.h⟩ ob ob')
    (hv : XV ⟨ys.c + 1, (ys.ext i x o ob).h, (t.ext i v o ob').h⟩ x v) (hr : slotR s ρ F (s.t i) v)
    (ho : (∃ p ob, ρ o = some p ∧ ¬ F p ∧ s.h p = some ob ∧ obR s ρ F ob ob') ∨ (ρ o = none ∧ ob'.rows = [])) : Part xs s ρ F (o :: names) (ys.ext i x o ob) (t.ext i v o ob') := by
  refine ⟨Q.rs.extR i o hver hob hv, fun j => ?_, fun p ob2 h => ?_⟩
  · simp only [St.ext]
    split
    · rename_i hj; subst hj; exact .inr hr
    · exact Q.tt j
  · simp only [St.ext] at h
    split at h
    · rename_i hp; cases h; subst hp; exact ⟨List.mem_cons_self .., ho⟩
    · obtain ⟨h1, h2⟩ := Q.hh p ob2 h; exact ⟨List.mem_cons_of_mem _ h1, h2⟩

theorem RS.ext0R {ys : XSt} {t : St} (R : RS ys t) (o : Nat) {ob : XOb} {ob' : Ob} (hver : ob.ver = ys.c) (hob : XObV ⟨ys.c, ys.h, t.h⟩ ob ob') : RS (ys.ext0 o ob) ⟨t.t, fun p => if p = o then some ob' else t.h p⟩ := by
  have L : HLe (fun _ => false) ⟨ys.c, ys.h, t.h⟩ ⟨ys.c + 1, (ys.ext0 o ob).h, fun p => if p = o then some ob' else t.h p⟩ := by
    refine ⟨Nat.le_succ _, fun p xob' h1 h2 => ?_⟩
    simp only [XSt.ext0, beq_if] at h1
    by_cases hp : p = o
    · rw [if_pos hp] at h1; cases h1; simp only at h2; omega
    · rw [if_neg hp] at h1
      exact ⟨rfl, ⟨xob', h1, rfl⟩, fun ob2 h3 => ⟨ob2, by simp only; rw [if_neg hp]; exact h3, rfl⟩⟩
  refine ⟨fun j => XV.frame L _ _ (R.t j), fun p xob h => ?_⟩
  have h' := h
  simp only [XSt.ext0, beq_if] at h
  by_cases hp : p = o
  · rw [if_pos hp] at h; cases h; subst hp
    refine ⟨by show ob.ver < ys.c + 1; omega, ob', by simp, ?_⟩
    have := hob.frame L
    rw [Ob.kill_none] at this; exact this
  · rw [if_neg hp] at h
    obtain ⟨h1, ob2, h2, h3⟩ := R.h p xob h
    refine ⟨by show xob.ver < ys.c + 1; omega, ob2, by simp [hp, h2], ?_⟩
    have := h3.frame L
    rw [Ob.kill_none] at this; exact this
theorem Part.ext0 {ρ : Nat → Option Nat} {names : List Nat} {ys : XSt} {t : St} (Q : Part xs s ρ F names ys t) (o : Nat) {ob : XOb} {ob' : Ob} (hver : ob.ver = ys.c) (hob : XObV ⟨ys.c, ys.h, t.h⟩ ob ob')
    (ho : (∃ p ob, ρ o = some p ∧ ¬ F p ∧ s.h p = some ob ∧ obR s ρ F ob ob') ∨ (ρ o = none ∧ ob'.rows = [])) : Part xs s ρ F (o :: names) (ys.ext0 o ob) ⟨t.t, fun p => if p = o then some ob' else t.h p⟩ := by
  refine ⟨Q.rs.ext0R o hver hob, Q.tt, fun p ob2 h => ?_⟩
  simp only at h
  split at h
  · rename_i hp; cases h; subst hp; exact ⟨List.mem_cons_self .., ho⟩
  · obtain ⟨h1, h2⟩ := Q.hh p ob2 h; exact ⟨List.mem_cons_of_mem _ h1, h2⟩
theorem lstD_ok (R : RS xs s) {ty es j : Nat} {τ : List Ty} {row : List X} {row' : List V} {c : X} {src : Option Nat} (h : lstD xs.h ty es τ[j]? row[j]? = some (c, src)) (hv : XVs ⟨xs.c, xs.h, s.h⟩ row row') :
    ∃ b ob2, row'[j]? = some b ∧ ob2.ty = ty ∧ ob2.es = es ∧ ob2.imp = false ∧ (∃ σ l, c = .sl σ l ∧ RowsV σ l ob2.rows) ∧ ((∃ p2, src = some p2 ∧ b = .ref p2 ob2.rows.length ∧ s.h p2 = some ob2) ∨ (src = none ∧ b = .nil ∧ ob2.rows = [])) := by
  cases hx : row[j]? with
  | none => rw [hx] at h; unfold lstD at h; split at h <;> simp_all
  | some x =>
    obtain ⟨b, hb, hxb⟩ := hv.at j x hx
    rw [hx] at h
    unfold lstD at h
    split at h <;> try (cases h; done)
    · rename_i σ h1 h2
      cases h2
      simp only [Option.some.injEq, Prod.mk.injEq] at h
      obtain ⟨rfl, rfl⟩ := h
      simp only [XV] at hxb
      exact ⟨b, ⟨ty, es, false, []⟩, hb, rfl, rfl, rfl, ⟨σ, [], rfl, trivial⟩, .inr ⟨rfl, hxb, rfl⟩⟩
    · rename_i σ p ver h1 h2
      cases h2
      split at h <;> try (cases h; done)
      · rename_i v ty' es' σ' l ho
        split at h <;> try (cases h; done)
        rename_i hτ
        obtain ⟨hc, h⟩ := cond_some h
        simp only [Bool.and_eq_true] at hc
        simp only [Option.some.injEq, Prod.mk.injEq] at h
        obtain ⟨rfl, rfl⟩ := h
        obtain ⟨xob, ob, g1, g2, g3, g4, rfl⟩ := cur_ref (H := ⟨xs.c, xs.h, s.h⟩) R.h hxb (by unfold curO; simp only; rw [ho]; exact hc.1.1)
        simp only at g1 g3
        rw [ho] at g1; cases g1
        obtain ⟨k1, k2, k3, k4⟩ := g4
        exact ⟨_, ob, hb, k1.trans (Nat.eq_of_beq_eq_true hc.1.2), k2.trans (Nat.eq_of_beq_eq_true hc.2), k3, ⟨σ, _, rfl, (castL_rows _ hτ _).2 k4⟩, .inl ⟨p, rfl, rfl, g3⟩⟩
      · rename_i v ty' es' imp rows ho
        obtain ⟨hc, h⟩ := cond_some h
        simp only [Bool.and_eq_true, Bool.not_eq_true'] at hc
        split at h <;> try (cases h; done)
        rename_i l hl
        simp only [Option.some.injEq, Prod.mk.injEq] at h
        obtain ⟨rfl, rfl⟩ := h
        obtain ⟨xob, ob, g1, g2, g3, g4, rfl⟩ := cur_ref (H := ⟨xs.c, xs.h, s.h⟩) R.h hxb (by unfold curO; simp only; rw [ho]; exact hc.1.1.1)
        simp only at g1 g3
        rw [ho] at g1; cases g1
        obtain ⟨k1, k2, k3, k4⟩ := g4
        exact ⟨_, ob, hb, k1.trans (Nat.eq_of_beq_eq_true hc.1.1.2), k2.trans (Nat.eq_of_beq_eq_true hc.1.2), k3.trans hc.2, ⟨σ, l, rfl, mapM_rows hl k4⟩, .inl ⟨p, rfl, rfl, g3⟩⟩
theorem all2_set {R R' : V → V → Prop} (hR : ∀ x x', R x x' → R' x x') : ∀ {j : Nat} {vs vs' : List V} {a b c : V}, vs[j]? = some b → R' b c → All2 R (vs.set j a) vs' → All2 R' vs (vs'.set j c) ∧ ∃ y, vs'[j]? = some y ∧ R a y
  | 0, v :: vs, w :: vs', a, b, c, h, hb, hA => by
    simp at h
    subst h
    obtain ⟨h1, h2⟩ := hA
    exact ⟨⟨hb, All2.mono (fun x y h => hR x y h) h2⟩, w, rfl, h1⟩
  | j + 1, v :: vs, w :: vs', a, b, c, h, hb, hA => by
    obtain ⟨h1, h2⟩ := hA
    obtain ⟨i1, i2⟩ := all2_set hR (j := j) (by simpa using h) hb h2
    exact ⟨⟨hR _ _ h1, i1⟩, i2⟩
  | _, [], _, _, _, _, h, _, _ => by simp at h
  | 0, v :: vs, [], _, _, _, _, _, hA => hA.elim
  | j + 1, v :: vs, [], _, _, _, _, _, hA => hA.elim
theorem all2_setN {R' : V → V → Prop} : ∀ {k : Nat} {vs vs' : List V} {b c : V}, vs[k]? = some b → R' b c → All2 R' vs vs' → All2 R' vs (vs'.set k c)
  | 0, v :: vs, w :: vs', b, c, h, hb, hA => by simp at h; subst h; exact ⟨hb, hA.2⟩
  | k + 1, v :: vs, w :: vs', b, c, h, hb, hA => ⟨hA.1, all2_setN (k := k) (by simpa using h) hb hA.2⟩
  | _, [], _, _, _, h, _, _ => by simp at h
  | 0, v :: vs, [], _, _, _, _, hA => hA.elim
  | k + 1, v :: vs, [], _, _, _, _, hA => hA.elim
theorem setN_xvs {H : Hps} : ∀ (ns : List Nat) {ws : List X} {vs : List V}, XVs H ws vs → XVs H (setN .nil ws ns) (setN .nil vs ns)
  | [], _, _, hw => hw
  | _ :: ns, _, _, hw => xvs_set (setN_xvs ns hw) (by simp only [XV])
theorem nilD_ok {R' : V → V → Prop} (hR : R' .nil .nil) {H : Hps} {row : List X} {row' : List V} (hv : XVs H row row') : ∀ (ns : List Nat) {vs : List V}, nilD row ns = true → All2 R' row' vs → All2 R' row' (setN .nil vs ns)
  | [], vs, h, hA => hA
  | k :: ns, vs, h, hA => by
    simp only [nilD, Bool.and_eq_true] at h
    have h1 := h.1
    split at h1 <;> try (cases h1; done)
    rename_i hk
    obtain ⟨b, hb, hxb⟩ := hv.at k _ hk
    simp only [XV] at hxb
    subst hxb
    exact all2_setN hb hR (nilD_ok hR hv ns h.2 hA)
theorem Part.skip {ρ : Nat → Option Nat} {names more : List Nat} {ys : XSt} {t : St} (Q : Part xs s ρ F names ys t) : Part xs s ρ F (more ++ names) ys t :=
  ⟨Q.rs, Q.tt, fun o ob' h => by obtain ⟨h1, h2⟩ := Q.hh o ob' h; exact ⟨List.mem_append_right _ h1, h2⟩⟩
theorem get_put (R : RS xs s) {ρ : Nat → Option Nat} (d : DK) {x : d.T} {f : List Nat} {sr : Srcs} (h : d.get xs = some (x, f, sr)) (hF : ∀ p ∈ f, F p) (hρ : ∀ o p, (o, p) ∈ sr → ρ o = p ∧ ∀ q, p = some q → ¬ F q)
    {names : List Nat} {ys : XSt} {t : St} (Q : Part xs s ρ F names ys t) : ∃ t', Part xs s ρ F (sr.map (·.1) ++ names) (d.put x ys) t' := by
  cases d with
  | c i ty =>
    simp only [DK.get] at h
    split at h <;> try (cases h; done)
    rename_i v g hg
    simp only [Option.some.injEq, Prod.mk.injEq] at h
    obtain ⟨rfl, rfl, rfl⟩ := h
    obtain ⟨v', h1, h2⟩ := sclD_ok R ty hg (R.t i) hF
    exact ⟨_, Q.put i (cell_xv ty _ v' h2) (.inr (.inl (.inl h1)))⟩
  | g i τ =>
    simp only [DK.get] at h
    split at h <;> try (cases h; done)
    · rename_i cs hcs
      split at h <;> try (cases h; done)
      rename_i v g hg
      simp only [Option.some.injEq, Prod.mk.injEq] at h
      obtain ⟨rfl, rfl, rfl⟩ := h
      have hx := R.t i
      rw [hcs] at hx
      simp only [XV] at hx
      obtain ⟨vs, e1, e2⟩ := hx
      obtain ⟨vs', h1, h2⟩ := srowD_ok R τ hg e2 hF
      exact ⟨_, Q.put i (v := .agg vs') (by simp only [XV]; exact ⟨vs', rfl, row_xv τ _ vs' h2⟩) (.inr (.inr (.inr (.inl ⟨vs, vs', e1, rfl, h1⟩))))⟩
    · rename_i cs hcs
      split at h <;> try (cases h; done)
      rename_i v hg
      simp only [Option.some.injEq, Prod.mk.injEq] at h
      obtain ⟨rfl, rfl, rfl⟩ := h
      have hx := R.t i
      rw [hcs] at hx
      simp only [XV] at hx
      obtain ⟨vs, e1, e2⟩ := hx
      have h2 := rowD_ok τ cs _ vs hg e2
      exact ⟨_, Q.put i (v := .agg vs) (by simp only [XV]; exact ⟨vs, rfl, row_xv τ _ vs h2⟩) (.inr (.inr (.inl ⟨by rw [e1]; rfl, .inr (.inr (.inl ⟨vs, e1⟩))⟩)))⟩
  | rd i τ =>
    simp only [DK.get] at h
    split at h <;> try (cases h; done)
    rename_i σ l hl
    split at h <;> try (cases h; done)
    rename_i hτ
    simp only [Option.some.injEq, Prod.mk.injEq] at h
    obtain ⟨rfl, rfl, rfl⟩ := h
    have hx := R.t i
    rw [hl] at hx
    simp only [XV] at hx
    obtain ⟨rows, e1, e2⟩ := hx
    exact ⟨_, Q.put i (v := .rd rows) (by simp only [XV]; exact ⟨rows, rfl, (castL_rows _ hτ rows).2 e2⟩) (.inr (.inr (.inl ⟨by rw [e1], .inl ⟨rows, e1⟩⟩)))⟩
  | cp i τ =>
    simp only [DK.get] at h
    split at h <;> try (cases h; done)
    rename_i v hg
    simp only [Option.some.injEq, Prod.mk.injEq] at h
    obtain ⟨rfl, rfl, rfl⟩ := h
    obtain ⟨⟨row, e1, e2⟩, _⟩ := cpG_ok hg (R.t i)
    exact ⟨_, Q.put i (v := .cp row 0) (by simp only [XV]; exact ⟨row, rfl, row_xv τ _ row e2⟩) (.inr (.inr (.inl ⟨by rw [e1], .inr (.inl ⟨row, 0, e1⟩)⟩)))⟩
  | fn i f caps =>
    simp only [DK.get] at h
    split at h <;> try (cases h; done)
    rename_i g l hl
    obtain ⟨hb, h⟩ := cond_some h
    split at h <;> try (cases h; done)
    rename_i v hg
    simp only [Option.some.injEq, Prod.mk.injEq] at h
    obtain ⟨rfl, rfl, rfl⟩ := h
    have hx := R.t i
    rw [hl, Nat.eq_of_beq_eq_true hb] at hx
    simp only [XV] at hx
    obtain ⟨vs, e1, e2⟩ := hx.2 (fun x hx => by obtain ⟨row, rfl⟩ := capGs_cur caps l _ hg x hx; trivial)
    have hcv := capGs_ok caps l _ vs hg e2
    obtain ⟨k1, k2⟩ := capX_ok (H := ⟨ys.c, ys.h, t.h⟩) caps _ vs hcv
    refine ⟨_, Q.put i (v := .fn f vs) (by simp only [XV]; exact ⟨k2, fun _ => ⟨vs, rfl, k1⟩⟩) (.inr (.inr (.inl ⟨by rw [e1], .inr (.inr (.inr ⟨f, vs, e1, fun c hc => ?_⟩))⟩)))⟩
    obtain ⟨j, hj⟩ := List.getElem?_of_mem hc
    have hjl : j < l.length := by rw [← e2.len]; exact (List.getElem?_eq_some_iff.1 hj).1
    have hx1 := List.getElem?_eq_getElem hjl
    obtain ⟨c', hc1, hx2⟩ := e2.at j _ hx1
    rw [hj] at hc1
    cases hc1
    generalize l[j] = x at hx1 hx2
    obtain ⟨row, rfl⟩ := capGs_cur caps l _ hg x (List.mem_of_getElem? hx1)
    simp only [XV] at hx2
    obtain ⟨r, rfl, _⟩ := hx2
    exact ⟨r, 0, rfl⟩
  | list i o ty es τ =>
    have xref : ∀ (ob' : Ob) (l : List (RowT τ)), XV ⟨ys.c + 1, (ys.ext i (.ref o ys.c) o (.t ys.c ty es τ l)).h, (t.ext i (.ref o ob'.rows.length) o ob').h⟩ (.ref o ys.c) (.ref o ob'.rows.length) := by
      intro ob' l
      simp only [XV]
      exact ⟨Nat.lt_succ_self _, fun xob _ _ => ⟨ob', by simp [St.ext], rfl⟩⟩
    have old : ∀ (p ver : Nat) (xob : XOb) (l : List (RowT τ)), xs.t i = .ref p ver → xs.h p = some xob → xob.ver = ver → (∀ ob, XObV ⟨xs.c, xs.h, s.h⟩ xob ob → ob.ty = ty ∧ ob.es = es ∧ ob.imp = false ∧ RowsV τ l ob.rows) →
        ρ o = some p → ¬ F p → ∃ t', Part xs s ρ F (o :: names) (ys.ext i (.ref o ys.c) o (.t ys.c ty es τ l)) t' := by
      intro p ver xob l hi hp hver hob hρo hFp
      have hx := R.t i
      rw [hi] at hx
      obtain ⟨xob2, ob, h1, h2, h3, h4, h5⟩ := cur_ref (H := ⟨xs.c, xs.h, s.h⟩) R.h hx (by unfold curO; simp only; rw [hp]; simp only; rw [hver]; exact Nat.beq_refl _)
      simp only at h1 h3
      rw [hp] at h1; cases h1
      obtain ⟨a1, a2, a3, a4⟩ := hob ob h4
      exact ⟨_, Q.ext i (v := .ref o ob.rows.length) (ob' := ob) o rfl ⟨a1, a2, a3, a4⟩ (xref ob l) (.inl (.inr (.inl ⟨o, p, _, h5, hρo, rfl⟩))) (.inl ⟨p, ob, hρo, hFp, h3, ob_refl a4⟩)⟩
    simp only [DK.get] at h
    split at h <;> try (cases h; done)
    · rename_i hi
      simp only [Option.some.injEq, Prod.mk.injEq] at h
      obtain ⟨rfl, rfl, rfl⟩ := h
      have hx := R.t i
      rw [hi] at hx
      simp only [XV] at hx
      have hρo := (hρ o none (by simp)).1
      exact ⟨_, Q.ext i (v := .ref o 0) (ob' := ⟨ty, es, false, []⟩) o rfl ⟨rfl, rfl, rfl, trivial⟩ (xref ⟨ty, es, false, []⟩ []) (.inl (.inr (.inr (.inr (.inl ⟨o, hx, hρo, rfl⟩))))) (.inr ⟨hρo, rfl⟩)⟩
    · rename_i p ver hi
      split at h <;> try (cases h; done)
      · rename_i v' ty' es' σ l hp
        split at h <;> try (cases h; done)
        rename_i hτ
        obtain ⟨hb, h⟩ := cond_some h
        simp only [Bool.and_eq_true] at hb
        simp only [Option.some.injEq, Prod.mk.injEq] at h
        obtain ⟨rfl, rfl, rfl⟩ := h
        obtain ⟨r1, r2⟩ := hρ o (some p) (by simp)
        refine old p ver _ _ hi hp (Nat.eq_of_beq_eq_true hb.1.1) (fun ob hob => ?_) r1 (r2 p rfl)
        obtain ⟨a1, a2, a3, a4⟩ := hob
        exact ⟨by rw [a1]; exact Nat.eq_of_beq_eq_true hb.1.2, by rw [a2]; exact Nat.eq_of_beq_eq_true hb.2, a3, (castL_rows _ hτ _).2 a4⟩
      · rename_i v' ty' es' imp rows hp
        obtain ⟨hb, h⟩ := cond_some h
        simp only [Bool.and_eq_true, Bool.not_eq_true'] at hb
        split at h <;> try (cases h; done)
        rename_i l hl
        simp only [Option.some.injEq, Prod.mk.injEq] at h
        obtain ⟨rfl, rfl, rfl⟩ := h
        obtain ⟨r1, r2⟩ := hρ o (some p) (by simp)
        refine old p ver _ _ hi hp (Nat.eq_of_beq_eq_true hb.1.1.1) (fun ob hob => ?_) r1 (r2 p rfl)
        obtain ⟨a1, a2, a3, a4⟩ := hob
        exact ⟨by rw [a1]; exact Nat.eq_of_beq_eq_true hb.1.1.2, by rw [a2]; exact Nat.eq_of_beq_eq_true hb.1.2, by rw [a3]; exact hb.2, mapM_rows hl a4⟩
  | arr i o ty es τ =>
    simp only [DK.get] at h
    split at h <;> try (cases h; done)
    rename_i p ver hi
    split at h <;> try (cases h; done)
    rename_i v' ty' es' σ l hp
    split at h <;> try (cases h; done)
    rename_i hτ
    obtain ⟨hb, h⟩ := cond_some h
    simp only [Bool.and_eq_true] at hb
    simp only [Option.some.injEq, Prod.mk.injEq] at h
    obtain ⟨rfl, rfl, rfl⟩ := h
    obtain ⟨r1, r2⟩ := hρ o (some p) (by simp)
    have hx := R.t i
    rw [hi] at hx
    obtain ⟨xob2, ob, h1, h2, h3, h4, h6, h5⟩ := cur_ptr (H := ⟨xs.c, xs.h, s.h⟩) R.h hx (by unfold curO; simp only; rw [hp]; exact hb.1.1)
    simp only at h1 h3
    rw [hp] at h1; cases h1
    obtain ⟨a1, a2, a3, a4⟩ := h4
    have a5 := (castL_rows _ hτ _).2 a4
    refine ⟨_, Q.ext i (v := .ptr o ob.rows.length 0 0) (ob' := ob) o rfl ⟨a1.trans (Nat.eq_of_beq_eq_true hb.1.2), a2.trans (Nat.eq_of_beq_eq_true hb.2), a3, a5⟩ ?_ (.inl (.inr (.inr (.inl ⟨o, p, ob.rows.length, 0, 0, h5, r1, rfl⟩)))) (.inl ⟨p, ob, r1, r2 p rfl, h3, ob_refl a5⟩)⟩
    simp only [XV]
    exact ⟨Nat.lt_succ_self _, fun xob _ _ => ⟨ob, by simp [St.ext], h6, rfl⟩⟩
  | box i o ty es τ =>
    simp only [DK.get] at h
    split at h <;> try (cases h; done)
    rename_i p ver hi
    split at h <;> try (cases h; done)
    rename_i v' ty' es' imp row hp
    obtain ⟨hb, h⟩ := cond_some h
    simp only [Bool.and_eq_true] at hb
    split at h <;> try (cases h; done)
    rename_i v g hg
    simp only [Option.some.injEq, Prod.mk.injEq] at h
    obtain ⟨rfl, rfl, rfl⟩ := h
    obtain ⟨r1, r2⟩ := hρ o (some p) (by simp)
    have hx := R.t i
    rw [hi] at hx
    obtain ⟨xob2, ob, h1, h2, h3, h4, h6, h5⟩ := cur_ptr (H := ⟨xs.c, xs.h, s.h⟩) R.h hx (by unfold curO; simp only; rw [hp]; exact hb.1.1)
    simp only at h1 h3
    rw [hp] at h1; cases h1
    obtain ⟨a1, a2, a3, a4⟩ := h4
    match hrows : ob.rows, a4 with
    | [row'], a4 =>
      obtain ⟨vs', g1, g2⟩ := srowD_ok R τ hg a4.1 hF
      refine ⟨_, Q.ext i (v := .ptr o 1 0 0) (ob' := ⟨ty, es, false, [vs']⟩) o rfl ⟨rfl, rfl, rfl, ⟨row_xv τ _ vs' g2, trivial⟩⟩ ?_ (.inl (.inr (.inr (.inl ⟨o, p, 1, 0, 0, by rw [h5, hrows]; rfl, r1, rfl⟩)))) (.inl ⟨p, ob, r1, r2 p rfl, h3, ?_, ?_, ?_⟩)⟩
      · simp only [XV]
        exact ⟨Nat.lt_succ_self _, fun xob _ _ => ⟨⟨ty, es, false, [vs']⟩, by simp [St.ext], by simp, rfl⟩⟩
      · show ty = ob.ty; rw [a1]; exact (Nat.eq_of_beq_eq_true hb.1.2).symm
      · show es = ob.es; rw [a2]; exact (Nat.eq_of_beq_eq_true hb.2).symm
      · rw [hrows]
        exact ⟨All2.mono (fun a b h => ⟨.inl h, fun _ => h⟩) g1, trivial⟩

  | boxo i o ty es τ j q tyq esq ns =>
    simp only [DK.get] at h
    split at h <;> try (cases h; done)
    rename_i p ver hi
    split at h <;> try (cases h; done)
    rename_i v' ty' es' imp row hp
    obtain ⟨hb, h⟩ := cond_some h
    simp only [Bool.and_eq_true] at hb
    split at h <;> try (cases h; done)
    rename_i c src hc
    split at h <;> try (cases h; done)
    rename_i v g hg
    simp only [Option.some.injEq, Prod.mk.injEq] at h
    obtain ⟨rfl, rfl, rfl⟩ := h
    obtain ⟨r1, r2⟩ := hρ o (some p) (by simp)
    obtain ⟨r3, r4⟩ := hρ q src (by simp)
    have hx := R.t i
    rw [hi] at hx
    obtain ⟨xob2, ob, h1, h2, h3, h4, h6, h5⟩ := cur_ptr (H := ⟨xs.c, xs.h, s.h⟩) R.h hx (by unfold curO; simp only; rw [hp]; exact hb.1.1.1)
    simp only at h1 h3
    rw [hp] at h1; cases h1
    obtain ⟨a1, a2, a3, a4⟩ := h4
    match hrows : ob.rows, a4 with
    | [row'], a4 =>
      obtain ⟨b, ob2, b1, b2, b3, b4, ⟨σ, l, rfl, b5⟩, b6⟩ := lstD_ok R hc a4.1
      have hxc : XV ⟨xs.c, xs.h, s.h⟩ (.sl σ l) (.sl ob2.rows) := by simp only [XV]; exact .inr ⟨ob2.rows, rfl, b5⟩
      obtain ⟨vs', g1, g2⟩ := srowD_ok R τ hg (xvs_set (j := j) a4.1 hxc) hF
      have hcell : cellR s ρ F b (.ref q ob2.rows.length) := by
        rcases b6 with ⟨p2, rfl, rfl, b7⟩ | ⟨rfl, rfl, b7⟩
        · exact .inr (.inl ⟨q, p2, _, rfl, r3, rfl⟩)
        · rw [b7]; exact .inr (.inr (.inr (.inl ⟨q, rfl, r3, rfl⟩)))
      obtain ⟨c1, y, c2, c3⟩ := all2_set (R' := fun x x' => cellR s ρ F x x') (fun _ _ h => .inl h) b1 hcell g1
      have hy : y = .sl ob2.rows := by
        rcases c3 with ⟨c3, _⟩ | ⟨_, _, _, c3, _⟩
        · exact c3
        · cases c3
      subst hy
      show ∃ t', Part xs s ρ F (o :: q :: names) (putO i o ty es j q tyq esq ns (rowX τ _) ys) t'
      unfold putO
      split
      · rename_i σ' l' hj
        have hxv := row_xv (H := ⟨ys.c, ys.h, t.h⟩) τ _ vs' g2
        obtain ⟨y2, d1, d2⟩ := hxv.at j _ hj
        rw [c2] at d1
        cases d1
        simp only [XV] at d2
        rcases d2 with ⟨_, d3⟩ | ⟨rows2, d3, d4⟩
        · cases d3
        cases d3
        have Q1 := Q.ext0 q (ob := .t ys.c tyq esq σ' l') (ob' := ob2) rfl ⟨b2, b3, b4, d4⟩ (by
          rcases b6 with ⟨p2, rfl, rfl, b7⟩ | ⟨rfl, rfl, b7⟩
          · exact .inl ⟨p2, ob2, r3, r4 p2 rfl, b7, ob_refl d4⟩
          · exact .inr ⟨r3, b7⟩)
        have hz : cellR s ρ F .nil .nil := .inl (.inl ⟨rfl, rfl, fun cs h => by cases h⟩)
        refine ⟨_, Q1.ext i (v := .ptr o 1 0 0) (ob' := ⟨ty, es, true, [setN .nil (vs'.set j (.ref q ob2.rows.length)) ns]⟩) o rfl ⟨rfl, rfl, rfl, ⟨setN_xvs ns (xvs_set (row_xv τ _ vs' g2) ?_), trivial⟩⟩ ?_ (.inl (.inr (.inr (.inl ⟨o, p, 1, 0, 0, by rw [h5, hrows]; rfl, r1, rfl⟩)))) (.inl ⟨p, ob, r1, r2 p rfl, h3, ?_, ?_, ?_⟩)⟩
        · simp only [XV]
          exact ⟨Nat.lt_succ_self _, fun xob _ _ => ⟨ob2, by simp, rfl⟩⟩
        · simp only [XV]
          exact ⟨Nat.lt_succ_self _, fun xob _ _ => ⟨⟨ty, es, true, [setN .nil (vs'.set j (.ref q ob2.rows.length)) ns]⟩, by simp [St.ext], by simp, rfl⟩⟩
        · show ty = ob.ty; rw [a1]; exact (Nat.eq_of_beq_eq_true hb.1.1.2).symm
        · show es = ob.es; rw [a2]; exact (Nat.eq_of_beq_eq_true hb.1.2).symm
        · rw [hrows]
          exact ⟨All2.mono (fun a b h => ⟨h, fun h2 => by cases h2⟩) (nilD_ok hz a4.1 ns hb.2 c1), trivial⟩
      · exact ⟨t, Q.skip (more := [o, q])⟩

  | boxo2 i o ty es τ j q tyq esq j2 q2 tyq2 esq2 =>
    simp only [DK.get] at h
    split at h <;> try (cases h; done)
    rename_i p ver hi
    split at h <;> try (cases h; done)
    rename_i v' ty' es' imp row hp
    obtain ⟨hb, h⟩ := cond_some h
    simp only [Bool.and_eq_true] at hb
    have hjj : j ≠ j2 := fun e => by have := hb.1.2; rw [e, Nat.beq_refl] at this; cases this
    have hqq : q ≠ q2 := fun e => by have := hb.2; rw [e, Nat.beq_refl] at this; cases this
    split at h <;> try (cases h; done)
    rename_i c src hc
    split at h <;> try (cases h; done)
    rename_i cx srcx hcx
    split at h <;> try (cases h; done)
    rename_i v g hg
    simp only [Option.some.injEq, Prod.mk.injEq] at h
    obtain ⟨rfl, rfl, rfl⟩ := h
    obtain ⟨r1, r2⟩ := hρ o (some p) (by simp)
    obtain ⟨r3, r4⟩ := hρ q src (by simp)
    obtain ⟨r5, r6⟩ := hρ q2 srcx (by simp)
    have hx := R.t i
    rw [hi] at hx
    obtain ⟨xob2, ob, h1, h2, h3, h4, h6, h5⟩ := cur_ptr (H := ⟨xs.c, xs.h, s.h⟩) R.h hx (by unfold curO; simp only; rw [hp]; exact hb.1.1.1.1)
    simp only at h1 h3
    rw [hp] at h1; cases h1
    obtain ⟨a1, a2, a3, a4⟩ := h4
    match hrows : ob.rows, a4 with
    | [row'], a4 =>
      obtain ⟨b, ob2, b1, b2, b3, b4, ⟨σ, l, rfl, b5⟩, b6⟩ := lstD_ok R hc a4.1
      obtain ⟨bx, ob3, e1, e2, e3, e4, ⟨σx, lx, rfl, e5⟩, e6⟩ := lstD_ok R hcx a4.1
      have hxc : XV ⟨xs.c, xs.h, s.h⟩ (.sl σ l) (.sl ob2.rows) := by simp only [XV]; exact .inr ⟨ob2.rows, rfl, b5⟩
      have hxx : XV ⟨xs.c, xs.h, s.h⟩ (.sl σx lx) (.sl ob3.rows) := by simp only [XV]; exact .inr ⟨ob3.rows, rfl, e5⟩
      obtain ⟨vs', g1, g2⟩ := srowD_ok R τ hg (xvs_set (j := j2) (xvs_set (j := j) a4.1 hxc) hxx) hF
      have hcell : cellR s ρ F b (.ref q ob2.rows.length) := by
        rcases b6 with ⟨p2, rfl, rfl, b7⟩ | ⟨rfl, rfl, b7⟩
        · exact .inr (.inl ⟨q, p2, _, rfl, r3, rfl⟩)
        · rw [b7]; exact .inr (.inr (.inr (.inl ⟨q, rfl, r3, rfl⟩)))
      have hcelx : cellR s ρ F bx (.ref q2 ob3.rows.length) := by
        rcases e6 with ⟨p2, rfl, rfl, b7⟩ | ⟨rfl, rfl, b7⟩
        · exact .inr (.inl ⟨q2, p2, _, rfl, r5, rfl⟩)
        · rw [b7]; exact .inr (.inr (.inr (.inl ⟨q2, rfl, r5, rfl⟩)))
      obtain ⟨k1, yx, k2, k3⟩ := all2_set (R' := fun x x' => cellR s ρ F x x') (fun _ _ h => .inl h) (by rw [List.getElem?_set_ne hjj]; exact e1) hcelx g1
      obtain ⟨c1, _⟩ := all2_set (R' := fun x x' => cellR s ρ F x x') (fun _ _ h => h) b1 hcell k1
      have g3 := g1
      rw [List.set_comm _ _ hjj] at g3
      obtain ⟨_, y, c2, c3⟩ := all2_set (R' := fun x x' => cellR s ρ F x x') (fun _ _ h => .inl h) (by rw [List.getElem?_set_ne (Ne.symm hjj)]; exact b1) hcell g3
      have hy : y = .sl ob2.rows := by
        rcases c3 with ⟨c3, _⟩ | ⟨_, _, _, c3, _⟩
        · exact c3
        · cases c3
      have hyx : yx = .sl ob3.rows := by
        rcases k3 with ⟨c3, _⟩ | ⟨_, _, _, c3, _⟩
        · exact c3
        · cases c3
      subst hy; subst hyx
      show ∃ t', Part xs s ρ F (o :: q :: q2 :: names) (putO2 i o ty es j q tyq esq j2 q2 tyq2 esq2 (rowX τ _) ys) t'
      unfold putO2
      split
      · rename_i σ' l' hj
        split
        · rename_i σ'' l'' hj2
          have hxv := row_xv (H := ⟨ys.c, ys.h, t.h⟩) τ _ vs' g2
          obtain ⟨y2, d1, d2⟩ := hxv.at j _ hj
          rw [c2] at d1
          cases d1
          simp only [XV] at d2
          rcases d2 with ⟨_, d3⟩ | ⟨rows2, d3, d4⟩
          · cases d3
          cases d3
          obtain ⟨y3, f1, f2⟩ := hxv.at j2 _ hj2
          rw [k2] at f1
          cases f1
          simp only [XV] at f2
          rcases f2 with ⟨_, f3⟩ | ⟨rows3, f3, f4⟩
          · cases f3
          cases f3
          have Q0 := Q.ext0 q2 (ob := .t ys.c tyq2 esq2 σ'' l'') (ob' := ob3) rfl ⟨e2, e3, e4, f4⟩ (by
            rcases e6 with ⟨p2, rfl, rfl, b7⟩ | ⟨rfl, rfl, b7⟩
            · exact .inl ⟨p2, ob3, r5, r6 p2 rfl, b7, ob_refl f4⟩
            · exact .inr ⟨r5, b7⟩)
          have Q1 := Q0.ext0 q (ob := .t (ys.c + 1) tyq esq σ' l') (ob' := ob2) rfl ⟨b2, b3, b4, d4⟩ (by
            rcases b6 with ⟨p2, rfl, rfl, b7⟩ | ⟨rfl, rfl, b7⟩
            · exact .inl ⟨p2, ob2, r3, r4 p2 rfl, b7, ob_refl d4⟩
            · exact .inr ⟨r3, b7⟩)
          refine ⟨_, Q1.ext i (v := .ptr o 1 0 0) (ob' := ⟨ty, es, true, [(vs'.set j2 (.ref q2 ob3.rows.length)).set j (.ref q ob2.rows.length)]⟩) o rfl ⟨rfl, rfl, rfl, ⟨xvs_set (xvs_set (row_xv τ _ vs' g2) ?_) ?_, trivial⟩⟩ ?_ (.inl (.inr (.inr (.inl ⟨o, p, 1, 0, 0, by rw [h5, hrows]; rfl, r1, rfl⟩)))) (.inl ⟨p, ob, r1, r2 p rfl, h3, ?_, ?_, ?_⟩)⟩
          · simp only [XV]
            exact ⟨Nat.lt_succ_of_lt (Nat.lt_succ_self _), fun xob _ _ => ⟨ob3, by simp [hqq, Ne.symm hqq], rfl⟩⟩
          · simp only [XV]
            exact ⟨Nat.lt_succ_self _, fun xob _ _ => ⟨ob2, by simp, rfl⟩⟩
          · simp only [XV]
            exact ⟨Nat.lt_succ_self _, fun xob _ _ => ⟨⟨ty, es, true, [(vs'.set j2 (.ref q2 ob3.rows.length)).set j (.ref q ob2.rows.length)]⟩, by simp [St.ext], by simp, rfl⟩⟩
          · show ty = ob.ty; rw [a1]; exact (Nat.eq_of_beq_eq_true hb.1.1.1.2).symm
          · show es = ob.es; rw [a2]; exact (Nat.eq_of_beq_eq_true hb.1.1.2).symm
          · rw [hrows]
            exact ⟨All2.mono (fun a b h => ⟨h, fun h2 => by cases h2⟩) c1, trivial⟩
        · exact ⟨t, Q.skip (more := [o, q, q2])⟩
      · exact ⟨t, Q.skip (more := [o, q, q2])⟩

theorem pair3_some {A B : Type} {a : Option (A × List Nat × Srcs)} {b : Option (B × List Nat × Srcs)} {p : A × B} {f : List Nat} {sr : Srcs} (h : pair3 a b = some (p, f, sr)) :
    ∃ f1 f2 s1 s2, a = some (p.1, f1, s1) ∧ b = some (p.2, f2, s2) ∧ f = f1 ++ f2 ∧ sr = s1 ++ s2 := by
  unfold pair3 at h
  split at h <;> try (cases h; done)
  split at h <;> try (cases h; done)
  simp only [Option.some.injEq, Prod.mk.injEq] at h
  obtain ⟨rfl, rfl, rfl⟩ := h
  exact ⟨_, _, _, _, rfl, rfl, rfl, rfl⟩

theorem dsGet1_ok (R : RS xs s) {ρ : Nat → Option Nat} {A : Type} {a : Option (A × List Nat × Srcs)} {pt : A → XSt → XSt} :
    ∀ (ds : List DK) (x : DsT.DsT1 A ds) (f : List Nat) (sr : Srcs), dsGet1 xs a ds = some (x, f, sr) → (∀ p ∈ f, F p) → (∀ o p, (o, p) ∈ sr → ρ o = p ∧ ∀ q, p = some q → ¬ F q) →
      (∀ (y : A) (f : List Nat) (sr : Srcs), a = some (y, f, sr) → (∀ p ∈ f, F p) → (∀ o p, (o, p) ∈ sr → ρ o = p ∧ ∀ q, p = some q → ¬ F q) → ∀ (names : List Nat) (ys : XSt) (t : St), Part xs s ρ F names ys t → ∃ t', Part xs s ρ F (sr.map (·.1) ++ names) (pt y ys) t') →
      ∃ t', Part xs s ρ F (sr.map (·.1)) (dsMk1 pt ds x) t'
  | [], x, f, sr, h, hF, hρ, ha => by
    obtain ⟨t', h1⟩ := ha x f sr h hF hρ [] base0 _ (part_base ρ)
    exact ⟨t', by rw [List.append_nil] at h1; exact h1⟩
  | d :: ds, x, f, sr, h, hF, hρ, ha => by
    obtain ⟨f1, f2, s1, s2, h1, h2, rfl, rfl⟩ := pair3_some h
    obtain ⟨t1, q1⟩ := dsGet1_ok R ds _ f2 s2 h2 (fun p hp => hF p (List.mem_append_right _ hp)) (fun o p hp => hρ o p (List.mem_append_right _ hp)) (pt := DK.put d)
      (fun y f sr hy hF hρ names ys t Q => get_put R d hy hF hρ Q)
    obtain ⟨t2, q2⟩ := ha _ f1 s1 h1 (fun p hp => hF p (List.mem_append_left _ hp)) (fun o p hp => hρ o p (List.mem_append_left _ hp)) _ _ t1 q1
    exact ⟨t2, by rw [List.map_append]; exact q2⟩

theorem dsGet_ok (R : RS xs s) {ρ : Nat → Option Nat} (ds : List DK) (x : DsT ds) (f : List Nat) (sr : Srcs) (h : dsGet xs ds = some (x, f, sr)) (hF : ∀ p ∈ f, F p) (hρ : ∀ o p, (o, p) ∈ sr → ρ o = p ∧ ∀ q, p = some q → ¬ F q) :
    ∃ t', Part xs s ρ F (sr.map (·.1)) (dsMk ds x) t' := by
  cases ds with
  | nil =>
    simp only [dsGet, Option.some.injEq, Prod.mk.injEq] at h
    obtain ⟨rfl, rfl, rfl⟩ := h
    exact ⟨_, part_base ρ⟩
  | cons d ds =>
    exact dsGet1_ok R ds x f sr h hF hρ (fun y f sr hy hF hρ names ys t Q => get_put R d hy hF hρ Q)

theorem lookS_mem : ∀ {sr : Srcs} {o : Nat} {p : Option Nat}, lookS o sr = some p → (o, p) ∈ sr
  | (o', q) :: r, o, p, h => by
    simp only [lookS, beq_if] at h
    split at h
    · rename_i ho; subst ho; cases h; exact List.mem_cons_self ..
    · exact List.mem_cons_of_mem _ (lookS_mem h)
  | [], _, _, h => by cases h
theorem lookS_of : ∀ {sr : Srcs} {o : Nat} {p : Option Nat}, (sr.map (·.1)).Nodup → (o, p) ∈ sr → lookS o sr = some p
  | (o', q) :: r, o, p, hn, h => by
    simp only [List.map_cons, List.nodup_cons] at hn
    simp only [lookS, beq_if]
    rcases List.mem_cons.1 h with h | h
    · cases h; rw [if_pos rfl]
    · have : o ≠ o' := fun e => hn.1 (by rw [← e]; exact List.mem_map.2 ⟨(o, p), h, rfl⟩)
      rw [if_neg this]
      exact lookS_of hn.2 h
  | [], _, _, _, h => by cases h
theorem somes_mem : ∀ {sr : Srcs} {o p : Nat}, (o, some p) ∈ sr → p ∈ somesOf sr
  | (o', none) :: r, o, p, h => by
    rcases List.mem_cons.1 h with h | h
    · cases h
    · exact somes_mem (sr := r) h
  | (o', some q) :: r, o, p, h => by
    simp only [somesOf, List.mem_cons]
    rcases List.mem_cons.1 h with h | h
    · cases h; exact .inl rfl
    · exact .inr (somes_mem h)
  | [], _, _, h => by cases h
theorem somes_inj : ∀ {sr : Srcs} {o o' p : Nat}, (somesOf sr).Nodup → (o, some p) ∈ sr → (o', some p) ∈ sr → (sr.map (·.1)).Nodup → o = o'
  | (q, none) :: r, o, o', p, hn, h1, h2, h3 => by
    simp only [List.map_cons, List.nodup_cons] at h3
    rcases List.mem_cons.1 h1 with h1 | h1
    · cases h1
    · rcases List.mem_cons.1 h2 with h2 | h2
      · cases h2
      · exact somes_inj (sr := r) hn h1 h2 h3.2
  | (q, some q') :: r, o, o', p, hn, h1, h2, h3 => by
    simp only [somesOf, List.nodup_cons] at hn
    simp only [List.map_cons, List.nodup_cons] at h3
    rcases List.mem_cons.1 h1 with h1 | h1
    · cases h1
      rcases List.mem_cons.1 h2 with h2 | h2
      · cases h2; rfl
      · exact absurd (somes_mem h2) hn.1
    · rcases List.mem_cons.1 h2 with h2 | h2
      · cases h2; exact absurd (somes_mem h1) hn.1
      · exact somes_inj hn.2 h1 h2 h3.2
  | [], _, _, _, _, h, _, _ => by cases h

theorem alPut_ok (R : RS xs s) {ρ : Nat → Option Nat} {sr : Srcs} (hρ : ∀ o p, lookS o sr = some p → ρ o = p) (F : Nat → Prop) {names : List Nat} {ys : XSt} {t : St} (Q : Part xs s ρ F names ys t) : ∀ (l : List (Nat × Nat)), alOK xs sr l = true → ∃ t', Part xs s ρ F names (alPut ys l) t' ∧ t'.h = t.h ∧ (alPut ys l).h = ys.h ∧ (alPut ys l).c = ys.c
  | [], _ => ⟨t, Q, rfl, rfl, rfl⟩
  | (i, o) :: r, h => by
    simp only [alOK, Bool.and_eq_true] at h
    obtain ⟨t1, q1, q2, q3, q4⟩ := alPut_ok R hρ F Q r h.2
    simp only [alPut]
    cases ho : ys.h o with
    | none =>
      simp only
      exact ⟨_, q1.put i (v := .dead) (by simp only [XV]) (.inl rfl), q2, q3, q4⟩
    | some ob =>
      simp only
      obtain ⟨k1, ob2, k2, k3⟩ := Q.rs.h o ob ho
      have hx := R.t i
      have h1 := h.1
      have hXV : XV ⟨(alPut ys r).c, (alPut ys r).h, t1.h⟩ (.ref o ob.ver) (.ref o ob2.rows.length) := by
        simp only [XV, q4, q3, q2]
        exact ⟨k1, fun xob _ _ => ⟨ob2, k2, rfl⟩⟩
      refine ⟨_, q1.put i (v := .ref o ob2.rows.length) hXV (.inr (.inl ?_)), q2, q3, q4⟩
      split at h1 <;> try (cases h1; done)
      · rename_i p hl
        have hρo := hρ o _ hl
        split at h1 <;> try (cases h1; done)
        rename_i q ver hi
        simp only [Bool.and_eq_true] at h1
        have := Nat.eq_of_beq_eq_true h1.1
        subst this
        rw [hi] at hx
        obtain ⟨xob3, ob3, e1, e2, e3, e4, e5⟩ := cur_ref (H := ⟨xs.c, xs.h, s.h⟩) R.h hx h1.2
        rcases (Q.hh o ob2 k2).2 with ⟨p', ob4, f1, _, f3, f4⟩ | ⟨f1, _⟩
        · rw [hρo] at f1; cases f1
          simp only at e3
          rw [f3] at e3; cases e3
          have := obR_len f4
          exact .inr (.inl ⟨o, q, _, by rw [e5], hρo, by rw [this]⟩)
        · rw [hρo] at f1; cases f1
      · rename_i hl
        have hρo := hρ o _ hl
        split at h1 <;> try (cases h1; done)
        rename_i hi
        rw [hi] at hx
        simp only [XV] at hx
        rcases (Q.hh o ob2 k2).2 with ⟨p', ob4, f1, _, f3, f4⟩ | ⟨f1, f2⟩
        · rw [hρo] at f1; cases f1
        · exact .inr (.inr (.inr (.inl ⟨o, hx, hρo, by rw [f2]; rfl⟩)))

theorem LD.get_ok (D : LD) (R : RS xs s) {x : DsT D.ds} (h : D.get xs = some x) {n : Nat} {w0 : World} {I : Imp} (hI : LnI I D.ln) {A0 : Nat → Prop} {a : Act} {w : World} (hR : RR w0 I A0 n s a w) : ∃ s', RS (D.mk' x) s' ∧ RR w0 I A0 n s' a w := by
  unfold LD.get at h
  split at h <;> try (cases h; done)
  rename_i v f sr hg
  obtain ⟨hb, h⟩ := cond_some h
  have := Option.some.inj h
  subst this
  simp only [Bool.and_eq_true] at hb
  obtain ⟨⟨⟨⟨b1, b2⟩, b3⟩, b4⟩, b5⟩ := hb
  have n1 := nodupN_ok b1
  have n2 := nodupN_ok b2
  let ρ : Nat → Option Nat := fun o => (lookS o sr).getD none
  have hρ : ∀ o p, lookS o sr = some p → ρ o = p := fun o p hl => by simp [ρ, hl]
  have hmem : ∀ o p, ρ o = some p → (o, some p) ∈ sr := fun o p hp => by
    simp only [ρ] at hp
    cases hl : lookS o sr with
    | none => simp [hl] at hp
    | some q => simp [hl] at hp; subst hp; exact lookS_mem hl
  obtain ⟨t, Q⟩ := dsGet_ok (F := fun p => p ∈ f) R (ρ := ρ) D.ds v f sr hg (fun p hp => hp) (fun o p hp => ⟨hρ o p (lookS_of n1 hp), fun q hq hF => by
    subst hq
    have h1 := List.all_eq_true.1 b3 q hF
    simp only [Bool.not_eq_true'] at h1
    rw [memN_iff.2 (somes_mem hp)] at h1
    cases h1⟩)
  obtain ⟨t', Q', _⟩ := alPut_ok R hρ _ Q D.als b4
  obtain ⟨β, A, hR⟩ := hR
  refine ⟨t', Q'.rs, _, _, hR.reshape ⟨Q'.tt, fun o ob' ho => (Q'.hh o ob' ho).2, fun o o' p h1 h2 => somes_inj n2 (hmem o p h1) (hmem o' p h2) n1⟩ (fun p ob b hFp _ _ => ?_) fun o ob' hqo ho => ?_⟩
  · rcases hI with hI | hI
    · exact hI.1 b
    · cases hl : D.ln with
      | zero => omega
      | succ m =>
        rw [hl] at b5
        have h0 : f = [] := by simpa using (Bool.and_eq_true_iff.1 b5).1
        rw [h0] at hFp; cases hFp
  · rcases hI with hI | hI
    · exact absurd hqo (hI.2 o)
    · cases hl : D.ln with
      | zero => omega
      | succ m =>
        rw [hl] at b5 hI
        have hall := List.all_eq_true.1 (Bool.and_eq_true_iff.1 b5).2
        have hin := hI.2 o hqo
        have e1 : Nat.ble 500 o = true := by rw [Nat.ble_eq]; exact hin.1
        have e2 : Nat.blt o (500 + (m + 1)) = true := by rw [Nat.blt_eq]; exact hin.2
        have key : ∀ p, (o, p) ∈ sr → p = some o := fun p hp => by
          have h1 := hall _ hp
          cases p with
          | none => simp only [e1, e2] at h1; cases h1
          | some p =>
            simp only [e1, e2, Bool.and_self, Bool.not_true, Bool.or_false] at h1
            rw [Nat.eq_of_beq_eq_true h1]
        have hex : o ∈ sr.map (·.1) := (Q'.hh o ob' ho).1
        obtain ⟨⟨o', p⟩, hp, he⟩ := List.mem_map.1 hex
        simp only at he
        subst he
        have h9 := key p hp
        rw [h9] at hp
        exact hρ o' (some o') (lookS_of n1 hp)

end
end Go.AL
