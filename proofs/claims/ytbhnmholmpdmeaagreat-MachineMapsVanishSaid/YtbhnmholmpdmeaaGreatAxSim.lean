/-
  THE EXECUTOR, THIRD PART: what it does to symbolic values the abstract layer does to what they stand for. By an AI agent.
-/
import Derived.Test.YtbhnmholmpdmeaaGreatAxOp
namespace Go.AL
set_option linter.unusedVariables false
set_option linter.unusedSimpArgs false
set_option linter.unusedSectionVars false

section
variable {P : Program} {H : Hps}

theorem XVs.len : ∀ {xs : List X} {vs : List V}, XVs H xs vs → vs.length = xs.length
  | [], vs, h => by simp only [XVs] at h; subst h; rfl
  | x :: xs, vs, h => by
    simp only [XVs] at h
    obtain ⟨v, r, rfl, _, h3⟩ := h
    simp [XVs.len h3]
theorem XVs.at : ∀ {xs : List X} {vs : List V}, XVs H xs vs → ∀ (j : Nat) (x : X), xs[j]? = some x → ∃ v, vs[j]? = some v ∧ XV H x v
  | [], vs, h, j, x, hx => by simp at hx
  | x :: xs, vs, h, 0, y, hy => by
    simp only [XVs] at h
    obtain ⟨v, r, rfl, h2, h3⟩ := h
    simp at hy; subst hy
    exact ⟨v, rfl, h2⟩
  | x :: xs, vs, h, j + 1, y, hy => by
    simp only [XVs] at h
    obtain ⟨v, r, rfl, h2, h3⟩ := h
    exact XVs.at h3 j y (by simpa using hy)
theorem XVs.take : ∀ (n : Nat) {xs : List X} {vs : List V}, XVs H xs vs → XVs H (xs.take n) (vs.take n)
  | 0, xs, vs, h => by simp [XVs]
  | n + 1, [], vs, h => by simp only [XVs] at h; subst h; simp [XVs]
  | n + 1, x :: xs, vs, h => by
    simp only [XVs] at h
    obtain ⟨v, r, rfl, h2, h3⟩ := h
    simp only [List.take_succ_cons, XVs]
    exact ⟨v, _, rfl, h2, XVs.take n h3⟩
theorem XVs.drop : ∀ (n : Nat) {xs : List X} {vs : List V}, XVs H xs vs → XVs H (xs.drop n) (vs.drop n)
  | 0, xs, vs, h => by simpa using h
  | n + 1, [], vs, h => by simp only [XVs] at h; subst h; simp [XVs]
  | n + 1, x :: xs, vs, h => by
    simp only [XVs] at h
    obtain ⟨v, r, rfl, h2, h3⟩ := h
    simpa only [List.drop_succ_cons] using XVs.drop n h3
theorem XVs.app : ∀ {xs : List X} {vs : List V} {ys : List X} {us : List V}, XVs H xs vs → XVs H ys us → XVs H (xs ++ ys) (vs ++ us)
  | [], vs, ys, us, h, h' => by simp only [XVs] at h; subst h; simpa using h'
  | x :: xs, vs, ys, us, h, h' => by
    simp only [XVs] at h
    obtain ⟨v, r, rfl, h2, h3⟩ := h
    simp only [List.cons_append, XVs]
    exact ⟨v, _, rfl, h2, XVs.app h3 h'⟩
theorem XVs.cut {xs : List X} {vs : List V} (h : XVs H xs vs) (j n : Nat) : XVs H (cutX xs j n) (cut vs j n) := (h.drop j).take n
theorem XVs.putAt {xs ys : List X} {vs us : List V} (h : XVs H xs vs) (h' : XVs H ys us) (j : Nat) : XVs H (putX xs j ys) (putAt vs j us) := by
  unfold putX AL.putAt
  rw [h'.len]
  exact ((h.take j).app h').app (h.drop _)

theorem xofCell (v : Value) : XV H (X.ofCell v) (V.ofCell v) := by
  unfold X.ofCell V.ofCell
  split <;> (try simp only [XV])
  split <;> simp only [XV]

theorem xofCells : ∀ (l : List Value), XVs H (l.map X.ofCell) (l.map V.ofCell)
  | [] => by simp [XVs]
  | v :: l => by
    simp only [List.map_cons, XVs]
    exact ⟨_, _, rfl, xofCell v, xofCells l⟩

theorem xofVal (v : Value) : XV H (X.ofVal v) (V.ofVal v) := by
  have h0 := xofCell (H := H) v
  cases v with
  | agg cs =>
    simp only [X.ofVal, V.ofVal]
    split
    · simp only [XV]; exact ⟨_, rfl, xofCells _⟩
    · simp only [XV]
  | _ => exact h0

theorem RS.ev {xs : XSt} {s : St} (R : RS xs s) (x : Operand) : XV ⟨xs.c, xs.h, s.h⟩ (xs.ev x) (s.ev x) := by
  cases x with
  | tmp i =>
    show XV _ (bif Nat.blt i 100000 then xs.t i else .dead) (if i < 100000 then s.t i else .dead)
    cases hb : Nat.blt i 100000 with
    | true => rw [if_pos (by simpa [Nat.blt_eq] using hb)]; exact R.t i
    | false => simp only [cond_false, XV]
  | const v => exact xofVal v
  | func f =>
    simp only [XSt.ev, St.ev, XV]
    exact ⟨fun x hx => (by cases hx), fun _ => ⟨[], rfl, by simp [XVs]⟩⟩
  | global g => simp only [XSt.ev, XV]

variable (hobs : ∀ o xob, H.x o = some xob → xob.ver < H.c ∧ ∃ ob, H.v o = some ob ∧ XObV H xob ob)
include hobs

theorem cur_ref {o ver : Nat} {v : V} (hx : XV H (.ref o ver) v) (hc : curO H.x o ver = true) : ∃ xob ob, H.x o = some xob ∧ xob.ver = ver ∧ H.v o = some ob ∧ XObV H xob ob ∧ v = .ref o ob.rows.length := by
  unfold curO at hc
  split at hc <;> try (cases hc; done)
  rename_i xob ho
  have hv : xob.ver = ver := Nat.eq_of_beq_eq_true hc
  simp only [XV] at hx
  obtain ⟨ob, h1, h2⟩ := hx.2 xob ho hv
  obtain ⟨_, ob', h3, h4⟩ := hobs o xob ho
  rw [h1] at h3
  cases h3
  exact ⟨xob, ob, ho, hv, h1, h4, h2⟩

theorem cur_ptr {o ver i j : Nat} {v : V} (hx : XV H (.ptr o ver i j) v) (hc : curO H.x o ver = true) : ∃ xob ob, H.x o = some xob ∧ xob.ver = ver ∧ H.v o = some ob ∧ XObV H xob ob ∧ i < ob.rows.length ∧ v = .ptr o ob.rows.length i j := by
  unfold curO at hc
  split at hc <;> try (cases hc; done)
  rename_i xob ho
  have hv : xob.ver = ver := Nat.eq_of_beq_eq_true hc
  simp only [XV] at hx
  obtain ⟨ob, h1, h5, h2⟩ := hx.2 xob ho hv
  obtain ⟨_, ob', h3, h4⟩ := hobs o xob ho
  rw [h1] at h3
  cases h3
  exact ⟨xob, ob, ho, hv, h1, h4, h5, h2⟩

omit hobs in
theorem consO_some {A : Type} {a : Option A} {b : Option (List A)} {l : List A} (h : consO a b = some l) : ∃ x r, a = some x ∧ b = some r ∧ l = x :: r := by
  unfold consO at h
  split at h <;> try (cases h; done)
  split at h <;> try (cases h; done)
  cases h
  exact ⟨_, _, rfl, rfl, rfl⟩
omit hobs in
theorem mapM_rows {τ : List Ty} : ∀ {rows : List (List X)} {rows' : List (List V)} {l : List (RowT τ)}, rowsD τ rows = some l → All2 (XVs H) rows rows' → RowsV τ l rows'
  | [], [], l, h, _ => by cases h; trivial
  | row :: rows, row' :: rows', l, h, h2 => by
    obtain ⟨r, l', h1, h3, rfl⟩ := consO_some h
    exact ⟨rowD_ok τ row r row' h1 h2.1, mapM_rows h3 h2.2⟩
  | [], _ :: _, _, _, h2 => h2.elim
  | _ :: _, [], _, _, h2 => h2.elim

omit hobs in
theorem getD_of {τ : List Ty} {l : List (RowT τ)} {rows : List (List V)} (h : RowsV τ l rows) {i : Nat} (hi : i < l.length) : ∃ row, rows[i]? = some row ∧ RowV τ (l.getD i (rowZ τ)) row ∧ row.length = τ.length := by
  obtain ⟨row, h5, h6⟩ := All2.get h i (l[i]'hi) (List.getElem?_eq_getElem hi)
  have e : l.getD i (rowZ τ) = l[i]'hi := by simp [List.getD, List.getElem?_eq_getElem hi]
  refine ⟨row, h5, by rw [e]; exact h6, ?_⟩
  have h7 := (row_xv (H := ⟨0, fun _ => none, fun _ => none⟩) τ _ row h6).len
  rw [h7]
  have : ∀ (A : Type) (f : A → X) (σ : List Ty) (z : RowT1 A σ), (rowX1 f σ z).length = σ.length + 1 := by
    intro A f σ
    induction σ generalizing A f with
    | nil => intro z; rfl
    | cons t σ ih => intro z; simp only [rowX1, List.length_cons]; rw [ih]
  cases τ with
  | nil => rfl
  | cons t σ => simp only [rowX, List.length_cons]; exact this _ _ _ _

omit hobs in
theorem rowV_len {τ : List Ty} {x : RowT τ} {row : List V} (h : RowV τ x row) : row.length = τ.length := by
  obtain ⟨row', h1, _, h3⟩ := getD_of (l := [x]) (rows := [row]) ⟨h, trivial⟩ (i := 0) (by simp)
  simp at h1
  rw [h1]; exact h3

end
end Go.AL
