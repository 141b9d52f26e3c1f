/-
  THE EXECUTOR, THIRD PART: what it does to symbolic values the abstract layer does to what they stand for. By an AI agent.
-/
import Derived.Test.YtbhnmholmpdmeaaGreatAxOp
namespace Go.AL
set_option linter.unusedVariables false
set_option linter.unusedSimpArgs false
set_option linter.unusedSectionVars false

def XRel (H : Hps) : XAR → AR → Prop
  | .val c x, r => c = true → ∃ p v, r = .val p v ∧ p ∧ XV H x v
  | .new c ob b, r => c = true → ∃ p ob', r = .new p ob' b ∧ p ∧ XObV H ob ob' ∧ (b = false → 0 < ob'.rows.length)
  | .upd c o ob, r => c = true → ∃ p ob', r = .upd p o ob' ∧ p ∧ XObV H ob ob' ∧ ∃ xob0 ob0, H.x o = some xob0 ∧ ob.ver = xob0.ver ∧ H.v o = some ob0 ∧ ob'.rows.length = ob0.rows.length
  | .app c o ob, r => c = true → ∃ p ob', r = .app p o ob' ∧ p ∧ XObV H ob ob'
  | .call g args, r => ∃ vs, r = .call g vs ∧ XVs H args vs
  | .bad, _ => True

def aidx (P : Program) (h : Nat → Option Ob) (t : TypeId) (v iv : V) : AR := match v with
  | .ref .. => aindexRef P h t v iv
  | .ptr .. => aindexArr P h t v iv
  | _ => aindexAddr P t v iv

section
variable {P : Program} {H : Hps}

theorem XVs.len : ∀ {xs : List X} {vs : List V}, XVs H xs vs → vs.length = xs.length
  | [], vs, h => by simp only [XVs] at h; subst h; rfl
  | x :: xs, vs, h => by
    simp only [XVs] at h
    obtain ⟨v, r, rfl, _, h3⟩ := h
    simp [XVs.len h3]
theorem XVs.at : ∀ {xs : List X} {vs : List V}, XVs H xs vs → ∀ (j : Nat) (x : X), xs[j]? = some x → ∃ v, vs[j]? = some v ∧ XV H x v
  | [], vs, h, j, x, hx => by simp at hx
  | x :: xs, vs, h, 0, y, hy => by
    simp only [XVs] at h
    obtain ⟨v, r, rfl, h2, h3⟩ := h
    simp at hy; subst hy
    exact ⟨v, rfl, h2⟩
  | x :: xs, vs, h, j + 1, y, hy => by
    simp only [XVs] at h
    obtain ⟨v, r, rfl, h2, h3⟩ := h
    exact XVs.at h3 j y (by simpa using hy)
theorem XVs.take : ∀ (n : Nat) {xs : List X} {vs : List V}, XVs H xs vs → XVs H (xs.take n) (vs.take n)
  | 0, xs, vs, h => by simp [XVs]
  | n + 1, [], vs, h => by simp only [XVs] at h; subst h; simp [XVs]
  | n + 1, x :: xs, vs, h => by
    simp only [XVs] at h
    obtain ⟨v, r, rfl, h2, h3⟩ := h
    simp only [List.take_succ_cons, XVs]
    exact ⟨v, _, rfl, h2, XVs.take n h3⟩
theorem XVs.drop : ∀ (n : Nat) {xs : List X} {vs : List V}, XVs H xs vs → XVs H (xs.drop n) (vs.drop n)
  | 0, xs, vs, h => by simpa using h
  | n + 1, [], vs, h => by simp only [XVs] at h; subst h; simp [XVs]
  | n + 1, x :: xs, vs, h => by
    simp only [XVs] at h
    obtain ⟨v, r, rfl, h2, h3⟩ := h
    simpa only [List.drop_succ_cons] using XVs.drop n h3
theorem XVs.app : ∀ {xs : List X} {vs : List V} {ys : List X} {us : List V}, XVs H xs vs → XVs H ys us → XVs H (xs ++ ys) (vs ++ us)
  | [], vs, ys, us, h, h' => by simp only [XVs] at h; subst h; simpa using h'
  | x :: xs, vs, ys, us, h, h' => by
    simp only [XVs] at h
    obtain ⟨v, r, rfl, h2, h3⟩ := h
    simp only [List.cons_append, XVs]
    exact ⟨v, _, rfl, h2, XVs.app h3 h'⟩
theorem XVs.cut {xs : List X} {vs : List V} (h : XVs H xs vs) (j n : Nat) : XVs H (cutX xs j n) (cut vs j n) := (h.drop j).take n
theorem XVs.putAt {xs ys : List X} {vs us : List V} (h : XVs H xs vs) (h' : XVs H ys us) (j : Nat) : XVs H (putX xs j ys) (putAt vs j us) := by
  unfold putX AL.putAt
  rw [h'.len]
  exact ((h.take j).app h').app (h.drop _)

theorem xofCell (v : Value) : XV H (X.ofCell v) (V.ofCell v) := by
  unfold X.ofCell V.ofCell
  split <;> (try simp only [XV])
  split <;> simp only [XV]

theorem xofCells : ∀ (l : List Value), XVs H (l.map X.ofCell) (l.map V.ofCell)
  | [] => by simp [XVs]
  | v :: l => by
    simp only [List.map_cons, XVs]
    exact ⟨_, _, rfl, xofCell v, xofCells l⟩

theorem xofVal (v : Value) : XV H (X.ofVal v) (V.ofVal v) := by
  have h0 := xofCell (H := H) v
  cases v with
  | agg cs =>
    simp only [X.ofVal, V.ofVal]
    split
    · simp only [XV]; exact ⟨_, rfl, xofCells _⟩
    · simp only [XV]
  | _ => exact h0

theorem RS.ev {xs : XSt} {s : St} (R : RS xs s) (x : Operand) : XV ⟨xs.c, xs.h, s.h⟩ (xs.ev x) (s.ev x) := by
  cases x with
  | tmp i =>
    show XV _ (bif Nat.blt i 100000 then xs.t i else .dead) (if i < 100000 then s.t i else .dead)
    cases hb : Nat.blt i 100000 with
    | true => rw [if_pos (by simpa [Nat.blt_eq] using hb)]; exact R.t i
    | false => simp only [cond_false, XV]
  | const v => exact xofVal v
  | func f =>
    simp only [XSt.ev, St.ev, XV]
    exact ⟨fun x hx => (by cases hx), fun _ => ⟨[], rfl, by simp [XVs]⟩⟩
  | global g => simp only [XSt.ev, XV]

theorem zeroX_some {t : TypeId} {z : List X} (h : zeroX P t = some z) : ∃ z', zeroCs P t = some z' ∧ XVs H z z' := by
  unfold zeroX at h
  unfold zeroCs
  split at h <;> try (cases h; done)
  rename_i v hv
  rw [hv]
  simp only
  split at h <;> try (cases h; done)
  rename_i hc
  rw [if_pos hc]
  cases h
  exact ⟨_, rfl, xofCells _⟩

variable (hobs : ∀ o xob, H.x o = some xob → xob.ver < H.c ∧ ∃ ob, H.v o = some ob ∧ XObV H xob ob)
include hobs

theorem cur_ref {o ver : Nat} {v : V} (hx : XV H (.ref o ver) v) (hc : curO H.x o ver = true) : ∃ xob ob, H.x o = some xob ∧ xob.ver = ver ∧ H.v o = some ob ∧ XObV H xob ob ∧ v = .ref o ob.rows.length := by
  unfold curO at hc
  split at hc <;> try (cases hc; done)
  rename_i xob ho
  have hv : xob.ver = ver := Nat.eq_of_beq_eq_true hc
  simp only [XV] at hx
  obtain ⟨ob, h1, h2⟩ := hx.2 xob ho hv
  obtain ⟨_, ob', h3, h4⟩ := hobs o xob ho
  rw [h1] at h3
  cases h3
  exact ⟨xob, ob, ho, hv, h1, h4, h2⟩

theorem cur_ptr {o ver i j : Nat} {v : V} (hx : XV H (.ptr o ver i j) v) (hc : curO H.x o ver = true) : ∃ xob ob, H.x o = some xob ∧ xob.ver = ver ∧ H.v o = some ob ∧ XObV H xob ob ∧ i < ob.rows.length ∧ v = .ptr o ob.rows.length i j := by
  unfold curO at hc
  split at hc <;> try (cases hc; done)
  rename_i xob ho
  have hv : xob.ver = ver := Nat.eq_of_beq_eq_true hc
  simp only [XV] at hx
  obtain ⟨ob, h1, h5, h2⟩ := hx.2 xob ho hv
  obtain ⟨_, ob', h3, h4⟩ := hobs o xob ho
  rw [h1] at h3
  cases h3
  exact ⟨xob, ob, ho, hv, h1, h4, h5, h2⟩

theorem stor_xv {x : X} {v : V} (hx : XV H x v) (hs : x.stor H.x = true) : v.stor H.v ∧ v.pure = x.pure ∧ XVs H x.cells v.cells := by
  cases x <;> simp only [X.stor] at hs <;> try (cases hs; done)
  case ref o ver =>
    obtain ⟨xob, ob, h1, h2, h3, h4, rfl⟩ := cur_ref hobs hx hs
    refine ⟨⟨ob, h3, rfl⟩, rfl, ?_⟩
    simp only [X.cells, V.cells, XVs]
    exact ⟨_, _, rfl, hx, rfl⟩
  case ptr o ver i j =>
    obtain ⟨xob, ob, h1, h2, h3, h4, h5, rfl⟩ := cur_ptr hobs hx hs
    refine ⟨⟨ob, h3, rfl⟩, rfl, ?_⟩
    simp only [X.cells, V.cells, XVs]
    exact ⟨_, _, rfl, hx, rfl⟩
  case agg imp cs =>
    simp only [XV] at hx
    obtain ⟨vs, rfl, h2⟩ := hx
    cases imp
    · exact ⟨trivial, rfl, h2⟩
    · exact ⟨trivial, rfl, h2⟩
  case sl τ l =>
    have hx' := hx
    simp only [XV] at hx'
    rcases hx' with ⟨_, rfl⟩ | ⟨rows, rfl, _⟩
    all_goals
      refine ⟨trivial, rfl, ?_⟩
      simp only [X.cells, V.cells, XVs]
      exact ⟨_, _, rfl, hx, rfl⟩
  case rd τ l =>
    have hx' := hx
    simp only [XV] at hx'
    obtain ⟨rows, rfl, _⟩ := hx'
    refine ⟨trivial, rfl, ?_⟩
    simp only [X.cells, V.cells, XVs]
    exact ⟨_, _, rfl, hx, rfl⟩
  all_goals
    have hx' := hx
    simp only [XV] at hx'
    subst hx'
    refine ⟨trivial, rfl, ?_⟩
    simp only [X.cells, V.cells, XVs]
    exact ⟨_, _, rfl, hx, rfl⟩

theorem pure_stor {x : X} (h : x.pure = true) : x.stor H.x = true := by
  cases x <;> first | rfl | (simp [X.pure] at h; done)

theorem ofObT {v ty es : Nat} {τ : List Ty} {l : List (RowT τ)} {ob : Ob} (h : XObV H (.t v ty es τ l) ob) {i : Nat} (hi : i < ob.rows.length) : ∃ row, ob.rows[i]? = some row ∧ RowV τ (l.getD i (rowZ τ)) row := by
  obtain ⟨_, _, _, h4⟩ := h
  have hl := All2.len h4
  obtain ⟨row, h5, h6⟩ := All2.get h4 i (l[i]'(by omega)) (List.getElem?_eq_getElem (by omega))
  refine ⟨row, h5, ?_⟩
  have : l.getD i (rowZ τ) = l[i]'(by omega) := by simp [List.getD, List.getElem?_eq_getElem (show i < l.length by omega)]
  rw [this]
  exact h6

theorem xload_rel (t : TypeId) {x : X} {v : V} (hx : XV H x v) : XRel H (xload P H.x t x) (aload P H.v t v) := by
  have hR : ∀ (imp : Bool) (row : List X) (row' : List V) (j : Nat) (p : Prop), p → XVs H row row' → XRel H (xloadR P t imp row j) (loadR P t p imp row' j) := by
    intro imp row row' j p hp hr
    unfold xloadR loadR
    split
    · intro hc
      exact ⟨_, _, rfl, ⟨hp, by rw [hr.len]; exact of_decide_eq_true hc⟩, by simp only [XV]; exact ⟨_, rfl, hr.cut j _⟩⟩
    · split
      · cases hj : row[j]? with
        | none => trivial
        | some y =>
          obtain ⟨u, h1, h2⟩ := hr.at j y hj
          simp only [h1]
          split
          · rename_i hip
            intro _
            have : imp = true ∨ u.pure = true := by
              cases imp
              · simp at hip
                exact .inr (by rw [(stor_xv hobs h2 (pure_stor hobs hip)).2.1]; exact hip)
              · exact .inl rfl
            rw [if_pos this]
            exact ⟨_, _, rfl, hp, h2⟩
          · trivial
      · trivial
  unfold xload
  split
  · rename_i o ver i j
    split
    · rename_i v' ty es τ l ho
      split <;> try trivial
      rename_i hv
      obtain ⟨xob, ob, h1, h2, h3, h4, h5, rfl⟩ := cur_ptr hobs hx (by unfold curO; rw [ho]; exact hv)
      rw [ho] at h1; cases h1
      obtain ⟨row, h6, h7⟩ := ofObT hobs h4 h5
      obtain ⟨_, _, himp, _⟩ := h4
      simp only [aload, h3, h6, himp]
      exact hR false _ _ _ _ trivial (row_xv τ _ row h7)
    · rename_i v' ty es imp rows ho
      split <;> try trivial
      rename_i hv
      split <;> try trivial
      rename_i row hrow
      obtain ⟨xob, ob, h1, h2, h3, h4, h5, rfl⟩ := cur_ptr hobs hx (by unfold curO; rw [ho]; exact hv)
      rw [ho] at h1; cases h1
      obtain ⟨_, _, himp, h8⟩ := h4
      obtain ⟨row', h6, h7⟩ := All2.get h8 i row hrow
      simp only [aload, h3, h6, himp]
      exact hR imp _ _ _ _ trivial h7
    · trivial
  · rename_i row j
    simp only [XV] at hx
    obtain ⟨vs, rfl, h2⟩ := hx
    exact hR false _ _ _ _ trivial h2
  · trivial

theorem xstore_rel (t : TypeId) {x y : X} {v u : V} (hx : XV H x v) (hy : XV H y u) : XRel H (xstore P H.x t x y) (astore P H.v t v u) := by
  unfold xstore
  split <;> try trivial
  rename_i o ver i j
  split
  · rename_i v' ty es τ l ho
    split <;> try trivial
    rename_i hv
    simp only [Bool.and_eq_true] at hv
    split <;> try trivial
    rename_i r hr
    obtain ⟨xob, ob, h1, h2, h3, h4, h5, rfl⟩ := cur_ptr hobs hx (by unfold curO; rw [ho]; exact hv.1)
    rw [ho] at h1; cases h1
    obtain ⟨row, h6, h7⟩ := ofObT hobs h4 h5
    obtain ⟨hty, hes, himp, h8⟩ := h4
    obtain ⟨s1, s2, s3⟩ := stor_xv hobs hy (pure_stor hobs hv.2)
    intro hc
    simp only [Bool.and_eq_true, decide_eq_true_eq] at hc
    simp only [astore, h3, h6]
    have hrow := row_xv (H := H) τ _ row h7
    have hnew := rowD_ok τ _ r _ hr (hrow.putAt s3 j)
    have hlen : row.length = τ.length := by
      rw [hrow.len]
      have : ∀ (A : Type) (f : A → X) (σ : List Ty) (z : RowT1 A σ), (rowX1 f σ z).length = σ.length + 1 := by
        intro A f σ
        induction σ generalizing A f with
        | nil => intro z; rfl
        | cons t σ ih => intro z; simp only [rowX1, List.length_cons]; rw [ih]
      cases τ with
      | nil => rfl
      | cons t σ => simp only [rowX, List.length_cons]; exact this _ _ _ _
    refine ⟨_, _, rfl, ⟨trivial, s1, by rw [s3.len]; exact hc.1, by rw [s3.len, hlen]; exact hc.2⟩, ⟨hty, hes, ?_, ?_⟩, _, ob, ho, rfl, rfl, by simp⟩
    · simp only [himp, s2, hv.2]; rfl
    · exact All2.set hnew i h8
  · rename_i v' ty es imp rows ho
    split <;> try trivial
    rename_i hv
    split <;> try trivial
    rename_i row hrow
    obtain ⟨xob, ob, h1, h2, h3, h4, h5, rfl⟩ := cur_ptr hobs hx (by unfold curO; rw [ho]; exact hv)
    rw [ho] at h1; cases h1
    obtain ⟨hty, hes, himp, h8⟩ := h4
    obtain ⟨row', h6, h7⟩ := All2.get h8 i row hrow
    intro hc
    simp only [Bool.and_eq_true, decide_eq_true_eq] at hc
    obtain ⟨s1, s2, s3⟩ := stor_xv hobs hy hc.1.1
    simp only [astore, h3, h6]
    refine ⟨_, _, rfl, ⟨trivial, s1, by rw [s3.len]; exact hc.1.2, by rw [s3.len, h7.len]; exact hc.2⟩, ⟨hty, hes, ?_, ?_⟩, _, ob, ho, rfl, rfl, by simp⟩
    · simp only [himp, s2]
    · exact All2.set (h7.putAt s3 j) i h8
  · trivial

theorem fill_rel (place : Nat → Option (Nat × Nat)) (e : Operand → X) (ev : Operand → V) (he : ∀ x, XV H (e x) (ev x)) : ∀ (l : List (Nat × Operand)) (cs : List X) (cs' : List V) (r : List X), (∀ q ∈ l, (e q.2).stor H.x = true) → XVs H cs cs' →
    fillX place cs (l.map fun q => (q.1, e q.2)) = some r → ∃ r', fillC place cs' (l.map fun q => (q.1, ev q.2)) = some r' ∧ XVs H r r'
  | [], cs, cs', r, _, h, hf => by simp only [List.map_nil, fillX] at hf; cases hf; exact ⟨cs', rfl, h⟩
  | (i, x) :: l, cs, cs', r, hs, h, hf => by
    simp only [List.map_cons, fillX] at hf
    simp only [List.map_cons, fillC]
    split at hf <;> try (cases hf; done)
    rename_i off size hp
    split at hf <;> try (cases hf; done)
    rename_i hc
    obtain ⟨s1, s2, s3⟩ := stor_xv hobs (he x) (hs _ (List.mem_cons_self ..))
    simp only [hp]
    rw [if_pos (by rw [s3.len, h.len]; exact hc)]
    exact fill_rel place e ev he l _ _ r (fun q hq => hs q (List.mem_cons_of_mem _ hq)) (h.putAt s3 off) hf

theorem parts_pure (e : Operand → X) (ev : Operand → V) (he : ∀ x, XV H (e x) (ev x)) : ∀ (l : List (Nat × Operand)), (∀ q ∈ l, (e q.2).stor H.x = true) → (l.map fun q => (q.1, ev q.2)).all (·.2.pure) = (l.map fun q => (q.1, e q.2)).all (·.2.pure)
  | [], _ => rfl
  | (i, x) :: l, hs => by
    simp only [List.map_cons, List.all_cons]
    rw [(stor_xv hobs (he x) (hs _ (List.mem_cons_self ..))).2.1, parts_pure e ev he l (fun q hq => hs q (List.mem_cons_of_mem _ hq))]

theorem xbuild_rel (t : TypeId) (e : Operand → X) (ev : Operand → V) (he : ∀ x, XV H (e x) (ev x)) (l : List (Nat × Operand)) :
    XRel H (xbuild P H.x t (l.map fun q => (q.1, e q.2))) (abuild P H.v t (l.map fun q => (q.1, ev q.2))) := by
  unfold xbuild abuild
  split <;> try trivial
  split <;> try trivial
  rename_i z hz
  split <;> try trivial
  rename_i cs hcs
  intro hc
  have hs : ∀ q ∈ l, (e q.2).stor H.x = true := fun q hq => List.all_eq_true.1 hc (q.1, e q.2) (List.mem_map.2 ⟨q, hq, rfl⟩)
  obtain ⟨z', h1, h2⟩ := zeroX_some (H := H) hz
  obtain ⟨r', h3, h4⟩ := fill_rel hobs _ e ev he l z z' cs hs h2 hcs
  simp only [h1, h3]
  refine ⟨_, _, rfl, fun q hq => ?_, ?_⟩
  · obtain ⟨p, hp, rfl⟩ := List.mem_map.1 hq
    exact (stor_xv hobs (he p.2) (hs p hp)).1
  · rw [parts_pure hobs e ev he l hs]
    simp only [XV]
    exact ⟨_, rfl, h4⟩

omit hobs in
theorem consO_some {A : Type} {a : Option A} {b : Option (List A)} {l : List A} (h : consO a b = some l) : ∃ x r, a = some x ∧ b = some r ∧ l = x :: r := by
  unfold consO at h
  split at h <;> try (cases h; done)
  split at h <;> try (cases h; done)
  cases h
  exact ⟨_, _, rfl, rfl, rfl⟩
omit hobs in
theorem mapM_rows {τ : List Ty} : ∀ {rows : List (List X)} {rows' : List (List V)} {l : List (RowT τ)}, rowsD τ rows = some l → All2 (XVs H) rows rows' → RowsV τ l rows'
  | [], [], l, h, _ => by cases h; trivial
  | row :: rows, row' :: rows', l, h, h2 => by
    obtain ⟨r, l', h1, h3, rfl⟩ := consO_some h
    exact ⟨rowD_ok τ row r row' h1 h2.1, mapM_rows h3 h2.2⟩
  | [], _ :: _, _, _, h2 => h2.elim
  | _ :: _, [], _, _, h2 => h2.elim

omit hobs in
theorem mkOb_rel {c e : Nat} {imp : Bool} {rows : List (List X)} {rows' : List (List V)} (h : All2 (XVs H) rows rows') : XObV H (mkOb P c e imp rows) ⟨e, szOf P e, imp, rows'⟩ := by
  unfold mkOb
  split
  · exact ⟨rfl, rfl, rfl, h⟩
  · split
    · split
      · rename_i τ _ l hl
        exact ⟨rfl, rfl, rfl, mapM_rows hl h⟩
      · exact ⟨rfl, rfl, rfl, h⟩
    · exact ⟨rfl, rfl, rfl, h⟩

omit hobs in
theorem natsEq_eq : ∀ {a b : List Nat}, natsEq a b = true → a = b
  | [], [], _ => rfl
  | a :: as, b :: bs, h => by
    simp only [natsEq, Bool.and_eq_true] at h
    rw [Nat.eq_of_beq_eq_true h.1, natsEq_eq h.2]
  | [], _ :: _, h => by cases h
  | _ :: _, [], h => by cases h

theorem xbuildSlice_rel (t : TypeId) (len : Nat) (c : Nat) (e : Operand → X) (ev : Operand → V) (he : ∀ x, XV H (e x) (ev x)) (l : List (Nat × Operand)) :
    XRel H (xbuildSlice P H.x c t len (l.map fun q => (q.1, e q.2))) (abuildSlice P H.v t len (l.map fun q => (q.1, ev q.2))) := by
  unfold xbuildSlice
  split <;> try trivial
  rename_i el hel
  split <;> try trivial
  rename_i hc0
  simp only [Bool.and_eq_true, decide_eq_true_eq] at hc0
  intro hc
  unfold abuildSlice
  simp only [hel]
  have hq : ∀ q ∈ l, (e q.2).stor H.x = true ∧ (e q.2).cells.length = szOf P el := fun q hq => by
    have := List.all_eq_true.1 hc (q.1, e q.2) (List.mem_map.2 ⟨q, hq, rfl⟩)
    simpa using this
  have hfst : (l.map fun q => (q.1, ev q.2)).map (·.1) = (l.map fun q => (q.1, e q.2)).map (·.1) := by simp
  have hrows : ∀ l' : List (Nat × Operand), (∀ q ∈ l', (e q.2).stor H.x = true) → All2 (XVs H) ((l'.map fun q => (q.1, e q.2)).map (·.2.cells)) ((l'.map fun q => (q.1, ev q.2)).map (·.2.cells)) := by
    intro l'
    induction l' with
    | nil => intro _; trivial
    | cons q l' ih => intro h; exact ⟨(stor_xv hobs (he q.2) (h q (List.mem_cons_self ..))).2.2, ih (fun p hp => h p (List.mem_cons_of_mem _ hp))⟩
  rw [if_pos ⟨by rw [hfst]; exact natsEq_eq hc0.1.1.1, hc0.1.1.2, hc0.1.2, hc0.2⟩]
  refine ⟨_, _, rfl, fun q hq' => ?_, ?_, fun h => by cases h⟩
  · obtain ⟨p, hp, rfl⟩ := List.mem_map.1 hq'
    obtain ⟨s1, _, s3⟩ := stor_xv hobs (he p.2) (hq p hp).1
    exact ⟨s1, by rw [s3.len]; exact (hq p hp).2⟩
  · rw [parts_pure hobs e ev he l (fun q hq' => (hq q hq').1)]
    exact mkOb_rel (hrows l (fun q hq' => (hq q hq').1))

theorem xfieldAddr_rel (t : TypeId) (f : Nat) {x : X} {v : V} (hx : XV H x v) : XRel H (xfieldAddr P H.x t f x) (afieldAddr P H.v t f v) := by
  unfold xfieldAddr
  split
  · rename_i o ver i j
    split <;> try trivial
    rename_i off ft hf
    intro hc
    obtain ⟨xob, ob, h1, h2, h3, h4, h5, rfl⟩ := cur_ptr hobs hx hc
    simp only [afieldAddr, h3, hf]
    refine ⟨_, _, rfl, trivial, ?_⟩
    simp only [XV] at hx ⊢
    refine ⟨hx.1, fun xob' h6 h7 => ?_⟩
    obtain ⟨ob', h8, h9, _⟩ := hx.2 xob' h6 h7
    rw [h3] at h8
    cases h8
    exact ⟨ob, h3, h9, rfl⟩
  · rename_i row j
    split <;> try trivial
    rename_i off ft hf
    intro _
    simp only [XV] at hx
    obtain ⟨vs, rfl, h2⟩ := hx
    simp only [afieldAddr, hf]
    refine ⟨_, _, rfl, trivial, ?_⟩
    simp only [XV]
    exact ⟨vs, rfl, h2⟩
  · trivial

theorem xfield_rel (t : TypeId) (f : Nat) {x : X} {v : V} (hx : XV H x v) : XRel H (xfield P t f x) (afield P t f v) := by
  unfold xfield
  split <;> try trivial
  rename_i cs
  simp only [XV] at hx
  obtain ⟨vs, rfl, h2⟩ := hx
  split <;> try trivial
  rename_i off ft hf
  simp only [mkAgg, afield, hf]
  split
  · intro hc
    exact ⟨_, _, rfl, by rw [h2.len]; exact of_decide_eq_true hc, by simp only [XV]; exact ⟨_, rfl, h2.cut off _⟩⟩
  · split
    · cases hj : cs[off]? with
      | none => trivial
      | some y =>
        obtain ⟨u, h3, h4⟩ := h2.at off y hj
        simp only [h3]
        intro _
        exact ⟨_, _, rfl, trivial, h4⟩
    · trivial

omit hobs in
theorem getD_of {τ : List Ty} {l : List (RowT τ)} {rows : List (List V)} (h : RowsV τ l rows) {i : Nat} (hi : i < l.length) : ∃ row, rows[i]? = some row ∧ RowV τ (l.getD i (rowZ τ)) row ∧ row.length = τ.length := by
  obtain ⟨row, h5, h6⟩ := All2.get h i (l[i]'hi) (List.getElem?_eq_getElem hi)
  have e : l.getD i (rowZ τ) = l[i]'hi := by simp [List.getD, List.getElem?_eq_getElem hi]
  refine ⟨row, h5, by rw [e]; exact h6, ?_⟩
  have h7 := (row_xv (H := ⟨0, fun _ => none, fun _ => none⟩) τ _ row h6).len
  rw [h7]
  have : ∀ (A : Type) (f : A → X) (σ : List Ty) (z : RowT1 A σ), (rowX1 f σ z).length = σ.length + 1 := by
    intro A f σ
    induction σ generalizing A f with
    | nil => intro z; rfl
    | cons t σ ih => intro z; simp only [rowX1, List.length_cons]; rw [ih]
  cases τ with
  | nil => rfl
  | cons t σ => simp only [rowX, List.length_cons]; exact this _ _ _ _

omit hobs in
theorem rowV_len {τ : List Ty} {x : RowT τ} {row : List V} (h : RowV τ x row) : row.length = τ.length := by
  obtain ⟨row', h1, _, h3⟩ := getD_of (l := [x]) (rows := [row]) ⟨h, trivial⟩ (i := 0) (by simp)
  simp at h1
  rw [h1]; exact h3

theorem xindexAddr_rel (t : TypeId) {x ix : X} {v iv : V} (hx : XV H x v) (hi : XV H ix iv) :
    XRel H (xindexAddr P H.x t x ix) (aidx P H.v t v iv) := by
  unfold xindexAddr aidx
  split <;> try trivial
  rename_i e k i he
  simp only [XV] at hi
  subst hi
  split <;> try trivial
  rename_i hz
  split
  · rename_i τ l
    intro hc
    simp only [Bool.and_eq_true, decide_eq_true_eq] at hc
    obtain ⟨c3, c1, c2⟩ := hc
    simp only [XV] at hx
    rcases hx with ⟨rfl, _⟩ | ⟨rows, rfl, hr⟩
    · simp at c2; omega
    · obtain ⟨row, h5, h6, h7⟩ := getD_of hr (i := i.toNat) (by omega)
      simp only [aindexAddr, he, h5, hz, if_false]
      refine ⟨_, _, rfl, ⟨c1, by rw [h7]; exact c3⟩, ?_⟩
      simp only [XV]
      exact ⟨_, rfl, row_xv τ _ row h6⟩
  · rename_i τ l
    intro hc
    simp only [Bool.and_eq_true, decide_eq_true_eq] at hc
    obtain ⟨c3, c1, c2⟩ := hc
    simp only [XV] at hx
    obtain ⟨rows, rfl, hr⟩ := hx
    obtain ⟨row, h5, h6, h7⟩ := getD_of hr (i := i.toNat) (by omega)
    simp only [aindexAddr, he, h5, hz, if_false]
    refine ⟨_, _, rfl, ⟨c1, by rw [h7]; exact c3⟩, ?_⟩
    simp only [XV]
    exact ⟨_, rfl, row_xv τ _ row h6⟩
  · rename_i o ver
    split <;> try trivial
    · rename_i v' ty es τ l ho
      intro hc
      simp only [Bool.and_eq_true, decide_eq_true_eq] at hc
      obtain ⟨c0, c3, c1, c2⟩ := hc
      obtain ⟨xob, ob, h1, h2, h3, h4, rfl⟩ := cur_ref hobs hx (by unfold curO; rw [ho]; exact c0)
      rw [ho] at h1; cases h1
      obtain ⟨_, hes, _, h8⟩ := h4
      have hl := All2.len h8
      simp only [aindexRef, he, h3, hz, if_false]
      refine ⟨_, _, rfl, ⟨c1, by omega, trivial, by rw [hes]; exact c3⟩, ?_⟩
      simp only [XV] at hx ⊢
      refine ⟨hx.1, fun xob' h6 h7 => ?_⟩
      exact ⟨ob, h3, by omega, rfl⟩
    · rename_i v' ty es imp rows ho
      intro hc
      simp only [Bool.and_eq_true, decide_eq_true_eq] at hc
      obtain ⟨c0, c3, c1, c2⟩ := hc
      obtain ⟨xob, ob, h1, h2, h3, h4, rfl⟩ := cur_ref hobs hx (by unfold curO; rw [ho]; exact c0)
      rw [ho] at h1; cases h1
      obtain ⟨_, hes, _, h8⟩ := h4
      have hl := All2.len h8
      simp only [aindexRef, he, h3, hz, if_false]
      refine ⟨_, _, rfl, ⟨c1, by omega, trivial, by rw [hes]; exact c3⟩, ?_⟩
      simp only [XV] at hx ⊢
      refine ⟨hx.1, fun xob' h6 h7 => ?_⟩
      exact ⟨ob, h3, by omega, rfl⟩
  · trivial

theorem xindexArr_rel (t : TypeId) {x ix : X} {v iv : V} (hx : XV H x v) (hi : XV H ix iv) :
    XRel H (xindexArr P H.x t x ix) (aidx P H.v t v iv) := by
  unfold xindexArr
  split <;> try trivial
  rename_i m e k i he
  simp only [XV] at hi
  subst hi
  split <;> try trivial
  rename_i hz
  split <;> try trivial
  rename_i o ver
  split <;> try trivial
  rename_i v' ty es τ l ho
  intro hc
  simp only [Bool.and_eq_true, decide_eq_true_eq] at hc
  obtain ⟨c0, c3, c4, c1, c2⟩ := hc
  obtain ⟨xob, ob, h1, h2, h3, h4, h5, rfl⟩ := cur_ptr hobs hx (by unfold curO; rw [ho]; exact c0)
  rw [ho] at h1; cases h1
  obtain ⟨_, hes, _, h8⟩ := h4
  have hl := All2.len h8
  have c5 := Nat.eq_of_beq_eq_true c4
  simp only [aidx, aindexArr, he, h3, hz, if_false]
  refine ⟨_, _, rfl, ⟨c1, by omega, by omega, trivial, by rw [hes]; exact c3⟩, ?_⟩
  simp only [XV] at hx ⊢
  refine ⟨hx.1, fun xob' h6 h7 => ?_⟩
  exact ⟨ob, h3, by omega, rfl⟩

theorem xidx_rel (t : TypeId) {x ix : X} {v iv : V} (hx : XV H x v) (hi : XV H ix iv) :
    XRel H (xidx P H.x t x ix) (aidx P H.v t v iv) := by
  unfold xidx
  split
  · exact xindexArr_rel hobs t hx hi
  · exact xindexAddr_rel hobs t hx hi

omit hobs in
theorem all2_cut (es : Nat) : ∀ (m : Nat) {z : List X} {z' : List V}, XVs H z z' → All2 (XVs H) (cutRows es m z) (cutRows es m z')
  | 0, z, z', h => trivial
  | m + 1, z, z', h => ⟨h.take es, all2_cut es m (h.drop es)⟩
omit hobs in
theorem xalloc_rel (c : Nat) (t : TypeId) : XRel H (xalloc P c t) (aalloc P t) := by
  unfold xalloc aalloc
  split <;> try trivial
  rename_i z hz
  obtain ⟨z', h1, h2⟩ := zeroX_some (H := H) hz
  rw [h1]
  simp only
  split
  · rename_i m e he
    rw [he]
    split <;> try trivial
    rename_i τ hτ
    split <;> try trivial
    rename_i l hl
    split <;> try trivial
    rename_i hc
    intro _
    simp only [if_pos (show 0 < m ∧ 0 < szOf P e ∧ z'.length = m * szOf P e by rw [h2.len]; exact hc)]
    refine ⟨_, _, rfl, trivial, ⟨rfl, rfl, rfl, mapM_rows hl (all2_cut _ m h2)⟩, fun _ => ?_⟩
    have : ∀ (m : Nat) (w : List V), (cutRows (szOf P e) m w).length = m := fun m => by
      induction m with
      | zero => intro w; rfl
      | succ m ih => intro w; simp [cutRows, ih]
    rw [this]
    exact hc.1
  · rename_i he
    rw [he]
    intro _
    exact ⟨_, _, rfl, trivial, ⟨rfl, rfl, rfl, ⟨h2, trivial⟩⟩, fun _ => by simp⟩

omit hobs in
theorem xv_int {k : IntKind} {n : Int} {v : V} (h : XV H (.int k n) v) : v = .int k n := by simpa only [XV] using h
omit hobs in
theorem intO_map {e : Operand → X} {ev : Operand → V} (he : ∀ x, XV H (e x) (ev x)) {o : Option Operand} {r : Option Int} (h : intO (o.map e) = some r) :
    (o = none ∧ r = none) ∨ ∃ x k n, o = some x ∧ ev x = .int k n ∧ r = some n := by
  cases o with
  | none => simp [intO] at h; exact .inl ⟨rfl, h.symm⟩
  | some x =>
    simp only [Option.map_some] at h
    have hx := he x
    generalize e x = y at h hx
    cases y <;> simp [intO] at h
    exact .inr ⟨x, _, _, rfl, xv_int hx, h.symm⟩

omit hobs in
theorem xslice_rel (t : TypeId) {x : X} {v : V} (hx : XV H x v) (e : Operand → X) (ev : Operand → V) (he : ∀ x, XV H (e x) (ev x)) (lo hi : Option Operand) :
    XRel H (xslice P t x (lo.map e) (hi.map e)) (aslice P t v (lo.map ev) (hi.map ev)) := by
  unfold xslice
  split <;> try trivial
  rename_i el hel
  split <;> try trivial
  rename_i hz
  split <;> try trivial
  rename_i a b ha hb
  have rl : ∀ {τ : List Ty} {l : List (RowT τ)} {rows : List (List V)}, RowsV τ l rows → τ.length = szOf P el → ∀ r ∈ rows, r.length = szOf P el := by
    intro τ l rows hr hτ r hm
    obtain ⟨i, hi'⟩ := List.getElem?_of_mem hm
    obtain ⟨y, _, hy⟩ := All2.getB hr i r hi'
    rw [rowV_len hy, hτ]
  unfold xcut
  split <;> try trivial
  · rename_i τ l
    simp only [XV] at hx
    rcases intO_map he ha with ⟨rfl, rfl⟩ | ⟨xa, ka, na, rfl, ea, rfl⟩ <;> rcases intO_map he hb with ⟨rfl, rfl⟩ | ⟨xb, kb, nb, rfl, eb, rfl⟩ <;> try trivial
    all_goals
      intro hc
      simp only [Bool.and_eq_true, decide_eq_true_eq] at hc
      rcases hx with ⟨rfl, rfl⟩ | ⟨rows, rfl, hr⟩
    · simp only [aslice, hel, hz, if_false, Option.map_none, Option.map_some, eb]
      refine ⟨_, _, rfl, by simp at hc; omega, ?_⟩
      simp only [XV]; exact .inl ⟨by simp, trivial⟩
    · have hl := All2.len hr
      simp only [aslice, hel, hz, if_false, Option.map_none, Option.map_some, eb]
      refine ⟨_, _, rfl, ⟨hc.1, by omega⟩, ?_⟩
      simp only [XV]; exact .inr ⟨_, rfl, All2.take _ hr⟩
    · simp only [aslice, hel, hz, if_false, Option.map_none, Option.map_some, ea]
      refine ⟨_, _, rfl, by simp at hc; omega, ?_⟩
      simp only [XV]; exact .inl ⟨by simp, trivial⟩
    · have hl := All2.len hr
      simp only [aslice, hel, hz, if_false, Option.map_none, Option.map_some, ea]
      refine ⟨_, _, rfl, ⟨hc.2.1, by omega, rl hr hc.1⟩, ?_⟩
      simp only [XV]; exact .inr ⟨_, rfl, All2.drop _ hr⟩
    · simp only [aslice, hel, hz, if_false, Option.map_none, Option.map_some, ea, eb]
      refine ⟨_, _, rfl, by simp at hc; omega, ?_⟩
      simp only [XV]; exact .inl ⟨by simp, trivial⟩
    · have hl := All2.len hr
      simp only [aslice, hel, hz, if_false, Option.map_none, Option.map_some, ea, eb]
      refine ⟨_, _, rfl, ⟨hc.2.1, hc.2.2.1, by omega, rl hr hc.1⟩, ?_⟩
      simp only [XV]; exact .inr ⟨_, rfl, All2.drop _ (All2.take _ hr)⟩
  · rename_i τ l
    simp only [XV] at hx
    obtain ⟨rows, rfl, hr⟩ := hx
    have hl := All2.len hr
    rcases intO_map he ha with ⟨rfl, rfl⟩ | ⟨xa, ka, na, rfl, ea, rfl⟩ <;> rcases intO_map he hb with ⟨rfl, rfl⟩ | ⟨xb, kb, nb, rfl, eb, rfl⟩ <;> try trivial
    all_goals
      intro hc
      simp only [Bool.and_eq_true, decide_eq_true_eq] at hc
    · simp only [aslice, hel, hz, if_false, Option.map_none, Option.map_some, eb]
      refine ⟨_, _, rfl, ⟨hc.1, by omega⟩, ?_⟩
      simp only [XV]; exact ⟨_, rfl, All2.take _ hr⟩
    · simp only [aslice, hel, hz, if_false, Option.map_none, Option.map_some, ea]
      refine ⟨_, _, rfl, ⟨hc.2.1, by omega, rl hr hc.1⟩, ?_⟩
      simp only [XV]; exact ⟨_, rfl, All2.drop _ hr⟩
    · simp only [aslice, hel, hz, if_false, Option.map_none, Option.map_some, ea, eb]
      refine ⟨_, _, rfl, ⟨hc.2.1, hc.2.2.1, by omega, rl hr hc.1⟩, ?_⟩
      simp only [XV]; exact ⟨_, rfl, All2.drop _ (All2.take _ hr)⟩

omit hobs in
theorem eqXs_rel : ∀ {xs ys : List X} {us vs : List V} {b : Bool}, XVs H xs us → XVs H ys vs → eqXs xs ys = some b → eqCs us vs = some b ∧ us.filterMap kindV = xs.filterMap kindX
  | [], [], us, vs, b, h1, h2, h => by
    simp only [XVs] at h1 h2
    subst h1 h2
    simp only [eqXs] at h
    cases h
    exact ⟨rfl, rfl⟩
  | x :: xs, y :: ys, us, vs, b, h1, h2, h => by
    simp only [XVs] at h1 h2
    obtain ⟨u, us', rfl, hu, hus⟩ := h1
    obtain ⟨v, vs', rfl, hv, hvs⟩ := h2
    cases x <;> cases y <;> simp only [eqXs] at h <;> try (cases h; done)
    · rename_i k a k' c
      simp only [XV] at hu hv
      subst hu hv
      split at h <;> try (cases h; done)
      rename_i hk
      cases hr : eqXs xs ys with
      | none => simp [hr] at h
      | some r =>
        simp [hr] at h
        obtain ⟨e1, e2⟩ := eqXs_rel hus hvs hr
        simp only [eqCs, if_pos hk, e1, Option.map_some, List.filterMap_cons, kindV, kindX, e2]
        simp [h]
    · rename_i a c
      simp only [XV] at hu hv
      subst hu hv
      cases hr : eqXs xs ys with
      | none => simp [hr] at h
      | some r =>
        simp [hr] at h
        obtain ⟨e1, e2⟩ := eqXs_rel hus hvs hr
        simp only [eqCs, e1, Option.map_some, List.filterMap_cons, kindV, kindX, e2]
        simp [h]
  | [], _ :: _, _, _, _, _, _, h => by simp [eqXs] at h
  | _ :: _, [], _, _, _, _, _, h => by cases ‹X› <;> simp [eqXs] at h

omit hobs in
theorem kindsEq_eq : ∀ {a b : List Bool}, kindsEq a b = true → a = b
  | [], [], _ => rfl
  | a :: as, b :: bs, h => by
    simp only [kindsEq, Bool.and_eq_true, beq_iff_eq] at h
    rw [h.1, kindsEq_eq h.2]
  | [], _ :: _, h => by cases h
  | _ :: _, [], h => by cases h

omit hobs in
theorem nilX_rel {op : BinOp} {t : TypeId} {q b : Bool} {Q : Prop} (hq : q = true → Q) {c : Bool} {r : X} (h : nilX P op t q b = some (c, r)) (hc : c = true) : ∃ p w, nilV P op t Q b = some (p, w) ∧ p ∧ XV H r w := by
  unfold nilX at h
  unfold nilV
  split at h <;> try (cases h; done)
  · simp only [Option.some.injEq, Prod.mk.injEq] at h
    obtain ⟨rfl, rfl⟩ := h
    rw [Bool.and_eq_true] at hc
    exact ⟨_, _, rfl, ⟨hq hc.1, hc.2⟩, by simp only [XV]⟩
  · simp only [Option.some.injEq, Prod.mk.injEq] at h
    obtain ⟨rfl, rfl⟩ := h
    rw [Bool.and_eq_true] at hc
    exact ⟨_, _, rfl, ⟨hq hc.1, hc.2⟩, by simp only [XV]⟩
omit hobs in
theorem binX_rel (op : BinOp) (t : TypeId) {x y : X} {u v : V} (hx : XV H x u) (hy : XV H y v) {c : Bool} {r : X} (h : binX P op t x y = some (c, r)) (hc : c = true) : ∃ p w, binV P op t u v = some (p, w) ∧ p ∧ XV H r w := by
  unfold binX at h
  split at h
  · rename_i k a k' b
    simp only [XV] at hx hy
    subst hx hy
    simp only [binV]
    split at h
    · rename_i hs
      rw [if_pos hs]
      cases op <;> simp [shiftX] at h <;> try (cases h; done)
      all_goals
        obtain ⟨rfl, rfl⟩ := h
        refine ⟨_, _, rfl, of_decide_eq_true hc, by simp only [XV]⟩
    · rename_i hs
      rw [if_neg hs]
      split at h <;> try (cases h; done)
      rename_i hk
      rw [if_pos hk]
      cases op <;> simp only [intX] at h <;> try (cases h; done)
      all_goals
        cases h
        first
          | exact ⟨_, _, rfl, trivial, by simp only [XV]⟩
          | exact ⟨_, _, rfl, by simpa using hc, by simp only [XV]⟩
  · rename_i a b
    simp only [XV] at hx hy
    subst hx hy
    have hb : ∀ t, isBoolT P t = true → P.underlying t = some .bool := by
      intro t ht
      unfold isBoolT at ht
      split at ht
      · assumption
      · cases ht
    split at h <;> try (cases h; done)
    · cases h
      exact ⟨_, _, rfl, hb t hc, by simp only [XV]⟩
    · cases h
      exact ⟨_, _, rfl, hb t hc, by simp only [XV]⟩
  · rename_i xs ys
    simp only [XV, mkAgg] at hx hy
    obtain ⟨us, rfl, h1⟩ := hx
    obtain ⟨vs, rfl, h2⟩ := hy
    have key : ∀ b, eqXs xs ys = some b → (isRowT P t && eqShX P t xs) = true → eqCs us vs = some b ∧ isRowT P t = true ∧ eqSh P t = some (us.filterMap kindV) := by
      intro b hb hcc
      simp only [Bool.and_eq_true] at hcc
      obtain ⟨e1, e2⟩ := eqXs_rel h1 h2 hb
      refine ⟨e1, hcc.1, ?_⟩
      have h5 := hcc.2
      unfold eqShX at h5
      split at h5 <;> try (cases h5; done)
      rename_i m hm
      rw [hm, e2, kindsEq_eq h5]
    split at h <;> try (cases h; done)
    · cases hr : eqXs xs ys with
      | none => simp [hr] at h
      | some b =>
        simp only [hr, Option.map_some, Option.some.injEq, Prod.mk.injEq] at h
        obtain ⟨rfl, rfl⟩ := h
        obtain ⟨e1, e2, e3⟩ := key b hr hc
        simp only [binV, e1, Option.map_some]
        exact ⟨_, _, rfl, ⟨e2, e3⟩, by simp only [XV]⟩
    · cases hr : eqXs xs ys with
      | none => simp [hr] at h
      | some b =>
        simp only [hr, Option.map_some, Option.some.injEq, Prod.mk.injEq] at h
        obtain ⟨rfl, rfl⟩ := h
        obtain ⟨e1, e2, e3⟩ := key b hr hc
        simp only [binV, e1, Option.map_some]
        exact ⟨_, _, rfl, ⟨e2, e3⟩, by simp only [XV]⟩
  · simp only [XV] at hx hy
    subst hx hy
    exact nilX_rel (fun _ => trivial) h hc
  · simp only [XV] at hx hy
    obtain ⟨rows, rfl, hr⟩ := hx
    subst hy
    refine nilX_rel (fun hl e => ?_) h hc
    subst e
    rename_i τ l
    cases l with
    | nil => simp at hl
    | cons a l => exact hr.elim
  · simp only [XV] at hx hy
    subst hx hy
    exact nilX_rel (fun _ => trivial) h hc
  · cases h

theorem rowsX_rel {e : TypeId} {x : X} {v : V} {τ : List Ty} {l : List (RowT τ)} (hx : XV H x v) (h : rowsX P e H.x x = some ⟨τ, l⟩) : ∃ rows, rowsOf H.v v = some rows ∧ RowsV τ l rows := by
  unfold rowsX at h
  split at h
  · simp only [XV] at hx
    subst hx
    cases hr : rowTy P 8 e with
    | none => simp [hr] at h
    | some σ =>
      simp only [hr, Option.map_some, Option.some.injEq] at h
      cases h
      exact ⟨[], rfl, trivial⟩
  · simp only [XV] at hx
    subst hx
    cases hr : rowTy P 8 e with
    | none => simp [hr] at h
    | some σ =>
      simp only [hr, Option.map_some, Option.some.injEq] at h
      cases h
      exact ⟨[], rfl, trivial⟩
  · cases h
    simp only [XV] at hx
    rcases hx with ⟨rfl, rfl⟩ | ⟨rows, rfl, hr⟩
    · exact ⟨[], rfl, trivial⟩
    · exact ⟨rows, rfl, hr⟩
  · cases h
    simp only [XV] at hx
    obtain ⟨rows, rfl, hr⟩ := hx
    exact ⟨rows, rfl, hr⟩
  · rename_i o ver
    split at h <;> try (cases h; done)
    · rename_i v' ty es σ l' ho
      split at h <;> try (cases h; done)
      rename_i hv
      cases h
      obtain ⟨xob, ob, h1, h2, h3, h4, rfl⟩ := cur_ref hobs hx (by unfold curO; rw [ho]; exact hv)
      rw [ho] at h1; cases h1
      obtain ⟨_, _, himp, h8⟩ := h4
      exact ⟨ob.rows, by simp [rowsOf, h3, himp], h8⟩
    · rename_i v' ty es imp rows ho
      split at h <;> try (cases h; done)
      rename_i hv
      simp only [Bool.and_eq_true, Bool.not_eq_true'] at hv
      split at h <;> try (cases h; done)
      rename_i σ hσ
      cases hl : rowsD σ rows with
      | none => simp [hl] at h
      | some l' =>
        simp only [hl, Option.map_some, Option.some.injEq] at h
        cases h
        obtain ⟨xob, ob, h1, h2, h3, h4, rfl⟩ := cur_ref hobs hx (by unfold curO; rw [ho]; exact hv.1)
        rw [ho] at h1; cases h1
        obtain ⟨_, _, himp, h8⟩ := h4
        exact ⟨ob.rows, by simp [rowsOf, h3, himp, hv.2], mapM_rows hl h8⟩
  · cases h

omit hobs in
theorem rowsV_each {τ : List Ty} {l : List (RowT τ)} {rows : List (List V)} (hr : RowsV τ l rows) {n : Nat} (hτ : τ.length = n) : ∀ r ∈ rows, r.length = n := by
  intro r hm
  obtain ⟨i, hi'⟩ := List.getElem?_of_mem hm
  obtain ⟨y, _, hy⟩ := All2.getB hr i r hi'
  rw [rowV_len hy, hτ]

omit hobs in
theorem len_of_bytes {n b : Nat} (h1 : 1 ≤ b) (h : n * b ≤ 140737488355328) : n ≤ maxLen := by
  have : n * 1 ≤ n * b := Nat.mul_le_mul_left n h1
  unfold maxLen
  omega

theorem xappend_rel (t : TypeId) {x y : X} {u v : V} (c : Nat) (hx : XV H x u) (hy : XV H y v) : XRel H (xappend P H.x c t x y) (aappend P H.v t u v) := by
  unfold xappend
  split <;> try trivial
  rename_i e he
  split <;> try trivial
  rename_i σ new hnew
  obtain ⟨rows, hrows, hr⟩ := rowsX_rel hobs hy hnew
  have hln := All2.len hr
  split <;> try trivial
  rename_i hz
  split <;> try trivial
  · simp only [XV] at hx
    subst hx
    intro hc
    simp only [Bool.and_eq_true, decide_eq_true_eq] at hc
    simp only [aappend, he, hrows, if_neg hz]
    exact ⟨_, _, rfl, ⟨rowsV_each hr hc.1, by rw [← hln]; exact hc.2.2, by rw [← hln]; exact len_of_bytes hc.2.1 hc.2.2⟩, ⟨rfl, rfl, rfl, hr⟩, fun h => by cases h⟩
  · rename_i o ver
    split <;> try trivial
    · rename_i v' ty es τ l ho
      split <;> try trivial
      rename_i hτ
      intro hc
      simp only [Bool.and_eq_true, decide_eq_true_eq] at hc
      obtain ⟨c1, c2, c3, c4, c6, c5⟩ := hc
      obtain ⟨xob, ob, h1, h2, h3, h4, rfl⟩ := cur_ref hobs hx (by unfold curO; rw [ho]; exact c1)
      rw [ho] at h1; cases h1
      obtain ⟨hty, hes, himp, h8⟩ := h4
      have hlo := All2.len h8
      simp only [aappend, he, hrows, if_neg hz, h3]
      exact ⟨_, _, rfl, ⟨trivial, by rw [hty]; exact c2, by rw [hes]; exact c3, rowsV_each hr c4, by rw [← hln, ← hlo]; exact c5, by rw [← hln, ← hlo]; exact len_of_bytes c6 c5⟩, ⟨hty, hes, himp, All2.app ((castL_rows new hτ rows).2 hr) h8⟩⟩
    · rename_i v' ty es imp rws ho
      split <;> try trivial
      rename_i himpf
      split <;> try trivial
      rename_i l hl
      intro hc
      simp only [Bool.and_eq_true, decide_eq_true_eq] at hc
      obtain ⟨c1, c2, c3, c4, c6, c5⟩ := hc
      obtain ⟨xob, ob, h1, h2, h3, h4, rfl⟩ := cur_ref hobs hx (by unfold curO; rw [ho]; exact c1)
      rw [ho] at h1; cases h1
      obtain ⟨hty, hes, himp, h8⟩ := h4
      have h9 := mapM_rows hl h8
      have hlo := All2.len h9
      simp only [aappend, he, hrows, if_neg hz, h3]
      exact ⟨_, _, rfl, ⟨trivial, by rw [hty]; exact c2, by rw [hes]; exact c3, rowsV_each hr c4, by rw [← hln, ← hlo]; exact c5, by rw [← hln, ← hlo]; exact len_of_bytes c6 c5⟩, ⟨hty, hes, by rw [himp]; simpa using himpf, All2.app hr h9⟩⟩

theorem lenX_rel {x : X} {v : V} {n : Nat} (hx : XV H x v) (h : lenX H.x x = some n) : lenOf v = some n ∧ v.live H.v ∧ ∀ s, v ≠ .str s := by
  unfold lenX at h
  split at h
  · cases h
    simp only [XV] at hx
    subst hx
    exact ⟨rfl, trivial, fun s h => by cases h⟩
  · cases h
    simp only [XV] at hx
    rcases hx with ⟨rfl, rfl⟩ | ⟨rows, rfl, hr⟩
    · exact ⟨rfl, trivial, fun s h => by cases h⟩
    · exact ⟨by simp [lenOf, All2.len hr], trivial, fun s h => by cases h⟩
  · cases h
    simp only [XV] at hx
    obtain ⟨rows, rfl, hr⟩ := hx
    exact ⟨by simp [lenOf, All2.len hr], trivial, fun s h => by cases h⟩
  · rename_i o ver
    split at h <;> try (cases h; done)
    · rename_i v' ty es σ l' ho
      split at h <;> try (cases h; done)
      rename_i hv
      cases h
      obtain ⟨xob, ob, h1, h2, h3, h4, rfl⟩ := cur_ref hobs hx (by unfold curO; rw [ho]; exact hv)
      rw [ho] at h1; cases h1
      obtain ⟨_, _, himp, h8⟩ := h4
      exact ⟨by simp [lenOf, All2.len h8], ⟨ob, h3, rfl⟩, fun s h => by cases h⟩
    · rename_i v' ty es imp rows ho
      split at h <;> try (cases h; done)
      rename_i hv
      cases h
      obtain ⟨xob, ob, h1, h2, h3, h4, rfl⟩ := cur_ref hobs hx (by unfold curO; rw [ho]; exact hv)
      rw [ho] at h1; cases h1
      obtain ⟨_, _, himp, h8⟩ := h4
      exact ⟨by simp [lenOf, All2.len h8], ⟨ob, h3, rfl⟩, fun s h => by cases h⟩
  · cases h

omit hobs in
theorem XVs.mapE {e : Operand → X} {ev : Operand → V} (he : ∀ x, XV H (e x) (ev x)) : ∀ (l : List Operand), XVs H (l.map e) (l.map ev)
  | [] => by simp [XVs]
  | x :: l => by simp only [List.map_cons, XVs]; exact ⟨_, _, rfl, he x, XVs.mapE he l⟩

theorem caps_ok {x : X} {v : V} (hx : XV H x v) (h : X.capB H.x x = true) : x.curP H ∧ x.capG H.c ∧ v.capOK = true := by
  cases x <;> simp only [X.capB] at h <;> try (cases h; done)
  case ptr o ver i j =>
    obtain ⟨xob, ob, h1, h2, h3, h4, h5, rfl⟩ := cur_ptr hobs hx h
    simp only [XV] at hx
    exact ⟨⟨xob, h1, h2⟩, hx.1, rfl⟩
  case sl τ l =>
    simp only [XV] at hx
    rcases hx with ⟨_, rfl⟩ | ⟨rows, rfl, _⟩ <;> exact ⟨trivial, trivial, rfl⟩
  case cp row j =>
    simp only [XV] at hx
    obtain ⟨vs, rfl, _⟩ := hx
    exact ⟨trivial, trivial, rfl⟩
  all_goals
    simp only [XV] at hx
    subst hx
    exact ⟨trivial, trivial, rfl⟩

theorem caps_all : ∀ {xs : List X} {vs : List V}, XVs H xs vs → xs.all (X.capB H.x) = true → (∀ x ∈ xs, x.curP H ∧ x.capG H.c) ∧ vs.all V.capOK = true
  | [], vs, h, _ => by simp only [XVs] at h; subst h; exact ⟨fun x hx => (by cases hx), rfl⟩
  | x :: xs, vs, h, ha => by
    simp only [XVs] at h
    obtain ⟨v, r, rfl, h2, h3⟩ := h
    simp only [List.all_cons, Bool.and_eq_true] at ha
    obtain ⟨a1, a2, a3⟩ := caps_ok hobs h2 ha.1
    obtain ⟨b1, b2⟩ := caps_all h3 ha.2
    refine ⟨fun y hy => ?_, by simp [a3, b2]⟩
    rcases List.mem_cons.1 hy with rfl | hy
    · exact ⟨a1, a2⟩
    · exact b1 y hy

theorem xcall_rel (e : Operand → X) (ev : Operand → V) (he : ∀ x, XV H (e x) (ev x)) (c : Nat) (cl : Call) : XRel H (xcall P e H.x c cl) (acall P ev H.v cl) := by
  obtain ⟨callee, args, argTypes⟩ := cl
  unfold xcall
  simp only
  split
  · rename_i f
    have hf := he f
    split <;> try trivial
    rename_i g caps hg
    split <;> try trivial
    rename_i hc
    simp only [Bool.and_eq_true] at hc
    rw [hg] at hf
    simp only [XV] at hf
    obtain ⟨hg1, hf⟩ := hf
    have hcur : ∀ x ∈ caps, x.curP H := by
      intro x hx
      have h1 := List.all_eq_true.1 hc.2 x hx
      cases x <;> simp only [X.capC, X.capB] at h1 <;> try (cases h1; done)
      all_goals first | trivial | skip
      unfold curO at h1
      split at h1 <;> try (cases h1; done)
      rename_i xob ho
      exact ⟨xob, ho, Nat.eq_of_beq_eq_true h1⟩
    obtain ⟨vs, h1, h2⟩ := hf hcur
    refine ⟨_, ?_, (XVs.mapE he args.toList).app h2⟩
    simp only [acall, h1, if_pos hc.1]
  · split <;> try trivial
    rename_i x t hargs htys
    have hx := he x
    split
    · rename_i s hs
      intro hc
      rw [hs] at hx
      simp only [XV] at hx
      have ht : P.underlying t = some .string := by
        unfold isStrT at hc
        split at hc
        · assumption
        · cases hc
      simp only [acall, hargs, hx, htys, List.map_cons, List.map_nil, ht]
      exact ⟨_, _, rfl, trivial, by simp only [XV]⟩
    · split <;> try trivial
      rename_i n hn
      intro hc
      obtain ⟨e1, e2, e3⟩ := lenX_rel hobs hx hn
      simp only [acall, hargs]
      generalize ev x = u at e1 e2 e3 ⊢
      cases u <;> first | exact absurd rfl (e3 _) | (simp only [e1]; exact ⟨_, _, rfl, ⟨e2, by simp [htys, hc]⟩, by simp only [XV]⟩)
  · split <;> try trivial
    rename_i x y t t' hargs htys
    split <;> try trivial
    rename_i ht
    simp only [acall, hargs, htys, if_pos ht]
    exact xappend_rel hobs t c (he x) (he y)
  · split <;> try trivial
    rename_i v hv
    intro _
    unfold xmax at hv
    split at hv <;> try (cases hv; done)
    rename_i k a k' b hl
    split at hv <;> try (cases hv; done)
    rename_i hk
    cases hv
    have hm := XVs.mapE he args.toList
    rw [hl] at hm
    simp only [XVs, XV] at hm
    obtain ⟨v1, r1, h1, rfl, v2, r2, rfl, rfl, rfl⟩ := hm
    simp only [acall, h1, amax, if_pos hk]
    exact ⟨_, _, rfl, trivial, by simp only [XV]⟩
  · split <;> try trivial
    rename_i v hv
    intro _
    unfold xmin at hv
    split at hv <;> try (cases hv; done)
    rename_i k a k' b hl
    split at hv <;> try (cases hv; done)
    rename_i hk
    cases hv
    have hm := XVs.mapE he args.toList
    rw [hl] at hm
    simp only [XVs, XV] at hm
    obtain ⟨v1, r1, h1, rfl, v2, r2, rfl, rfl, rfl⟩ := hm
    simp only [acall, h1, amin, if_pos hk]
    exact ⟨_, _, rfl, trivial, by simp only [XV]⟩
  · trivial

omit hobs in
theorem rowsV_rep {τ : List Ty} {r : RowT τ} {row : List V} (h : RowV τ r row) : ∀ n : Nat, RowsV τ (List.replicate n r) (List.replicate n row)
  | 0 => trivial
  | n + 1 => ⟨h, rowsV_rep h n⟩
theorem xmake_rel (c : Nat) (t : TypeId) {x y : X} {x' y' : V} (hx : XV H x x') (hy : XV H y y') : XRel H (xmake P c t x y) (amake P t x' y') := by
  unfold xmake
  split <;> try trivial
  rename_i e he
  split <;> try trivial
  rename_i k l
  split <;> try trivial
  rename_i k2 m
  split <;> try trivial
  rename_i z hz
  split <;> try trivial
  rename_i τ hτ
  split <;> try trivial
  rename_i r hr
  split <;> try trivial
  rename_i hpos
  intro hc
  simp only [Bool.and_eq_true, decide_eq_true_eq] at hc
  obtain ⟨z', h1, h2⟩ := zeroX_some (H := H) hz
  simp only [XV] at hx hy
  subst hx
  subst hy
  unfold amake
  simp only [he, h1, if_pos hpos]
  exact ⟨_, _, rfl, ⟨hc.1, hc.2.1, hc.2.2.1, hc.2.2.2⟩, ⟨rfl, rfl, rfl, rowsV_rep (rowD_ok τ z r z' hr h2) _⟩, fun h => by cases h⟩
theorem xop_rel (o : Oper) (e : Operand → X) (ev : Operand → V) (he : ∀ x, XV H (e x) (ev x)) (c : Nat) : XRel H (xop P o e H.x c) (aop P o ev H.v) := by
  obtain ⟨dst, op, ty, pos, after, guard⟩ := o
  unfold xop
  simp only
  split
  · exact fun _ => ⟨_, _, rfl, trivial, he _⟩
  · exact fun _ => ⟨_, _, rfl, trivial, he _⟩
  · rename_i c' a b
    have hc := he c'
    split <;> try trivial
    rename_i t ht
    rw [ht] at hc
    simp only [XV] at hc
    split
    · intro _; simp only [aop, hc]; exact ⟨_, _, rfl, trivial, he _⟩
    · intro _; simp only [aop, hc]; exact ⟨_, _, rfl, trivial, he _⟩
  · exact xalloc_rel c _
  · rename_i t x
    intro hc
    simp only [Bool.and_eq_true, decide_eq_true_eq] at hc
    obtain ⟨s1, s2, s3⟩ := stor_xv hobs (he x) hc.1
    simp only [aop]
    exact ⟨_, _, rfl, ⟨s1, by rw [s3.len]; exact hc.2⟩, ⟨rfl, rfl, by simp [s2], ⟨s3, trivial⟩⟩, fun _ => by simp⟩
  · exact xbuild_rel hobs _ e ev he _
  · exact xbuildSlice_rel hobs _ _ c e ev he _
  · split <;> try trivial
    rename_i h
    simp only [aop, if_pos h]
    exact xload_rel hobs _ (he _)
  · split <;> try trivial
    rename_i h
    simp only [aop, if_pos h]
    exact xstore_rel hobs _ (he _) (he _)
  · split <;> try trivial
    rename_i h
    intro hc
    obtain ⟨p, w, h1, h2, h3⟩ := binX_rel _ _ (he _) (he _) h hc
    simp only [aop, h1]
    exact ⟨_, _, rfl, h2, h3⟩
  · rename_i x
    have hx := he x
    split <;> try trivial
    rename_i b hb
    rw [hb] at hx
    simp only [XV] at hx
    intro _
    simp only [aop, hx]
    exact ⟨_, _, rfl, trivial, by simp only [XV]⟩
  · rename_i x
    have hx := he x
    split <;> try trivial
    rename_i k n hb
    rw [hb] at hx
    simp only [XV] at hx
    intro _
    simp only [aop, hx]
    exact ⟨_, _, rfl, trivial, by simp only [XV]⟩
  · rename_i src dst' x
    have hx := he x
    split <;> try trivial
    rename_i k n hb
    rw [hb] at hx
    simp only [XV] at hx
    split <;> try trivial
    rename_i h1 h2
    intro _
    simp only [aop, hx, h1, h2]
    exact ⟨_, _, rfl, trivial, by simp only [XV]⟩
  · exact xslice_rel _ (he _) e ev he _ _
  · exact xfieldAddr_rel hobs _ _ (he _)
  · exact xfield_rel hobs _ _ (he _)
  · rename_i t x i
    have : aop P ⟨dst, .indexAddr t x i, ty, pos, after, guard⟩ ev H.v = aidx P H.v t (ev x) (ev i) := by
      simp only [aop, aidx]
      cases ev x <;> rfl
    rw [this]
    exact xidx_rel hobs _ (he _) (he _)
  · rename_i x i
    have hx := he x
    split <;> try trivial
    rename_i vs hvs
    split <;> try trivial
    rename_i v hv
    rw [hvs] at hx
    simp only [XV] at hx
    obtain ⟨ws, h1, h2⟩ := hx
    obtain ⟨w, h3, h4⟩ := h2.at i v hv
    intro _
    simp only [aop, h1, h3]
    exact ⟨_, _, rfl, trivial, h4⟩
  · rename_i f first caps
    split <;> try trivial
    rename_i hc
    simp only [Bool.and_eq_true, List.isEmpty_iff] at hc
    obtain ⟨h1, h2⟩ := caps_all hobs (XVs.mapE he caps.toList) hc.2
    intro _
    simp only [aop, hc.1, h2]
    refine ⟨_, _, rfl, trivial, ?_⟩
    simp only [XV]
    exact ⟨fun x hx => (h1 x hx).2, fun _ => ⟨_, rfl, XVs.mapE he caps.toList⟩⟩
  · rename_i x
    have hx := he x
    split <;> try trivial
    rename_i o ver i j hp
    rw [hp] at hx
    intro hc
    obtain ⟨xob, ob, h1, h2, h3, h4, h5, h6⟩ := cur_ptr hobs hx hc
    simp only [aop, h6]
    refine ⟨_, _, rfl, ⟨ob, h3, rfl⟩, ?_⟩
    rw [h6] at hx
    exact hx
  · exact xcall_rel hobs e ev he c _
  · exact xmake_rel hobs c _ (he _) (he _)
  · trivial

end
end Go.AL
