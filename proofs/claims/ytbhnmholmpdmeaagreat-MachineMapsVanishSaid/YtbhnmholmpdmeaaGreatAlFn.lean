/-
  THE ABSTRACT LAYER, TENTH PART: from a function's body, evaluated, to its contract; from a contract to a call. By an AI agent.
-/
import Derived.Test.YtbhnmholmpdmeaaGreatAlDraw6
namespace Go.AL
set_option linter.unusedVariables false
set_option linter.unusedSimpArgs false
set_option linter.unusedSectionVars false

def retC (h : Nat → Option Ob) (x y : V) : Prop :=
  match x with
  | .ref o n => ∃ ob, h o = some ob ∧ n = ob.rows.length ∧ ob.imp = false ∧ y = .sl ob.rows
  | x => (y = x ∧ x.pure = true) ∨ (x = .nil ∧ y = .sl [])

def retCs (h : Nat → Option Ob) : List V → List V → Prop
  | [], [] => True
  | x :: xs, y :: ys => retC h x y ∧ retCs h xs ys
  | _, _ => False

def retA (h : Nat → Option Ob) (cs : List V) (ty es : Nat) (rows : List (List V)) (pre post : List V) : Prop :=
  ∃ c1 y c2, cs = c1 ++ y :: c2 ∧ c1.length = pre.length ∧ retCs h c1 pre ∧ retCs h c2 post ∧
    ((y = .nil ∧ rows = []) ∨ ∃ o ob, y = .ref o ob.rows.length ∧ h o = some ob ∧ ob.ty = ty ∧ ob.es = es ∧ ob.imp = false ∧ ob.rows = rows)

def retX (h : Nat → Option Ob) (x : V) (rd : RD) : Prop :=
  match x, rd with
  | .ref o n, .o ty es rows => ∃ ob, h o = some ob ∧ n = ob.rows.length ∧ ob.ty = ty ∧ ob.es = es ∧ ob.imp = false ∧ ob.rows = rows
  | .nil, .o _ _ rows => rows = []
  | .agg cs, .v (.agg cs') => cs' = cs ∨ retCs h cs cs'
  | .aggi cs, .v (.agg cs') => retCs h cs cs'
  | .agg cs, .a ty es rows pre post => retA h cs ty es rows pre post
  | .aggi cs, .a ty es rows pre post => retA h cs ty es rows pre post
  | x, .v y => retC h x y
  | _, _ => False

def ownC : Option V → Option Nat
  | some (.ref o _) => some o
  | _ => none
def ownN (x : V) (rd : RD) : Option Nat :=
  match x, rd with
  | .ref o _, .o .. => some o
  | .agg cs, .a _ _ _ pre _ => ownC cs[pre.length]?
  | .aggi cs, .a _ _ _ pre _ => ownC cs[pre.length]?
  | _, _ => none

def refN : V → List Nat
  | .ref o _ => [o]
  | _ => []

def frzN (x : V) (rd : RD) : List Nat :=
  match x, rd with
  | .ref o _, .v _ => [o]
  | .agg cs, .v _ => cs.flatMap refN
  | .aggi cs, .v _ => cs.flatMap refN
  | .agg cs, .a _ _ _ pre _ => (cs.take pre.length ++ cs.drop (pre.length + 1)).flatMap refN
  | .aggi cs, .a _ _ _ pre _ => (cs.take pre.length ++ cs.drop (pre.length + 1)).flatMap refN
  | _, _ => []

theorem retX_a {h : Nat → Option Ob} {x : V} {ty es : Nat} {rows : List (List V)} {pre post : List V} (hx : retX h x (.a ty es rows pre post)) :
    ∃ c1 y c2, (x = .agg (c1 ++ y :: c2) ∨ x = .aggi (c1 ++ y :: c2)) ∧ c1.length = pre.length ∧ retCs h c1 pre ∧ retCs h c2 post ∧
      ((y = .nil ∧ rows = [] ∧ ownN x (.a ty es rows pre post) = none) ∨ ∃ o ob, y = .ref o ob.rows.length ∧ h o = some ob ∧ ob.ty = ty ∧ ob.es = es ∧ ob.imp = false ∧ ob.rows = rows ∧ ownN x (.a ty es rows pre post) = some o) ∧
      frzN x (.a ty es rows pre post) = (c1 ++ c2).flatMap refN := by
  obtain ⟨cs, hc, hA⟩ : ∃ cs, (x = .agg cs ∨ x = .aggi cs) ∧ retA h cs ty es rows pre post := by
    cases x <;> first | exact ⟨_, .inl rfl, hx⟩ | exact ⟨_, .inr rfl, hx⟩ | exact (show False from hx).elim
  obtain ⟨c1, y, c2, e1, e2, e3, e4, e5⟩ := hA
  subst e1
  refine ⟨c1, y, c2, hc, e2, e3, e4, ?_, ?_⟩
  · have ho : ownN x (.a ty es rows pre post) = ownC (c1 ++ y :: c2)[pre.length]? := by rcases hc with rfl | rfl <;> rfl
    rw [ho, ← e2]
    rcases e5 with ⟨rfl, h0⟩ | ⟨o, ob, rfl, h1⟩
    · exact .inl ⟨rfl, h0, by simp [ownC]⟩
    · obtain ⟨h1, h2, h3, h4, h5⟩ := h1
      exact .inr ⟨o, ob, rfl, h1, h2, h3, h4, h5, by simp [ownC]⟩
  · have ho : frzN x (.a ty es rows pre post) = ((c1 ++ y :: c2).take pre.length ++ (c1 ++ y :: c2).drop (pre.length + 1)).flatMap refN := by rcases hc with rfl | rfl <;> rfl
    rw [ho, ← e2, List.take_left, show c1.length + 1 = (c1 ++ [y]).length by simp, show c1 ++ y :: c2 = (c1 ++ [y]) ++ c2 by simp, List.drop_left]

def retL (h : Nat → Option Ob) : List V → List RD → Prop
  | [], [] => True
  | x :: xs, rd :: rds => retX h x rd ∧ retL h xs rds
  | _, _ => False

def owns : List V → List RD → List (Option Nat)
  | x :: xs, rd :: rds => ownN x rd :: owns xs rds
  | _, _ => []

def frzs : List V → List RD → List Nat
  | x :: xs, rd :: rds => frzN x rd ++ frzs xs rds
  | _, _ => []

theorem owns_inj : ∀ (L : List (Option Nat)), (L.filterMap id).Nodup → ∀ (i j o : Nat), L[i]? = some (some o) → L[j]? = some (some o) → i = j
  | [], _, i, j, o, h, _ => by simp at h
  | x :: L, hn, i, j, o, hi, hj => by
    have hmem : ∀ (k : Nat), L[k]? = some (some o) → o ∈ L.filterMap id := fun k hk => List.mem_filterMap.2 ⟨some o, List.mem_of_getElem? hk, rfl⟩
    cases x with
    | none =>
      simp only [List.filterMap_cons, id_eq] at hn
      cases i with
      | zero => simp at hi
      | succ i =>
        cases j with
        | zero => simp at hj
        | succ j => rw [owns_inj L hn i j o (by simpa using hi) (by simpa using hj)]
    | some p =>
      simp only [List.filterMap_cons, id_eq, List.nodup_cons] at hn
      cases i with
      | zero =>
        cases j with
        | zero => rfl
        | succ j =>
          simp at hi
          subst hi
          exact absurd (hmem j (by simpa using hj)) hn.1
      | succ i =>
        cases j with
        | zero =>
          simp at hj
          subst hj
          exact absurd (hmem i (by simpa using hi)) hn.1
        | succ j => rw [owns_inj L hn.2 i j o (by simpa using hi) (by simpa using hj)]

theorem owns_get : ∀ (xs : List V) (rds : List RD) (k : Nat) (x : V) (rd : RD), xs[k]? = some x → rds[k]? = some rd → (owns xs rds)[k]? = some (ownN x rd)
  | x :: xs, rd :: rds, 0, _, _, h1, h2 => by simp at h1 h2; subst h1 h2; rfl
  | x :: xs, rd :: rds, k + 1, y, r, h1, h2 => by
    simp only [owns, List.getElem?_cons_succ]
    exact owns_get xs rds k y r (by simpa using h1) (by simpa using h2)
  | [], _, _, _, _, h, _ => by simp at h
  | _ :: _, [], _, _, _, _, h => by simp at h

theorem frzs_mem : ∀ (xs : List V) (rds : List RD) (k : Nat) (x : V) (rd : RD), xs[k]? = some x → rds[k]? = some rd → ∀ o ∈ frzN x rd, o ∈ frzs xs rds
  | x :: xs, rd :: rds, 0, _, _, h1, h2, o, ho => by simp at h1 h2; subst h1 h2; exact List.mem_append_left _ ho
  | x :: xs, rd :: rds, k + 1, y, r, h1, h2, o, ho => List.mem_append_right _ (frzs_mem xs rds k y r (by simpa using h1) (by simpa using h2) o ho)
  | [], _, _, _, _, h, _, _, _ => by simp at h
  | _ :: _, [], _, _, _, _, h, _, _ => by simp at h

theorem retL_get {h : Nat → Option Ob} : ∀ {xs : List V} {rds : List RD}, retL h xs rds → xs.length = rds.length ∧ ∀ (k : Nat) (rd : RD), rds[k]? = some rd → ∃ x, xs[k]? = some x ∧ retX h x rd
  | [], [], _ => ⟨rfl, fun k rd h => by simp at h⟩
  | x :: xs, rd :: rds, hr => by
    obtain ⟨h1, h2⟩ := hr
    obtain ⟨e1, e2⟩ := retL_get h2
    refine ⟨by simp [e1], fun k r hk => ?_⟩
    cases k with
    | zero => simp at hk; subst hk; exact ⟨x, rfl, h1⟩
    | succ k => exact e2 k r (by simpa using hk)
  | [], _ :: _, hr => hr.elim
  | _ :: _, [], hr => hr.elim

section
variable {P : Program} {n : Nat} {w0 : World} {A0 : Nat → Prop} {s : St} {a : Act} {w : World} {β : Nat → Option Nat} {A : Nat → Prop}

theorem retC_rel {I : Imp} {β' : Nat → Option Nat} {rds : List RD} {A' : Nat → Prop} (R : RB w0 I A0 n s a w β A) (hA : ∀ b, b < w.heap.size → A' b → A b) {x y : V} {u : Value} (hr : Rel1 ⟨w, A, s.h, β⟩ x u) (hx : retC s.h x y)
    (hf : ∀ o ∈ refN x, ∀ b, β o = some b → ¬ A' b) : RelP w A' y u := by
  have fr : ∀ y v, RelP w A y v → RelP w A' y v := fun y v h => h.frame (fun _ _ _ => rfl) (Nat.le_refl _) hA
  unfold retC at hx
  split at hx
  · rename_i o m
    obtain ⟨ob, ho, hn, himp, rfl⟩ := hx
    have h2 := (hr ob ho).2 hn
    have hok := R.obs.ok o ob ho
    simp only at h2 hok
    cases hb : β o with
    | none =>
      rw [hb] at h2 hok
      have h0 : ob.rows = [] := hok
      rw [h0, h2]
      exact .slnil _
    | some b =>
      rw [hb] at h2 hok
      obtain ⟨cap, cur, rfl, h3, h4, h5, h6⟩ := h2
      obtain ⟨hA0, cur', hh, hes', hlen, hcc⟩ := hok
      simp only at hh h5 hcc
      have : cur' = cur := by rw [h5] at hh; simp at hh; exact hh.symm
      subst this
      rw [hn]
      refine .sl ob.rows b 0 cap ob.es (fun i j => (cur'[i * ob.es + j]?).getD undef) (by rw [← hn]; exact h3) (fun _ => ⟨R.obs.lt b hA0, hf o (by simp [refN]) b hb⟩) hes' (fun i row hi j x hx => ?_) (fun i row hi j x hx => ?_)
      · obtain ⟨v, c1, _⟩ := hcc i row hi j x hx
        rw [Nat.zero_add, cell_of_row w b _ cur' ob.ty (0, 0) hh, c1]
        simp [c1]
      · obtain ⟨v, c1, _, _, c4⟩ := hcc i row hi j x hx
        simp only [c1, Option.getD_some]
        exact fr _ _ (c4 himp)
  · rcases hx with ⟨rfl, hp⟩ | ⟨rfl, rfl⟩
    · cases y <;> first | exact fr _ _ hr | (simp [V.pure] at hp; done) | (cases hr; done)
    · have : u = .slice none 0 0 := by cases hr; rfl
      rw [this]; exact .slnil _

theorem retCs_get {h : Nat → Option Ob} : ∀ {xs ys : List V}, retCs h xs ys → xs.length = ys.length ∧ ∀ (i : Nat) (y : V), ys[i]? = some y → ∃ x, xs[i]? = some x ∧ retC h x y
  | [], [], _ => ⟨rfl, fun i y h => by simp at h⟩
  | x :: xs, y :: ys, h => by
    obtain ⟨h, t⟩ := h
    obtain ⟨h1, h2⟩ := retCs_get t
    refine ⟨by simp [h1], fun i z hz => ?_⟩
    cases i with
    | zero => simp at hz; subst hz; exact ⟨x, rfl, h⟩
    | succ i => exact h2 i z (by simpa using hz)
  | [], _ :: _, h => h.elim
  | _ :: _, [], h => h.elim

theorem retA_rel {h : Nat → Option Ob} {E E' : Env} {c1 c2 pre post : List V} {y : V} {k m : Nat} {u : Value} {vs : Array Value} (hv : u = .agg vs) (hsz : vs.size = (c1 ++ y :: c2).length)
    (hc : ∀ (i : Nat) (z : V), (c1 ++ y :: c2)[i]? = some z → ∃ q, vs[i]? = some q ∧ q.oneCell' = true ∧ Rel1 E z q) (hl : c1.length = pre.length) (h1 : retCs h c1 pre) (h2 : retCs h c2 post)
    (one : ∀ (x0 y0 : V) (q : Value), x0 ∈ c1 ++ c2 → Rel1 E x0 q → retC h x0 y0 → RelP E'.w E'.A y0 q) (hy : ∀ q, Rel1 E y q → Rel1 E' (.ref k m) q) : RelA E' (.aggi (pre ++ .ref k m :: post)) u := by
  obtain ⟨a1, a2⟩ := retCs_get h1
  obtain ⟨b1, b2⟩ := retCs_get h2
  refine ⟨vs, hv, by simp only [List.length_append, List.length_cons] at hsz ⊢; omega, fun i x hx => ?_⟩
  rcases Nat.lt_trichotomy i pre.length with hi | hi | hi
  · rw [List.getElem?_append_left hi] at hx
    obtain ⟨x0, e1, e2⟩ := a2 i x hx
    obtain ⟨q, q1, q2, q3⟩ := hc i x0 (by rw [List.getElem?_append_left (by omega)]; exact e1)
    exact ⟨q, q1, q2, Rel1.of_relP (one x0 x q (List.mem_append_left _ (List.mem_of_getElem? e1)) q3 e2)⟩
  · subst hi
    simp at hx
    subst hx
    obtain ⟨q, q1, q2, q3⟩ := hc pre.length y (by rw [← hl]; simp)
    exact ⟨q, q1, q2, hy q q3⟩
  · obtain ⟨j, hj⟩ : ∃ j, i - pre.length = j + 1 := ⟨i - pre.length - 1, by omega⟩
    rw [List.getElem?_append_right (by omega), hj, List.getElem?_cons_succ] at hx
    obtain ⟨x0, e1, e2⟩ := b2 j x hx
    obtain ⟨q, q1, q2, q3⟩ := hc i x0 (by rw [List.getElem?_append_right (by omega), hl, hj, List.getElem?_cons_succ]; exact e1)
    exact ⟨q, q1, q2, Rel1.of_relP (one x0 x q (List.mem_append_right _ (List.mem_of_getElem? e1)) q3 e2)⟩

theorem RB.ret (R : RB w0 noI A0 n s a w β A) {rds : List RD} {xs : List V} {us : List Value} (hl : us.length = xs.length) (hrel : ∀ (k : Nat) (x : V), xs[k]? = some x → ∃ u, us[k]? = some u ∧ Rel ⟨w, A, s.h, β⟩ x u)
    (h1 : retL s.h xs rds) (h2 : ((owns xs rds).filterMap id).Nodup) (h3 : ∀ o ∈ frzs xs rds, o ∉ (owns xs rds).filterMap id) : ∃ β' A', PostR w0 A0 rds w us β' A' := by
  obtain ⟨e1, e2⟩ := retL_get h1
  let β' : Nat → Option Nat := fun k => ((owns xs rds)[k]?).bind fun o => o.bind β
  let A' : Nat → Prop := fun b => (b < w0.heap.size ∧ A0 b) ∨ ∃ k ob, rdH rds k = some ob ∧ β' k = some b
  have nI : ∀ o ob b, s.h o = some ob → β o = some b → w0.heap.size ≤ b := fun o ob b ho hb => (R.own o ob b ho hb).resolve_right (fun h => h)
  -- an owned part
  have own : ∀ k ob, rdH rds k = some ob → (∃ o ob0, (owns xs rds)[k]? = some (some o) ∧ s.h o = some ob0 ∧ β' k = β o ∧ ob0.ty = ob.ty ∧ ob0.es = ob.es ∧ ob0.imp = false ∧ ob0.rows = ob.rows ∧ ob.imp = false ∧ ∀ ty es rows, rds[k]? = some (.o ty es rows) → xs[k]? = some (.ref o ob.rows.length)) ∨
      (β' k = none ∧ ob.rows = [] ∧ (∀ ty es rows, rds[k]? = some (.o ty es rows) → xs[k]? = some .nil) ∧ ob.imp = false) := by
    intro k ob hk
    unfold rdH at hk
    cases hr : rds[k]? with
    | none => simp [hr] at hk
    | some rd =>
      cases rd with
      | v x => simp [hr, RD.ob] at hk
      | o ty es rows =>
        simp [hr, RD.ob] at hk
        subst hk
        obtain ⟨x, hx, hxx⟩ := e2 k _ hr
        have hog := owns_get xs rds k x _ hx hr
        cases x <;> simp only [retX, retC] at hxx
        case ref o m =>
          obtain ⟨ob0, ho, hn, ht, he, hi, hrw⟩ := hxx
          exact .inl ⟨o, ob0, hog, ho, by simp only [β', hog, ownN, Option.bind_some], ht, he, hi, hrw, rfl, fun _ _ _ _ => by rw [hx, hn, hrw]⟩
        case nil => exact .inr ⟨by simp only [β', hog, ownN, Option.bind_some, Option.bind_none], hxx, fun _ _ _ _ => hx, rfl⟩
      | a ty es rows pre post =>
        simp [hr, RD.ob] at hk
        subst hk
        obtain ⟨x, hx, hxx⟩ := e2 k _ hr
        have hog := owns_get xs rds k x _ hx hr
        obtain ⟨c1, y, c2, hxc, g1, g2, g3, g4, g5⟩ := retX_a hxx
        rcases g4 with ⟨_, hr0, ho⟩ | ⟨o, ob0, _, ho, ht, he, hi, hrw, hon⟩
        · exact .inr ⟨by simp only [β', hog, ho, Option.bind_some, Option.bind_none], hr0, fun _ _ _ hh => by (first | (rw [hr] at hh; cases hh) | cases hh), rfl⟩
        · rw [hon] at hog
          exact .inl ⟨o, ob0, hog, ho, by simp only [β', hog, Option.bind_some], ht, he, hi, hrw, rfl, fun _ _ _ hh => by (first | (rw [hr] at hh; cases hh) | cases hh)⟩
  have hA'A : ∀ b, b < w.heap.size → A' b → A b := by
    rintro b _ (⟨hb, h0⟩ | ⟨k, ob, hk, hb⟩)
    · exact R.a0 b hb h0
    · rcases own k ob hk with ⟨o, ob0, _, ho, hβ, _⟩ | ⟨hβ, _⟩
      · rw [hβ] at hb
        have := R.obs.ok o ob0 ho
        simp only at this
        rw [hb] at this
        exact this.1
      · rw [hβ] at hb; cases hb
  -- what is frozen is nobody's
  have frz : ∀ o ob0, s.h o = some ob0 → o ∈ frzs xs rds → ∀ b, β o = some b → ¬ A' b := by
    rintro o ob0 ho hf b hb (⟨h4, _⟩ | ⟨k, ob, hk, hb'⟩)
    · have := nI o ob0 b ho hb
      omega
    · rcases own k ob hk with ⟨o2, ob2, hog, ho2, hβ, _⟩ | ⟨hβ, _⟩
      · rw [hβ] at hb'
        have : o = o2 := R.obs.inj o o2 ob0 ob2 b ho ho2 hb hb'
        subst this
        exact h3 o hf (List.mem_filterMap.2 ⟨some o, List.mem_of_getElem? hog, rfl⟩)
      · rw [hβ] at hb'; cases hb'
  have frz' : ∀ (k : Nat) (x : V) (rd : RD), xs[k]? = some x → rds[k]? = some rd → ∀ o ∈ frzN x rd, ∀ (_ : ∃ ob, s.h o = some ob), ∀ b, β o = some b → ¬ A' b :=
    fun k x rd hx hrd o ho ⟨ob, hob⟩ b hb => frz o ob hob (frzs_mem xs rds k x rd hx hrd o ho) b hb
  have fr : ∀ y v, RelP w A y v → RelP w A' y v := fun y v h => h.frame (fun _ _ _ => rfl) (Nat.le_refl _) hA'A
  have hobs : ObsOK ⟨w, A', rdH rds, β'⟩ := by
    refine ⟨fun k ob hk => ?_, fun k k' ob ob' b hk hk' hb hb' => ?_, fun b hb => ?_⟩
    · rcases own k ob hk with ⟨o, ob0, _, ho, hβ, hty, hes, himp, hrows, himp', _⟩ | ⟨hβ, hr0, _⟩
      · simp only [hβ]
        have hok := R.obs.ok o ob0 ho
        simp only at hok
        cases hb : β o with
        | none => rw [hb] at hok; have h0 : ob0.rows = [] := hok; show ob.rows = []; rw [← hrows]; exact h0
        | some b =>
          rw [hb] at hok
          obtain ⟨_, cur, c1, c2, c3, c4⟩ := hok
          refine ⟨.inr ⟨k, ob, hk, by rw [hβ]; exact hb⟩, cur, by rw [← hty]; exact c1, by rw [← hrows, ← hes]; exact c2, by rw [← hrows, ← hes]; exact c3, fun i row hi j x hx => ?_⟩
          obtain ⟨v, d1, d2, _, d4⟩ := c4 i row (by rw [hrows]; exact hi) j x hx
          have d5 := fr _ _ (d4 himp)
          exact ⟨v, by rw [← hes]; exact d1, d2, Rel1.of_relP d5, fun _ => d5⟩
      · simp only [hβ]; exact hr0
    · rcases own k ob hk with ⟨o, ob0, hog, ho, hβ, _⟩ | ⟨hβ, _⟩
      · rcases own k' ob' hk' with ⟨o', ob0', hog', ho', hβ', _⟩ | ⟨hβ', _⟩
        · simp only [hβ] at hb
          simp only [hβ'] at hb'
          have : o = o' := R.obs.inj o o' ob0 ob0' b ho ho' hb hb'
          subst this
          exact owns_inj _ h2 k k' o hog hog'
        · simp only [hβ'] at hb'; cases hb'
      · simp only [hβ] at hb; cases hb
    · rcases hb with ⟨h4, _⟩ | ⟨k, ob, hk, hb⟩
      · exact Nat.lt_of_lt_of_le h4 R.ev.size
      · rcases own k ob hk with ⟨o, ob0, _, ho, hβ, _⟩ | ⟨hβ, _⟩
        · rw [hβ] at hb
          have := R.obs.ok o ob0 ho
          simp only at this
          rw [hb] at this
          exact R.obs.lt b this.1
        · rw [hβ] at hb; cases hb
  refine ⟨β', A', by rw [hl, e1], hobs, fun k rd hk => ?_, fun b hb h0 => .inl ⟨hb, h0⟩, R.ev, fun k ob b hk hb => ?_⟩
  · obtain ⟨x, hx, hxx⟩ := e2 k rd hk
    obtain ⟨u, hu, hru⟩ := hrel k x hx
    refine ⟨u, hu, ?_⟩
    have hfz := frz' k x rd hx hk
    cases rd with
    | o ty es rows =>
      have hk' : rdH rds k = some ⟨ty, es, false, rows⟩ := by simp [rdH, hk, RD.ob]
      intro ob hob
      simp only at hob
      rw [hk'] at hob
      cases hob
      rcases own k _ hk' with ⟨o, ob0, hog, ho, hβ, hty, hes, himp, hrows, _, hxk⟩ | ⟨hβ, hr0, hxk, _⟩
      · have hxk := hxk _ _ _ hk
        rw [hx] at hxk
        cases hxk
        obtain ⟨r1, r2⟩ := hru ob0 ho
        refine ⟨Nat.le_refl _, fun hn => ?_⟩
        simp only at hn hrows hty hes
        have r3 := r2 (by rw [hrows])
        simp only [hβ]
        cases hb : β o with
        | none => simp only [hb] at r3; exact r3
        | some b =>
          simp only [hb] at r3
          obtain ⟨cap, cur, q1, q2, q3, q4, q5⟩ := r3
          exact ⟨cap, cur, q1, q2, q3, by rw [← hty]; exact q4, by rw [← hes]; exact q5⟩
      · have hxk := hxk _ _ _ hk
        rw [hx] at hxk
        cases hxk
        simp only at hr0
        subst hr0
        refine ⟨Nat.le_refl _, fun _ => ?_⟩
        simp only [hβ]
        cases hru; rfl
    | a ty es rows pre post =>
      have hk' : rdH rds k = some ⟨ty, es, false, rows⟩ := by simp [rdH, hk, RD.ob]
      obtain ⟨c1, y, c2, hxc, g1, g2, g3, g4, g5⟩ := retX_a hxx
      have hog := owns_get xs rds k x _ hx hk
      obtain ⟨vs, hv, hsz, hc⟩ : ∃ vs : Array Value, u = .agg vs ∧ vs.size = (c1 ++ y :: c2).length ∧ ∀ (i : Nat) (z : V), (c1 ++ y :: c2)[i]? = some z → ∃ q, vs[i]? = some q ∧ q.oneCell' = true ∧ Rel1 ⟨w, A, s.h, β⟩ z q := by
        rcases hxc with rfl | rfl
        · obtain ⟨vs, hv, hs, hc⟩ := hru
          exact ⟨vs, hv, hs, fun i z hz => let ⟨q, q1, q2⟩ := hc i z hz; ⟨q, q1, q2.oneCell, Rel1.of_relP q2⟩⟩
        · obtain ⟨vs, hv, hs, hc⟩ := hru
          exact ⟨vs, hv, hs, fun i z hz => hc i z hz⟩
      refine retA_rel (E' := ⟨w, A', rdH rds, β'⟩) hv hsz hc g1 g2 g3 (fun x0 y0 q hm hr hcc => ?_) (fun q hq => ?_)
      · refine retC_rel (rds := rds) (β' := β') R hA'A hr hcc fun o ho b hb => ?_
        have hex : ∃ ob, s.h o = some ob := by
          cases x0 <;> simp only [refN] at ho <;> simp at ho
          subst ho
          obtain ⟨ob, h5, _⟩ := hcc
          exact ⟨ob, h5⟩
        exact hfz o (by rw [g5]; exact List.mem_flatMap.2 ⟨x0, hm, ho⟩) hex b hb
      · intro ob hob
        simp only at hob
        rw [hk'] at hob
        cases hob
        rcases g4 with ⟨rfl, hr0, ho⟩ | ⟨o, ob0, rfl, ho, ht, he, hi, hrw, hon⟩
        · have hβ : β' k = none := by simp only [β', hog, ho, Option.bind_some, Option.bind_none]
          subst hr0
          refine ⟨Nat.le_refl _, fun _ => ?_⟩
          simp only [hβ]
          cases hq; rfl
        · rw [hon] at hog
          have hβ : β' k = β o := by simp only [β', hog, Option.bind_some]
          obtain ⟨r1, r2⟩ := hq ob0 ho
          subst hrw
          refine ⟨Nat.le_refl _, fun hn => ?_⟩
          have r3 := r2 rfl
          simp only [hβ]
          cases hb : β o with
          | none => simp only [hb] at r3; exact r3
          | some b =>
            simp only [hb] at r3
            obtain ⟨cap, cur, q1, q2, q3, q4, q5⟩ := r3
            exact ⟨cap, cur, q1, q2, q3, by rw [← ht]; exact q4, by rw [← he]; exact q5⟩
    | v y =>
      have one : Rel1 ⟨w, A, s.h, β⟩ x u → retC s.h x y → (∀ o ∈ refN x, o ∈ frzN x (.v y)) → RelP w A' y u := by
        intro hr hc hsub
        refine retC_rel (rds := rds) (β' := β') R hA'A hr hc fun o ho b hb => ?_
        have hex : ∃ ob, s.h o = some ob := by
          cases x <;> simp only [refN] at ho <;> simp at ho
          subst ho
          obtain ⟨ob, h5, _⟩ := hc
          exact ⟨ob, h5⟩
        exact hfz o (hsub o ho) hex b hb
      have many : ∀ (cs cs' : List V) (vs : Array Value), u = .agg vs → vs.size = cs.length → (∀ (i : Nat) (z : V), cs[i]? = some z → ∃ q, vs[i]? = some q ∧ Rel1 ⟨w, A, s.h, β⟩ z q) → retCs s.h cs cs' → (∀ o ∈ cs.flatMap refN, o ∈ frzN x (.v y)) →
          RelA ⟨w, A', rdH rds, β'⟩ (.agg cs') u := by
        intro cs cs' vs hu hs hc hr hsub
        obtain ⟨f1, f2⟩ := retCs_get hr
        refine ⟨vs, hu, by rw [hs, f1], fun i z hz => ?_⟩
        obtain ⟨x0, hx0, hcc⟩ := f2 i z hz
        obtain ⟨q, hq, hrq⟩ := hc i x0 hx0
        refine ⟨q, hq, retC_rel (rds := rds) (β' := β') R hA'A hrq hcc fun o ho b hb => ?_⟩
        have hex : ∃ ob, s.h o = some ob := by
          cases x0 <;> simp only [refN] at ho <;> simp at ho
          subst ho
          obtain ⟨ob, h5, _⟩ := hcc
          exact ⟨ob, h5⟩
        exact hfz o (hsub o (List.mem_flatMap.2 ⟨x0, List.mem_of_getElem? hx0, ho⟩)) hex b hb
      cases x with
      | agg cs =>
        obtain ⟨vs, hv, hs, hc⟩ := hru
        cases y <;> simp only [retX, retC] at hxx <;> try (simp at hxx; done)
        rename_i cs'
        rcases hxx with rfl | hxx
        · exact ⟨vs, hv, hs, fun i z hz => let ⟨q, q1, q2⟩ := hc i z hz; ⟨q, q1, fr _ _ q2⟩⟩
        · exact many cs cs' vs hv hs (fun i z hz => let ⟨q, q1, q2⟩ := hc i z hz; ⟨q, q1, Rel1.of_relP q2⟩) hxx (fun o ho => by simpa [frzN] using ho)
      | aggi cs =>
        obtain ⟨vs, hv, hs, hc⟩ := hru
        cases y <;> simp only [retX, retC] at hxx <;> try (simp [V.pure] at hxx; done)
        rename_i cs'
        exact many cs cs' vs hv hs (fun i z hz => let ⟨q, q1, q2, q3⟩ := hc i z hz; ⟨q, q1, q3⟩) hxx (fun o ho => by simpa [frzN] using ho)
      | tup vs => simp [retX, retC, V.pure] at hxx
      | fn f cs => simp [retX, retC, V.pure] at hxx
      | rd rows => simp [retX, retC, V.pure] at hxx
      | ptr o n i j => simp [retX, retC, V.pure] at hxx
      | cp row j => simp [retX, retC, V.pure] at hxx
      | dead => simp [retX, retC, V.pure] at hxx
      | ref o m => exact RelA.of_relP (one hru hxx (fun o ho => by simpa [frzN, refN] using ho))
      | int k m => exact RelA.of_relP (one hru hxx (fun o ho => by simp [refN] at ho))
      | bool b => exact RelA.of_relP (one hru hxx (fun o ho => by simp [refN] at ho))
      | str b => exact RelA.of_relP (one hru hxx (fun o ho => by simp [refN] at ho))
      | nil => exact RelA.of_relP (one hru hxx (fun o ho => by simp [refN] at ho))
      | sl rows => exact RelA.of_relP (one hru hxx (fun o ho => by simp [refN] at ho))
      | raw v => exact RelA.of_relP (one hru hxx (fun o ho => by simp [refN] at ho))
  · rcases own k ob hk with ⟨o, ob0, _, ho, hβ, _⟩ | ⟨hβ, _⟩
    · rw [hβ] at hb; exact nI o ob0 b ho hb
    · rw [hβ] at hb; cases hb

end

end Go.AL
