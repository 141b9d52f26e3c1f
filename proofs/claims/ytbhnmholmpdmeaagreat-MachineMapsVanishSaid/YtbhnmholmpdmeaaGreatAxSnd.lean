/-
  THE EXECUTOR, SIXTH PART: it is sound. By an AI agent.
-/
import Derived.Test.YtbhnmholmpdmeaaGreatAlFrz
import Derived.Test.YtbhnmholmpdmeaaGreatAxEx
namespace Go.AL
set_option linter.unusedVariables false
set_option linter.unusedSimpArgs false
set_option linter.unusedSectionVars false

/-! ### Results are deep -/
mutual
theorem tyV_deep : ∀ (t : Ty) (x : t.T) (v : V), TyV t x v → PureV v
  | .int k, x, v, h => by simp only [TyV] at h; subst h; exact .int _ _
  | .bool, x, v, h => by simp only [TyV] at h; subst h; exact .bool _
  | .str, x, v, h => by simp only [TyV] at h; subst h; exact .str _
  | .sl cs, x, v, h => by
    simp only [TyV] at h
    rcases h with ⟨_, rfl⟩ | ⟨rows, rfl, hr⟩
    · exact .nil
    · refine .sl rows fun row hrow y hy => ?_
      obtain ⟨i, hi⟩ := List.getElem?_of_mem hrow
      obtain ⟨a, _, ha⟩ := All2.getB hr i row hi
      exact rowV_deep cs a row ha y hy
theorem rowV_deep : ∀ (τ : List Ty) (x : RowT τ) (row : List V), RowV τ x row → ∀ y ∈ row, PureV y
  | [], x, row, h, y, hy => by simp only [RowV] at h; subst h; cases hy
  | t :: ts, x, row, h, y, hy => by
    simp only [RowV] at h
    exact rowV1_deep ts (TyV t) (fun x v => tyV_deep t x v) x row h y hy
theorem rowV1_deep {A : Type} : ∀ (τ : List Ty) (R : A → V → Prop), (∀ x v, R x v → PureV v) → ∀ (x : RowT1 A τ) (row : List V), RowV1 R τ x row → ∀ y ∈ row, PureV y
  | [], R, hR, x, row, h, y, hy => by
    simp only [RowV1] at h
    obtain ⟨v, rfl, hv⟩ := h
    simp at hy; subst hy
    exact hR _ _ hv
  | t :: ts, R, hR, x, row, h, y, hy => by
    simp only [RowV1] at h
    obtain ⟨v, r, rfl, hv, hr⟩ := h
    rcases List.mem_cons.1 hy with rfl | hy
    · exact hR _ _ hv
    · exact rowV1_deep ts (TyV t) (fun x v => tyV_deep t x v) _ r hr y hy
end

def pureC (s : St) (F : Nat → Prop) (x x' : V) : Prop := (x' = x ∧ x.pure = true ∧ ∀ cs, x ≠ .agg cs) ∨ ∃ p n ob, x = .ref p n ∧ F p ∧ s.h p = some ob ∧ ob.imp = false ∧ n = ob.rows.length ∧ x' = .sl ob.rows

section
variable {xs : XSt} {s : St} {F : Nat → Prop}

theorem frzD_ok (R : RS xs s) {σ : List Ty} {x : X} {l : List (RowT σ)} {f : List Nat} {v : V} (h : frzD xs.h σ x = some (l, f)) (hv : XV ⟨xs.c, xs.h, s.h⟩ x v) (hF : ∀ p ∈ f, F p) : ∃ v', pureC s F v v' ∧ ((l = [] ∧ v' = .nil) ∨ ∃ rows, v' = .sl rows ∧ RowsV σ l rows) := by
  have sl : ∀ {x : X} {l : List (RowT σ)} {v : V}, slOf σ x = some l → XV ⟨xs.c, xs.h, s.h⟩ x v → ∃ v', pureC s F v v' ∧ ((l = [] ∧ v' = .nil) ∨ ∃ rows, v' = .sl rows ∧ RowsV σ l rows) := by
    intro x l v h hv
    have h1 := slOf_ok h hv
    refine ⟨v, .inl ⟨rfl, ?_⟩, h1⟩
    rcases h1 with ⟨_, rfl⟩ | ⟨rows, rfl, _⟩ <;> exact ⟨rfl, fun cs h => by cases h⟩
  unfold frzD at h
  split at h
  · rename_i p ver
    split at h
    · rename_i v' ty es τ l' ho
      split at h <;> try (cases h; done)
      rename_i hτ
      obtain ⟨hb, h⟩ := cond_some h
      simp only [Option.some.injEq, Prod.mk.injEq] at h
      obtain ⟨rfl, rfl⟩ := h
      obtain ⟨xob, ob, h1, h2, h3, h4, rfl⟩ := cur_ref (H := ⟨xs.c, xs.h, s.h⟩) R.h hv (by unfold curO; simp only; rw [ho]; exact hb)
      simp only at h1 h3
      rw [ho] at h1; cases h1
      obtain ⟨_, _, himp, h8⟩ := h4
      refine ⟨.sl ob.rows, .inr ⟨p, _, ob, rfl, hF p (by simp), h3, himp, rfl, rfl⟩, ?_⟩
      exact .inr ⟨_, rfl, (castL_rows _ hτ _).2 h8⟩
    · rename_i v' ty es imp rows ho
      obtain ⟨hb, h⟩ := cond_some h
      simp only [Bool.and_eq_true, Bool.not_eq_true'] at hb
      split at h <;> try (cases h; done)
      rename_i l' hl
      simp only [Option.some.injEq, Prod.mk.injEq] at h
      obtain ⟨rfl, rfl⟩ := h
      obtain ⟨xob, ob, h1, h2, h3, h4, rfl⟩ := cur_ref (H := ⟨xs.c, xs.h, s.h⟩) R.h hv (by unfold curO; simp only; rw [ho]; exact hb.1)
      simp only at h1 h3
      rw [ho] at h1; cases h1
      obtain ⟨_, _, himp, h8⟩ := h4
      refine ⟨.sl ob.rows, .inr ⟨p, _, ob, rfl, hF p (by simp), h3, by rw [himp]; exact hb.2, rfl, rfl⟩, ?_⟩
      exact .inr ⟨_, rfl, mapM_rows hl h8⟩
    · cases h
  · split at h <;> try (cases h; done)
    rename_i l' hl
    simp only [Option.some.injEq, Prod.mk.injEq] at h
    obtain ⟨rfl, rfl⟩ := h
    exact sl hl hv

theorem sclD_ok (R : RS xs s) (t : Ty) {x : X} {y : t.T} {f : List Nat} {v : V} (h : sclD xs.h t x = some (y, f)) (hv : XV ⟨xs.c, xs.h, s.h⟩ x v) (hF : ∀ p ∈ f, F p) : ∃ v', pureC s F v v' ∧ TyV t y v' := by
  cases t with
  | sl σ =>
    obtain ⟨v', h1, h2⟩ := frzD_ok (σ := σ) R h hv hF
    exact ⟨v', h1, by simp only [TyV]; exact h2⟩
  | int k =>
    change noF (intOfX k x) = some (y, f) at h
    unfold noF at h
    split at h <;> try (cases h; done)
    rename_i a ha
    have he := (Prod.mk.inj (Option.some.inj h)).1
    have := intOfX_ok ha
    subst this
    simp only [XV] at hv
    exact ⟨v, .inl ⟨rfl, by subst hv; exact ⟨rfl, fun cs h => by cases h⟩⟩, by simp only [TyV]; rw [hv]; exact congrArg _ he⟩
  | bool =>
    change noF (boolOfX x) = some (y, f) at h
    unfold noF at h
    split at h <;> try (cases h; done)
    rename_i a ha
    have he := (Prod.mk.inj (Option.some.inj h)).1
    have := boolOfX_ok ha
    subst this
    simp only [XV] at hv
    exact ⟨v, .inl ⟨rfl, by subst hv; exact ⟨rfl, fun cs h => by cases h⟩⟩, by simp only [TyV]; rw [hv]; exact congrArg _ he⟩
  | str =>
    change noF (strOfX x) = some (y, f) at h
    unfold noF at h
    split at h <;> try (cases h; done)
    rename_i a ha
    have he := (Prod.mk.inj (Option.some.inj h)).1
    have := strOfX_ok ha
    subst this
    simp only [XV] at hv
    exact ⟨v, .inl ⟨rfl, by subst hv; exact ⟨rfl, fun cs h => by cases h⟩⟩, by simp only [TyV]; rw [hv]; exact congrArg _ he⟩

theorem pairF_some {A B : Type} {a : Option (A × List Nat)} {b : Option (B × List Nat)} {p : A × B} {f : List Nat} (h : pairF a b = some (p, f)) : ∃ f1 f2, a = some (p.1, f1) ∧ b = some (p.2, f2) ∧ f = f1 ++ f2 := by
  unfold pairF at h
  split at h <;> try (cases h; done)
  split at h <;> try (cases h; done)
  simp only [Option.some.injEq, Prod.mk.injEq] at h
  obtain ⟨rfl, rfl⟩ := h
  exact ⟨_, _, rfl, rfl, rfl⟩

theorem srowD1_ok (R : RS xs s) {A : Type} {f : X → Option (A × List Nat)} {Q : A → V → Prop} (hf : ∀ x y g v, f x = some (y, g) → XV ⟨xs.c, xs.h, s.h⟩ x v → (∀ p ∈ g, F p) → ∃ v', pureC s F v v' ∧ Q y v') :
    ∀ (τ : List Ty) (cs : List X) (y : RowT1 A τ) (g : List Nat) (vs : List V), srowD1 xs.h f τ cs = some (y, g) → XVs ⟨xs.c, xs.h, s.h⟩ cs vs → (∀ p ∈ g, F p) → ∃ vs', All2 (pureC s F) vs vs' ∧ RowV1 Q τ y vs'
  | [], cs, y, g, vs, h, hv, hF => by
    match cs, h, hv with
    | [x], h, hv =>
      have h : f x = some (y, g) := h
      simp only [XVs] at hv
      obtain ⟨v, r, rfl, h1, rfl⟩ := hv
      obtain ⟨v', h2, h3⟩ := hf x y g v h h1 hF
      simp only [RowV1]
      exact ⟨[v'], ⟨h2, trivial⟩, v', rfl, h3⟩
  | t :: ts, cs, y, g, vs, h, hv, hF => by
    match cs, h, hv with
    | x :: r, h, hv =>
      have h : pairF (f x) (srowD1 xs.h (sclD xs.h t) ts r) = some (y, g) := h
      obtain ⟨f1, f2, h1, h2, rfl⟩ := pairF_some h
      simp only [XVs] at hv
      obtain ⟨v, r', rfl, h3, h4⟩ := hv
      obtain ⟨v', h5, h6⟩ := hf x _ f1 v h1 h3 (fun p hp => hF p (List.mem_append_left _ hp))
      obtain ⟨vs', h7, h8⟩ := srowD1_ok R (fun x y g v => sclD_ok R t) ts r _ f2 r' h2 h4 (fun p hp => hF p (List.mem_append_right _ hp))
      simp only [RowV1]
      exact ⟨v' :: vs', ⟨h5, h7⟩, v', vs', rfl, h6, h8⟩

theorem srowD_ok (R : RS xs s) (τ : List Ty) {cs : List X} {y : RowT τ} {g : List Nat} {vs : List V} (h : srowD xs.h τ cs = some (y, g)) (hv : XVs ⟨xs.c, xs.h, s.h⟩ cs vs) (hF : ∀ p ∈ g, F p) : ∃ vs', All2 (pureC s F) vs vs' ∧ RowV τ y vs' := by
  cases τ with
  | nil =>
    match cs, h, hv with
    | [], h, hv => simp only [XVs] at hv; subst hv; exact ⟨[], trivial, by simp only [RowV]⟩
  | cons t ts =>
    simp only [RowV]
    exact srowD1_ok R (fun x y g v => sclD_ok R t) ts cs y g vs h hv hF

end

/-! ### Structs with own slices, as arguments that are only read -/
section
variable {xs : XSt} {s : St}
end
section
variable {β : Type} {P : Program} {es : List Ent} {n : Nat} {r : β}

theorem beq_eq (p q : Nat) : Nat.beq p q = (p == q) := by
  by_cases hx : p = q
  · subst hx; rw [Nat.beq_refl]; simp
  · rw [beq_eq_false_iff_ne.2 hx]
    cases hb : Nat.beq p q with
    | false => rfl
    | true => exact absurd (Nat.eq_of_beq_eq_true hb) hx
end

/-! ### The machine's side of an item -/
section
variable (P : Program) (Rt : Act → World → Prop)
end

section
variable {P : Program} {Rt : Act → World → Prop}
end

section
variable {β : Type} {C : Cfg} {r : β} {w0 : World} {I : Imp} {A0 : Nat → Prop} {Rt : Act → World → Prop}

end
end Go.AL
