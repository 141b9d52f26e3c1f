/-
  THE ABSTRACT LAYER: a state seen anew: names changed, slots and objects forgotten, objects made read-only. By an AI agent.
-/
import Derived.Test.YtbhnmholmpdmeaaGreatAxSnd
namespace Go.AL
set_option linter.unusedVariables false
set_option linter.unusedSimpArgs false
set_option linter.unusedSectionVars false

section
variable (s : St) (ρ : Nat → Option Nat) (F : Nat → Prop)
def cellR (x x' : V) : Prop := pureC s F x x' ∨ (∃ o p n, x = .ref p n ∧ ρ o = some p ∧ x' = .ref o n) ∨ (∃ o p n i j, x = .ptr p n i j ∧ ρ o = some p ∧ x' = .ptr o n i j) ∨ (∃ o, x = .nil ∧ ρ o = none ∧ x' = .ref o 0) ∨ x' = .dead
def slotR (x x' : V) : Prop := cellR s ρ F x x' ∨ (x' = x ∧ ((∃ rows, x = .rd rows) ∨ (∃ row j, x = .cp row j) ∨ (∃ cs, x = .agg cs) ∨ ∃ f cs, x = .fn f cs ∧ ∀ c ∈ cs, ∃ row j, c = .cp row j)) ∨
  (∃ cs cs', x = .aggi cs ∧ x' = .agg cs' ∧ All2 (pureC s F) cs cs') ∨ (∃ cs cs', x = .aggi cs ∧ x' = .aggi cs' ∧ All2 (cellR s ρ F) cs cs') ∨ (∃ f cs cs', x = .fn f cs ∧ x' = .fn f cs' ∧ All2 (cellR s ρ F) cs cs')
def obR (ob ob' : Ob) : Prop := ob'.ty = ob.ty ∧ ob'.es = ob.es ∧ All2 (All2 fun x x' => cellR s ρ F x x' ∧ (ob'.imp = false → pureC s F x x')) ob.rows ob'.rows

structure Resh (s' : St) : Prop where
  t : ∀ i, s'.t i = .dead ∨ slotR s ρ F (s.t i) (s'.t i)
  h : ∀ o ob', s'.h o = some ob' → (∃ p ob, ρ o = some p ∧ ¬ F p ∧ s.h p = some ob ∧ obR s ρ F ob ob') ∨ (ρ o = none ∧ ob'.rows = [])
  inj : ∀ o o' p, ρ o = some p → ρ o' = some p → o = o'
end

section
variable {I : Imp} {s s' : St} {ρ : Nat → Option Nat} {F : Nat → Prop} {n : Nat} {w0 : World} {A0 : Nat → Prop} {a : Act} {w : World} {β : Nat → Option Nat} {A : Nat → Prop}

def newA (A : Nat → Prop) (F : Nat → Prop) (s : St) (β : Nat → Option Nat) (b : Nat) : Prop := A b ∧ ¬ ∃ p ob, F p ∧ s.h p = some ob ∧ β p = some b
def newβ (ρ : Nat → Option Nat) (β : Nat → Option Nat) (o : Nat) : Option Nat := (ρ o).bind β

theorem pureC_rel (R : RB w0 I A0 n s a w β A) {x x' : V} {u : Value} (h : pureC s F x x') (hu : Rel1 ⟨w, A, s.h, β⟩ x u) : RelP w (newA A F s β) x' u := by
  rcases h with ⟨rfl, hp, hna⟩ | ⟨p, m, ob, rfl, hF, hp, himp, hm, rfl⟩
  · have h1 : RelP w A x' u := by cases x' <;> first | exact hu | (simp [V.pure] at hp; done) | exact absurd rfl (hna _)
    exact h1.frame (fun _ _ _ => rfl) (Nat.le_refl _) (fun b _ h => h.1)
  · have h2 := (hu ob hp).2 hm
    have hok := R.obs.ok p ob hp
    simp only at h2 hok
    cases hb : β p with
    | none =>
      rw [hb] at h2 hok
      have h0 : ob.rows = [] := hok
      rw [h0, h2]
      exact .slnil _
    | some b =>
      rw [hb] at h2 hok
      obtain ⟨cap, cur, rfl, h3, h4, h5, h6⟩ := h2
      obtain ⟨hA0, cur', hh, hes', hlen, hcc⟩ := hok
      simp only at hh h5 hcc
      have : cur' = cur := by rw [h5] at hh; simp at hh; exact hh.symm
      subst this
      rw [hm]
      refine .sl ob.rows b 0 cap ob.es (fun i j => (cur'[i * ob.es + j]?).getD undef) (by rw [← hm]; exact h3) (fun _ => ⟨R.obs.lt b hA0, fun h => h.2 ⟨p, ob, hF, hp, hb⟩⟩) hes' (fun i row hi j x hx => ?_) (fun i row hi j x hx => ?_)
      · obtain ⟨v, c1, _⟩ := hcc i row hi j x hx
        rw [Nat.zero_add, cell_of_row w b _ cur' ob.ty (0, 0) hh, c1]
        simp [c1]
      · obtain ⟨v, c1, _, _, c4⟩ := hcc i row hi j x hx
        simp only [c1, Option.getD_some]
        exact (c4 himp).frame (fun _ _ _ => rfl) (Nat.le_refl _) (fun b _ h => h.1)

theorem obR_len {ob ob' : Ob} (h : obR s ρ F ob ob') : ob'.rows.length = ob.rows.length := h.2.2.len.symm

theorem cellR_rel (R : RB w0 I A0 n s a w β A) (T : Resh s ρ F s') {x x' : V} {u : Value} (h : cellR s ρ F x x') (hu : Rel1 ⟨w, A, s.h, β⟩ x u) : Rel1 ⟨w, newA A F s β, s'.h, newβ ρ β⟩ x' u := by
  rcases h with h | ⟨o, p, m, rfl, hρ, rfl⟩ | ⟨o, p, m, i, j, rfl, hρ, rfl⟩ | ⟨o, rfl, hρ, rfl⟩ | rfl
  · exact Rel1.of_relP (pureC_rel R h hu)
  · intro ob' ho'
    rcases T.h o ob' ho' with ⟨p', ob, h1, h2, h3, h4⟩ | ⟨h1, _⟩
    · rw [hρ] at h1
      cases h1
      have hl := obR_len h4
      obtain ⟨g1, g2⟩ := hu ob h3
      refine ⟨by omega, fun hm => ?_⟩
      have g3 := g2 (by omega)
      simp only at g3
      simp only [newβ, hρ, Option.bind_some]
      cases hb : β p with
      | none => rw [hb] at g3; exact g3
      | some b =>
        rw [hb] at g3
        obtain ⟨cap, cur, q1, q2, q3, q4, q5⟩ := g3
        exact ⟨cap, cur, q1, q2, q3, by rw [h4.1]; exact q4, by rw [h4.2.1]; exact q5⟩
    · rw [hρ] at h1; cases h1
  · intro ob' ho'
    rcases T.h o ob' ho' with ⟨p', ob, h1, h2, h3, h4⟩ | ⟨h1, _⟩
    · rw [hρ] at h1
      cases h1
      have hl := obR_len h4
      obtain ⟨g1, g2⟩ := hu ob h3
      refine ⟨by omega, fun hm => ?_⟩
      obtain ⟨b, g3, g4⟩ := g2 (by omega)
      exact ⟨b, by simp only [newβ, hρ, Option.bind_some]; exact g3, by rw [h4.2.1]; exact g4⟩
    · rw [hρ] at h1; cases h1
  · intro ob' ho'
    have : u = .slice none 0 0 := by cases hu; rfl
    refine ⟨Nat.zero_le _, fun _ => ?_⟩
    simp only [newβ, hρ, Option.bind_none]
    exact this
  · trivial

theorem slotR_rel (R : RB w0 I A0 n s a w β A) (T : Resh s ρ F s') {x x' : V} {u : Value} (h : slotR s ρ F x x') (hu : Rel ⟨w, A, s.h, β⟩ x u) : Rel ⟨w, newA A F s β, s'.h, newβ ρ β⟩ x' u := by
  have hM : ∀ b, (⟨w, newA A F s β, s'.h, newβ ρ β⟩ : Env).M b → (⟨w, A, s.h, β⟩ : Env).M b := by
    rintro b ⟨o, ob', ho, hb⟩
    simp only [newβ] at hb
    cases hρ : ρ o with
    | none => simp [hρ] at hb
    | some p =>
      simp [hρ] at hb
      rcases T.h o ob' ho with ⟨p', ob, h1, _, h3, _⟩ | ⟨h1, _⟩
      · rw [hρ] at h1; cases h1; exact ⟨p, ob, h3, hb⟩
      · rw [hρ] at h1; cases h1
  have hA : ∀ b, newA A F s β b → A b := fun b h => h.1
  have many : ∀ {cs cs' : List V} {vs : Array Value}, vs.size = cs.length → (∀ (i : Nat) (x : V), cs[i]? = some x → ∃ u, vs[i]? = some u ∧ u.oneCell' = true ∧ Rel1 ⟨w, A, s.h, β⟩ x u) → All2 (cellR s ρ F) cs cs' →
      vs.size = cs'.length ∧ ∀ (i : Nat) (x : V), cs'[i]? = some x → ∃ u, vs[i]? = some u ∧ u.oneCell' = true ∧ Rel1 ⟨w, newA A F s β, s'.h, newβ ρ β⟩ x u := by
    intro cs cs' vs h1 h2 h3
    refine ⟨by rw [h1, h3.len], fun i y hy => ?_⟩
    obtain ⟨x, hx, hxy⟩ := h3.getB i y hy
    obtain ⟨u, u1, u2, u3⟩ := h2 i x hx
    exact ⟨u, u1, u2, cellR_rel R T hxy u3⟩
  rcases h with h | ⟨rfl, h⟩ | ⟨cs, cs', rfl, rfl, h⟩ | ⟨cs, cs', rfl, rfl, h⟩ | ⟨f, cs, cs', rfl, rfl, h⟩
  · by_cases hd : x' = .dead
    · subst hd; trivial
    · have h1 : Rel1 ⟨w, A, s.h, β⟩ x u := by
        rcases h with (⟨rfl, hp, hna⟩ | ⟨p, m, ob, rfl, _⟩) | ⟨o, p, m, rfl, _⟩ | ⟨o, p, m, i, j, rfl, _⟩ | ⟨o, rfl, _⟩ | h
        · cases x' <;> first | exact hu | (simp [V.pure] at hp; done) | exact absurd rfl (hna _)
        · exact hu
        · exact hu
        · exact hu
        · exact hu
        · exact absurd h hd
      exact Rel.of_rel1 (cellR_rel R T h h1)
  · rcases h with ⟨rows, rfl⟩ | ⟨row, j, rfl⟩ | ⟨cs, rfl⟩ | ⟨f, cs, rfl, hcp⟩
    · exact SlAt.frame (fun _ _ _ => rfl) (fun _ _ _ => rfl) (Nat.le_refl _) (fun b _ h => hA b h) (fun b _ h => hM b h) hu
    · obtain ⟨b, off, f, h1, h2, h3, h4, h5⟩ := hu
      exact ⟨b, off, f, h1, h2, fun h => h3 (hM b h), h4, fun k x hx => (h5 k x hx).frame (fun _ _ _ => rfl) (Nat.le_refl _) (fun b _ h => hA b h)⟩
    · obtain ⟨vs, h1, h2, h3⟩ := hu
      exact ⟨vs, h1, h2, fun i x hx => let ⟨u, u1, u2⟩ := h3 i x hx; ⟨u, u1, u2.frame (fun _ _ _ => rfl) (Nat.le_refl _) (fun b _ h => hA b h)⟩⟩
    · obtain ⟨vs, h1, h2, h3⟩ := hu
      refine ⟨vs, h1, h2, fun i x hx => ?_⟩
      obtain ⟨u, u1, u2⟩ := h3 i x hx
      obtain ⟨row, j, rfl⟩ := hcp x (List.mem_of_getElem? hx)
      obtain ⟨b, off, g, g1, g2, g3, g4, g5⟩ := u2
      exact ⟨u, u1, b, off, g, g1, g2, fun h => g3 (hM b h), g4, fun k x hx => (g5 k x hx).frame (fun _ _ _ => rfl) (Nat.le_refl _) (fun b _ h => hA b h)⟩
  · obtain ⟨vs, h1, h2, h3⟩ := hu
    refine ⟨vs, h1, by rw [h2, h.len], fun i y hy => ?_⟩
    obtain ⟨x, hx, hxy⟩ := h.getB i y hy
    obtain ⟨u, u1, u2, u3⟩ := h3 i x hx
    exact ⟨u, u1, pureC_rel R hxy u3⟩
  · obtain ⟨vs, h1, h2, h3⟩ := hu
    obtain ⟨e1, e2⟩ := many h2 h3 h
    exact ⟨vs, h1, e1, e2⟩
  · obtain ⟨vs, h1, h2, h3⟩ := hu
    refine ⟨vs, h1, by rw [h2, h.len], fun i y hy => ?_⟩
    obtain ⟨x, hx, hxy⟩ := h.getB i y hy
    obtain ⟨u, u1, u2⟩ := h3 i x hx
    exact ⟨u, u1, cellR_rel R T hxy u2⟩

theorem RB.reshape (R : RB w0 I A0 n s a w β A) (T : Resh s ρ F s') (hF : ∀ p ob b, F p → s.h p = some ob → β p = some b → ¬ I.P b) (hq : ∀ o ob', I.q o → s'.h o = some ob' → ρ o = some o) : RB w0 I A0 n s' a w (newβ ρ β) (newA A F s β) := by
  have hsrc : ∀ o ob' b, s'.h o = some ob' → newβ ρ β o = some b → ∃ p ob, ρ o = some p ∧ ¬ F p ∧ s.h p = some ob ∧ obR s ρ F ob ob' ∧ β p = some b := by
    intro o ob' b ho hb
    simp only [newβ] at hb
    cases hρ : ρ o with
    | none => simp [hρ] at hb
    | some p =>
      simp [hρ] at hb
      rcases T.h o ob' ho with ⟨p', ob, h1, h2, h3, h4⟩ | ⟨h1, _⟩
      · rw [hρ] at h1; cases h1; exact ⟨p, ob, rfl, h2, h3, h4, hb⟩
      · rw [hρ] at h1; cases h1
  refine ⟨R.defers, R.size, fun i => ?_, ⟨fun o ob' ho => ?_, fun o o' ob ob' b h1 h2 h3 h4 => ?_, fun b hb => R.obs.lt b hb.1⟩, fun b hb h0 => ⟨R.a0 b hb h0, ?_⟩, R.ev, fun o ob' b ho hb => ?_, R.qn, fun o ob' hqo ho => ?_⟩
  · rcases T.t i with h | h
    · rw [h]; trivial
    · exact slotR_rel R T h (R.slots i)
  · simp only
    cases hb : newβ ρ β o with
    | none =>
      rcases T.h o ob' ho with ⟨p, ob, h1, h2, h3, h4⟩ | ⟨h1, h2⟩
      · simp [newβ, h1] at hb
        have hok := R.obs.ok p ob h3
        simp only at hok
        rw [hb] at hok
        have h0 : ob.rows = [] := hok
        have := obR_len h4
        rw [h0] at this
        exact List.eq_nil_of_length_eq_zero this
      · exact h2
    | some b =>
      obtain ⟨p, ob, h1, h2, h3, h4, h5⟩ := hsrc o ob' b ho hb
      have hok := R.obs.ok p ob h3
      simp only at hok
      rw [h5] at hok
      obtain ⟨k1, cur, k2, k3, k4, k5⟩ := hok
      have hl := obR_len h4
      refine ⟨⟨k1, fun ⟨q, ob2, hq1, hq2, hq3⟩ => ?_⟩, cur, by rw [h4.1]; exact k2, fun row hrow => ?_, by rw [hl, h4.2.1]; exact k4, fun i row hi j x hx => ?_⟩
      · have := R.obs.inj p q ob ob2 b h3 hq2 h5 hq3
        subst this
        exact h2 hq1
      · obtain ⟨i, hi⟩ := List.getElem?_of_mem hrow
        obtain ⟨r, hr, hrr⟩ := h4.2.2.getB i row hi
        rw [← hrr.len, h4.2.1]
        exact k3 r (List.mem_of_getElem? hr)
      · obtain ⟨r, hr, hrr⟩ := h4.2.2.getB i row hi
        obtain ⟨y, hy, hxy, hxp⟩ := hrr.getB j x hx
        obtain ⟨v, c1, c2, c3, _⟩ := k5 i r hr j y hy
        refine ⟨v, by rw [h4.2.1]; exact c1, c2, cellR_rel R T hxy c3, fun himp => pureC_rel R (hxp himp) c3⟩
  · obtain ⟨p, ob1, e1, _, e3, _, e5⟩ := hsrc o ob b h1 h3
    obtain ⟨q, ob2, f1, _, f3, _, f5⟩ := hsrc o' ob' b h2 h4
    have := R.obs.inj p q ob1 ob2 b e3 f3 e5 f5
    subst this
    exact T.inj o o' p e1 f1
  · rintro ⟨p, ob, hFp, hp, hbp⟩
    have := (R.own p ob b hp hbp).resolve_right (hF p ob b hFp hp hbp)
    omega
  · obtain ⟨p, ob1, e1, _, e3, _, e5⟩ := hsrc o ob' b ho hb
    exact R.own p ob1 b e3 e5
  · have hρ := hq o ob' hqo ho
    rcases T.h o ob' ho with ⟨p, ob, h1, h2, h3, h4⟩ | ⟨h1, _⟩
    · rw [hρ] at h1
      cases h1
      have hl := obR_len h4
      obtain ⟨g1, g2⟩ := R.pin o ob hqo h3
      refine ⟨by omega, fun hn => ?_⟩
      obtain ⟨g3, g4⟩ := g2 (by omega)
      refine ⟨by simp only [newβ, hρ, Option.bind_some]; exact g3, fun b cur0 hb hc => ?_⟩
      rw [h4.1] at hc ⊢
      exact g4 b cur0 hb hc
    · rw [hρ] at h1; cases h1

end
end Go.AL
