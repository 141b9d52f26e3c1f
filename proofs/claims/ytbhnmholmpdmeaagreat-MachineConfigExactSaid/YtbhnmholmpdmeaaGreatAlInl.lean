/-
  THE ABSTRACT LAYER: a callee that is run in its caller's place: objects are renamed as its frame is entered, and again as it is left; the caller's slots lie from 100000 on. By an AI agent.
-/
import Derived.Test.YtbhnmholmpdmeaaGreatAlFn
namespace Go.AL
set_option linter.unusedVariables false
set_option linter.unusedSimpArgs false
set_option linter.unusedSectionVars false

mutual
def V.ren (ρ : Nat → Nat) : V → V
  | .int k n => .int k n
  | .bool b => .bool b
  | .str s => .str s
  | .nil => .nil
  | .sl rows => .sl rows
  | .rd rows => .rd rows
  | .ref o n => .ref (ρ o) n
  | .ptr o n i j => .ptr (ρ o) n i j
  | .cp row j => .cp (V.rens ρ row) j
  | .agg cs => .agg (V.rens ρ cs)
  | .aggi cs => .aggi (V.rens ρ cs)
  | .tup vs => .tup (V.rens ρ vs)
  | .raw v => .raw v
  | .fn f cs => .fn f (V.rens ρ cs)
  | .dead => .dead
def V.rens (ρ : Nat → Nat) : List V → List V
  | [] => []
  | x :: xs => x.ren ρ :: V.rens ρ xs
end
theorem rens_map (ρ : Nat → Nat) : ∀ l : List V, V.rens ρ l = l.map (V.ren ρ)
  | [] => by simp only [V.rens, List.map_nil]
  | x :: l => by simp only [V.rens, List.map_cons, rens_map ρ l]
theorem rens_get (ρ : Nat → Nat) (l : List V) (i : Nat) (x : V) (h : (V.rens ρ l)[i]? = some x) : ∃ y, l[i]? = some y ∧ x = y.ren ρ := by
  rw [rens_map, List.getElem?_map] at h
  cases hi : l[i]? with
  | none => simp [hi] at h
  | some y => simp [hi] at h; exact ⟨y, rfl, h.symm⟩
theorem rens_len (ρ : Nat → Nat) (l : List V) : (V.rens ρ l).length = l.length := by rw [rens_map, List.length_map]

def Ob.ren (ρ : Nat → Nat) (ob : Ob) : Ob := ⟨ob.ty, ob.es, ob.imp, ob.rows.map (V.rens ρ)⟩

/-! ### Tables of names -/
def lookN : List (Nat × Nat) → Nat → Option Nat
  | [], _ => none
  | (a, b) :: r, p => bif Nat.beq p a then some b else lookN r p
def swapN : List (Nat × Nat) → List (Nat × Nat)
  | [] => []
  | (a, b) :: r => (b, a) :: swapN r
def renN (T : List (Nat × Nat)) (v : Nat) (p : Nat) : Nat := match lookN T p with
  | some q => q
  | none => v
def renH (T : List (Nat × Nat)) (v : Nat) (h : Nat → Option Ob) : Nat → Option Ob := fun q => match lookN (swapN T) q with
  | some p => (h p).map (Ob.ren (renN T v))
  | none => none
def renB (T : List (Nat × Nat)) (β : Nat → Option Nat) : Nat → Option Nat := fun q => match lookN (swapN T) q with
  | some p => β p
  | none => none
def Env.ren (T : List (Nat × Nat)) (v : Nat) (E : Env) : Env := ⟨E.w, E.A, renH T v E.h, renB T E.β⟩

theorem beqN_if {α : Type} (a b : Nat) (x y : α) : (bif Nat.beq a b then x else y) = if a = b then x else y := by
  by_cases h : a = b
  · subst h; simp [Nat.beq_refl]
  · have : Nat.beq a b = false := by
      cases hb : Nat.beq a b with
      | false => rfl
      | true => exact absurd (Nat.eq_of_beq_eq_true hb) h
    simp [this, h]
theorem lookN_mem : ∀ {T : List (Nat × Nat)} {p q : Nat}, lookN T p = some q → (p, q) ∈ T
  | (a, b) :: r, p, q, h => by
    simp only [lookN, beqN_if] at h
    split at h
    · rename_i e; cases h; subst e; exact List.mem_cons_self ..
    · exact List.mem_cons_of_mem _ (lookN_mem h)
  | [], _, _, h => by cases h
theorem lookN_of : ∀ {T : List (Nat × Nat)} {p q : Nat}, (T.map (·.1)).Nodup → (p, q) ∈ T → lookN T p = some q
  | (a, b) :: r, p, q, hn, h => by
    simp only [List.map_cons, List.nodup_cons] at hn
    simp only [lookN, beqN_if]
    rcases List.mem_cons.1 h with h | h
    · cases h; rw [if_pos rfl]
    · rw [if_neg (fun e => hn.1 (by rw [← e]; exact List.mem_map.2 ⟨(p, q), h, rfl⟩))]
      exact lookN_of hn.2 h
  | [], _, _, _, h => by cases h
theorem swapN_map : ∀ T : List (Nat × Nat), swapN T = T.map fun q => (q.2, q.1)
  | [] => rfl
  | (a, b) :: r => by simp only [swapN, List.map_cons, swapN_map r]

structure TabOK (T : List (Nat × Nat)) (v : Nat) : Prop where
  l : (T.map (·.1)).Nodup
  r : (T.map (·.2)).Nodup
  v : v ∉ T.map (·.2)

section
variable {T : List (Nat × Nat)} {v : Nat} (H : TabOK T v)
include H
theorem tab_src {p q : Nat} (h : lookN (swapN T) q = some p) : (p, q) ∈ T ∧ renN T v p = q := by
  have h1 := lookN_mem h
  rw [swapN_map] at h1
  obtain ⟨⟨a, b⟩, h2, h3⟩ := List.mem_map.1 h1
  cases h3
  exact ⟨h2, by unfold renN; rw [lookN_of H.l h2]⟩
theorem tab_back {p p' : Nat} (h : lookN (swapN T) (renN T v p) = some p') : p' = p := by
  obtain ⟨h1, _⟩ := tab_src H h
  have h0 : ∀ q, lookN T p = some q → renN T v p = q := fun q hq => by unfold renN; rw [hq]
  cases hp : lookN T p with
  | none =>
    have : renN T v p = v := by unfold renN; rw [hp]
    rw [this] at h1
    exact absurd (List.mem_map.2 ⟨_, h1, rfl⟩) H.v
  | some q =>
    rw [h0 q hp] at h1
    have h2 := lookN_mem hp
    obtain ⟨i, hi, e1⟩ := List.getElem_of_mem h1
    obtain ⟨j, hj, e2⟩ := List.getElem_of_mem h2
    have : i = j := by
      refine (List.getElem_inj (xs := T.map (·.2)) (h₀ := by simpa using hi) (h₁ := by simpa using hj) H.r).1 ?_
      simp [e1, e2]
    subst this
    rw [e1] at e2
    cases e2; rfl
theorem ren_get {h : Nat → Option Ob} {β : Nat → Option Nat} {p : Nat} {ob' : Ob} (h1 : renH T v h (renN T v p) = some ob') : ∃ ob, h p = some ob ∧ ob' = ob.ren (renN T v) ∧ renB T β (renN T v p) = β p := by
  unfold renH at h1
  split at h1 <;> try (cases h1; done)
  rename_i p' hp
  have := tab_back H hp
  subst this
  cases hh : h p' with
  | none => simp [hh] at h1
  | some ob => simp [hh] at h1; exact ⟨ob, rfl, h1.symm, by unfold renB; rw [hp]⟩
theorem ren_src {h : Nat → Option Ob} {β : Nat → Option Nat} {q : Nat} {ob' : Ob} (h1 : renH T v h q = some ob') : ∃ p ob, q = renN T v p ∧ h p = some ob ∧ ob' = ob.ren (renN T v) ∧ renB T β q = β p := by
  unfold renH at h1
  split at h1 <;> try (cases h1; done)
  rename_i p hp
  cases hh : h p with
  | none => simp [hh] at h1
  | some ob => simp [hh] at h1; exact ⟨p, ob, (tab_src H hp).2.symm, hh, h1.symm, by unfold renB; rw [hp]⟩

variable {E : Env}
theorem M_ren {b : Nat} (h : (E.ren T v).M b) : E.M b := by
  obtain ⟨q, ob', h1, h2⟩ := h
  obtain ⟨p, ob, _, h3, _, h4⟩ := ren_src H (β := E.β) h1
  exact ⟨p, ob, h3, by rw [← h4]; exact h2⟩
omit H in
theorem relP_ren {w : World} {A : Nat → Prop} {ρ : Nat → Nat} {x : V} {u : Value} (h : RelP w A x u) : x.ren ρ = x := by cases h <;> simp only [V.ren]
theorem Rel1.ren {x : V} {u : Value} (h : Rel1 E x u) : Rel1 (E.ren T v) (x.ren (renN T v)) u := by
  cases x with
  | rd rows =>
    simp only [V.ren]
    exact SlAt.frame (w' := E.w) (fun _ _ _ => rfl) (fun _ _ _ => rfl) (Nat.le_refl _) (fun _ _ h => h) (fun b _ hb => M_ren H hb) h
  | ref o n =>
    simp only [V.ren]
    intro ob' ho'
    obtain ⟨ob, h1, rfl, h3⟩ := ren_get H (β := E.β) ho'
    obtain ⟨r1, r2⟩ := h ob h1
    refine ⟨by simpa [Ob.ren] using r1, fun hn => ?_⟩
    have r3 := r2 (by simpa [Ob.ren] using hn)
    show match renB T E.β (renN T v o) with | none => _ | some b => _
    rw [h3]
    exact r3
  | ptr o n i j =>
    simp only [V.ren]
    intro ob' ho'
    obtain ⟨ob, h1, rfl, h3⟩ := ren_get H (β := E.β) ho'
    obtain ⟨r1, r2⟩ := h ob h1
    refine ⟨by simpa [Ob.ren] using r1, fun hn => ?_⟩
    obtain ⟨b, hb, hv⟩ := r2 (by simpa [Ob.ren] using hn)
    exact ⟨b, h3.trans hb, hv⟩
  | cp row j =>
    simp only [V.ren]
    obtain ⟨b, off, f, hv, hb, hM, hc, hr⟩ := h
    refine ⟨b, off, f, hv, hb, fun hM' => hM (M_ren H hM'), fun k x hx => ?_, fun k x hx => ?_⟩
    · obtain ⟨y, hy, _⟩ := rens_get _ _ _ _ hx
      exact hc k y hy
    · obtain ⟨y, hy, rfl⟩ := rens_get _ _ _ _ hx
      rw [relP_ren (hr k y hy)]
      exact hr k y hy
  | dead => simp only [V.ren]; trivial
  | agg cs => cases h
  | aggi cs => cases h
  | tup vs => cases h
  | fn f cs => cases h
  | int k n => simp only [V.ren]; exact h
  | bool b => simp only [V.ren]; exact h
  | str s => simp only [V.ren]; exact h
  | nil => simp only [V.ren]; exact h
  | sl rows => simp only [V.ren]; exact h
  | raw u => simp only [V.ren]; exact h
theorem RelA.ren {x : V} {u : Value} (h : RelA E x u) : RelA (E.ren T v) (x.ren (renN T v)) u := by
  cases x with
  | agg cs =>
    simp only [V.ren]
    obtain ⟨vs, hv, hs, hc⟩ := h
    refine ⟨vs, hv, by rw [rens_len]; exact hs, fun i x hx => ?_⟩
    obtain ⟨y, hy, rfl⟩ := rens_get _ _ _ _ hx
    obtain ⟨q, q1, q2⟩ := hc i y hy
    exact ⟨q, q1, by rw [relP_ren q2]; exact q2⟩
  | aggi cs =>
    simp only [V.ren]
    obtain ⟨vs, hv, hs, hc⟩ := h
    refine ⟨vs, hv, by rw [rens_len]; exact hs, fun i x hx => ?_⟩
    obtain ⟨y, hy, rfl⟩ := rens_get _ _ _ _ hx
    obtain ⟨q, q1, q2, q3⟩ := hc i y hy
    exact ⟨q, q1, q2, q3.ren H⟩
  | tup vs => cases (show Rel1 E (.tup vs) u from h)
  | fn f cs => cases (show Rel1 E (.fn f cs) u from h)
  | ref o n => have h2 := Rel1.ren H (show Rel1 E (.ref o n) u from h); simp only [V.ren] at h2 ⊢; exact h2
  | ptr o n i j => have h2 := Rel1.ren H (show Rel1 E (.ptr o n i j) u from h); simp only [V.ren] at h2 ⊢; exact h2
  | rd rows => have h2 := Rel1.ren H (show Rel1 E (.rd rows) u from h); simp only [V.ren] at h2 ⊢; exact h2
  | cp row j => have h2 := Rel1.ren H (show Rel1 E (.cp row j) u from h); simp only [V.ren] at h2 ⊢; exact h2
  | dead => simp only [V.ren]; trivial
  | int k n => simp only [V.ren]; exact h
  | bool b => simp only [V.ren]; exact h
  | str s => simp only [V.ren]; exact h
  | nil => simp only [V.ren]; exact h
  | sl rows => simp only [V.ren]; exact h
  | raw u => simp only [V.ren]; exact h
theorem Rel.ren {x : V} {u : Value} (h : Rel E x u) : Rel (E.ren T v) (x.ren (renN T v)) u := by
  cases x with
  | tup vs =>
    simp only [V.ren]
    obtain ⟨us, hv, hs, hc⟩ := h
    refine ⟨us, hv, by rw [rens_len]; exact hs, fun i x hx => ?_⟩
    obtain ⟨y, hy, rfl⟩ := rens_get _ _ _ _ hx
    obtain ⟨q, q1, q2⟩ := hc i y hy
    exact ⟨q, q1, q2.ren H⟩
  | fn f cs =>
    simp only [V.ren]
    obtain ⟨us, hv, hs, hc⟩ := h
    refine ⟨us, hv, by rw [rens_len]; exact hs, fun i x hx => ?_⟩
    obtain ⟨y, hy, rfl⟩ := rens_get _ _ _ _ hx
    obtain ⟨q, q1, q2⟩ := hc i y hy
    exact ⟨q, q1, q2.ren H⟩
  | agg cs => have h2 := RelA.ren H (show RelA E (.agg cs) u from h); simp only [V.ren] at h2 ⊢; exact h2
  | aggi cs => have h2 := RelA.ren H (show RelA E (.aggi cs) u from h); simp only [V.ren] at h2 ⊢; exact h2
  | ref o n => have h2 := RelA.ren H (show RelA E (.ref o n) u from h); simp only [V.ren] at h2 ⊢; exact h2
  | ptr o n i j => have h2 := RelA.ren H (show RelA E (.ptr o n i j) u from h); simp only [V.ren] at h2 ⊢; exact h2
  | rd rows => have h2 := RelA.ren H (show RelA E (.rd rows) u from h); simp only [V.ren] at h2 ⊢; exact h2
  | cp row j => have h2 := RelA.ren H (show RelA E (.cp row j) u from h); simp only [V.ren] at h2 ⊢; exact h2
  | dead => simp only [V.ren]; trivial
  | int k n => simp only [V.ren]; exact h
  | bool b => simp only [V.ren]; exact h
  | str s => simp only [V.ren]; exact h
  | nil => simp only [V.ren]; exact h
  | sl rows => simp only [V.ren]; exact h
  | raw u => simp only [V.ren]; exact h

theorem ObsOK.ren (O : ObsOK E) : ObsOK (E.ren T v) := by
  refine ⟨fun q ob' hq => ?_, fun q q' ob1 ob2 b h1 h2 h3 h4 => ?_, fun b hb => O.lt b hb⟩
  · obtain ⟨p, ob, rfl, h1, rfl, h2⟩ := ren_src H (β := E.β) hq
    have hok := O.ok p ob h1
    show ObOK (E.ren T v) (ob.ren (renN T v)) (renB T E.β (renN T v p))
    rw [h2]
    cases hb : E.β p with
    | none =>
      rw [hb] at hok
      have h0 : ob.rows = [] := hok
      show (ob.ren (renN T v)).rows = []
      simp [Ob.ren, h0]
    | some b =>
      rw [hb] at hok
      obtain ⟨hA, cur, c1, c2, c3, c4⟩ := hok
      refine ⟨hA, cur, c1, fun row hrow => ?_, by simpa [Ob.ren] using c3, fun i row hi j x hx => ?_⟩
      · simp only [Ob.ren, List.mem_map] at hrow
        obtain ⟨r, hr, rfl⟩ := hrow
        rw [rens_len]; exact c2 r hr
      · simp only [Ob.ren, List.getElem?_map] at hi
        cases hri : ob.rows[i]? with
        | none => simp [hri] at hi
        | some r =>
          simp [hri] at hi
          subst hi
          obtain ⟨y, hy, rfl⟩ := rens_get _ _ _ _ hx
          obtain ⟨u, d1, d2, d3, d4⟩ := c4 i r hri j y hy
          exact ⟨u, d1, d2, d3.ren H, fun himp => by rw [relP_ren (d4 himp)]; exact d4 himp⟩
  · obtain ⟨p, o1, rfl, e1, _, e2⟩ := ren_src H (β := E.β) h1
    obtain ⟨p', o2, rfl, e3, _, e4⟩ := ren_src H (β := E.β) h2
    have := O.inj p p' o1 o2 b e1 e3 (e2.symm.trans h3) (e4.symm.trans h4)
    rw [this]
end

/-! ### A frame entered, and left -/
def ImpI (I : Imp) (a : Act) : Imp := ⟨I.P, fun _ => False, noB, fun _ => 0, fun i => slotV I.sv a i⟩
theorem ImpI_sv (I : Imp) (a : Act) : (ImpI I a).sv = fun i => slotV I.sv a i := rfl
def enterS (T : List (Nat × Nat)) (v : Nat) (s : St) (args : List V) : St :=
  ⟨fun i => if i < 100000 then (match args[i]? with | some x => x.ren (renN T v) | none => .tup []) else (s.t (i - 100000)).ren (renN T v), renH T v s.h⟩
section
variable {w0 w : World} {I : Imp} {A0 A : Nat → Prop} {n : Nat} {s : St} {a : Act} {β : Nat → Option Nat} {T : List (Nat × Nat)} {v : Nat}

theorem RB.enter (R : RB w0 I A0 n s a w β A) (H : TabOK T v) {n' : Nat} {args : List V} {vs : Array Value} (h5 : n' ≤ 100000) (hn : args.length ≤ n') (hvs : vs.size = args.length)
    (hrel : ∀ (i : Nat) (x : V), args[i]? = some x → ∃ u, vs[i]? = some u ∧ Rel ⟨w, A, s.h, β⟩ x u) :
    RB w0 (ImpI I a) A0 n' (enterS T v s args) { tmps := vs ++ Array.replicate (n' - vs.size) undef, defers := [] } w (renB T β) A := by
  have hsz : (vs ++ Array.replicate (n' - vs.size) undef).size = n' := by simp; omega
  refine ⟨rfl, hsz, fun i => ?_, ObsOK.ren H (E := ⟨w, A, s.h, β⟩) R.obs, R.a0, R.ev, fun q ob' b hq hb => ?_, fun o hq => hq.elim, fun o ob hq => hq.elim⟩
  · by_cases hi : i < 100000
    · rw [slotV_lt (.inl hi)]
      simp only [enterS, if_pos hi]
      cases ha : args[i]? with
      | some x =>
        obtain ⟨u, h1, h2⟩ := hrel i x ha
        have hlt : i < vs.size := by rw [hvs]; exact (List.getElem?_eq_some_iff.1 ha).1
        rw [Array.getD_eq_getD_getElem?, Array.getElem?_append_left hlt, h1]
        exact Rel.ren H h2
      | none =>
        have hge : vs.size ≤ i := by rw [hvs]; simpa using ha
        rw [Array.getD_eq_getD_getElem?, Array.getElem?_append_right hge]
        have : ((Array.replicate (n' - vs.size) undef)[i - vs.size]?).getD undef = undef := by
          cases hq : (Array.replicate (n' - vs.size) undef)[i - vs.size]? with
          | none => rfl
          | some q =>
            have := Array.getElem?_replicate (n := n' - vs.size) (v := undef) (i := i - vs.size)
            rw [hq] at this
            split at this <;> simp at this
            subst this; rfl
        rw [this]
        exact rel_undef
    · have e : slotV (ImpI I a).sv { tmps := vs ++ Array.replicate (n' - vs.size) undef, defers := [] } i = slotV I.sv a (i - 100000) := by
        rw [slotV_ge (by omega) (by simp only [hsz]; omega), ImpI_sv]
      rw [e]
      simp only [enterS, if_neg hi]
      exact Rel.ren H (R.slots (i - 100000))
  · obtain ⟨p, ob, _, h1, _, h2⟩ := ren_src H (β := β) hq
    exact R.own p ob b h1 (h2.symm.trans hb)

end
end Go.AL
