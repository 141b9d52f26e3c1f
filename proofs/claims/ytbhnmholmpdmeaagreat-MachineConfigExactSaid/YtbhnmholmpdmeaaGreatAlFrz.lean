/-
  THE ABSTRACT LAYER: a new slice that nobody will write any more becomes a pure one. By an AI agent.
-/
import Derived.Test.YtbhnmholmpdmeaaGreatAlStep
namespace Go.AL
set_option linter.unusedVariables false
set_option linter.unusedSimpArgs false

def dropH (h : Nat → Option Ob) (o : Nat) : Nat → Option Ob := fun p => if p = o then none else (h p).map (Ob.kill (· == o))

theorem RB.frzS {w0 : World} {I : Imp} {A0 : Nat → Prop} {n : Nat} {s : St} {a : Act} {w : World} {β : Nat → Option Nat} {A : Nat → Prop} (R : RB w0 I A0 n s a w β A)
    {o : Nat} {ob : Ob} (hI : ∀ b, β o = some b → w0.heap.size ≤ b) (ho : s.h o = some ob) (himp : ob.imp = false) (t' : Nat → V)
    (ht : ∀ i, t' i = (s.t i).kill (· == o) ∨ (s.t i = .ref o ob.rows.length ∧ t' i = .sl ob.rows)) :
    RB w0 I A0 n ⟨t', dropH s.h o⟩ a w β (fun b => A b ∧ β o ≠ some b) := by
  have hd : ∀ p ob', dropH s.h o p = some ob' → p ≠ o ∧ ∃ ob0, s.h p = some ob0 ∧ ob' = ob0.kill (· == o) := fun p ob' hp => by
    unfold dropH at hp
    split at hp
    · cases hp
    · rename_i hne
      obtain ⟨ob0, h1, h2⟩ := Option.map_eq_some_iff.1 hp
      exact ⟨hne, ob0, h1, h2.symm⟩
  have S : Step ⟨w, A, s.h, β⟩ ⟨w, fun b => A b ∧ β o ≠ some b, dropH s.h o, β⟩ := ⟨Agree.refl _ _, Nat.le_refl _, fun _ _ h => h.1, fun b _ h => by
    obtain ⟨p, ob', h1, h2⟩ := h
    obtain ⟨_, ob0, h3, _⟩ := hd p ob' h1
    exact ⟨p, ob0, h3, h2⟩⟩
  have hk : ∀ p, (p == o) = false → Keep ⟨w, A, s.h, β⟩ ⟨w, fun b => A b ∧ β o ≠ some b, dropH s.h o, β⟩ p := fun p _ ob' h1 => by
    obtain ⟨_, ob0, h3, rfl⟩ := hd p ob' h1
    exact ⟨ob0, h3, by rw [Ob.kill_len]; exact Nat.le_refl _, fun _ => ⟨rfl, Ob.kill_es _ _, Ob.kill_ty _ _, fun b cur _ hc => ⟨cur, hc, rfl⟩⟩⟩
  have hA : ∀ p ob0 b, s.h p = some ob0 → β p = some b → A b := fun p ob0 b h1 h2 => R.obs.mA ⟨p, ob0, h1, h2⟩
  have hobs : ObsOK ⟨w, fun b => A b ∧ β o ≠ some b, dropH s.h o, β⟩ := by
    refine ⟨fun p ob' h1 => ?_, fun p p' ob1 ob2 b h1 h2 h3 h4 => ?_, fun b h => R.obs.lt b h.1⟩
    · obtain ⟨hne, ob0, h3, rfl⟩ := hd p ob' h1
      exact ObOK.step R.obs S (· == o) hk (fun b hb => ⟨rfl, hA p ob0 b h3 hb, fun e => hne (R.obs.inj p o ob0 ob b h3 ho hb e)⟩) (R.obs.ok p ob0 h3)
    · obtain ⟨_, ob3, h5, _⟩ := hd p ob1 h1
      obtain ⟨_, ob4, h6, _⟩ := hd p' ob2 h2
      exact R.obs.inj p p' ob3 ob4 b h5 h6 h3 h4
  have hv : ∀ k, s.t k = .ref o ob.rows.length → Rel ⟨w, fun b => A b ∧ β o ≠ some b, dropH s.h o, β⟩ (.sl ob.rows) (slotV I.sv a k) := by
    intro k hs
    have h1 := R.slots k
    rw [hs] at h1
    have h1 : RefAt ⟨w, A, s.h, β⟩ ob (β o) ob.rows.length (slotV I.sv a k) := h1 ob ho
    have h2 := h1.2 rfl
    have h3 := R.obs.ok o ob ho
    show RelP w _ (.sl ob.rows) (slotV I.sv a k)
    cases hb : β o with
    | none =>
      simp only [hb] at h2 h3
      have h3 : ob.rows = [] := h3
      rw [h2, h3]
      exact .slnil none
    | some b =>
      simp only [hb] at h2 h3
      obtain ⟨cap, cur, e1, e2, _, e3, _⟩ := h2
      obtain ⟨g1, cur', g2, g3, _, g4⟩ := h3
      rw [e1]
      refine .sl ob.rows b 0 cap ob.es (fun i j => (cur'[i * ob.es + j]?).getD undef) e2 (fun _ => ⟨R.obs.lt b g1, fun h => h.2 rfl⟩) g3 (fun i row hi j x hj => ?_) (fun i row hi j x hj => ?_)
      · obtain ⟨v, c1, _, _, _⟩ := g4 i row hi j x hj
        simp only [World.cell?, g2, Nat.zero_add, c1]
        rfl
      · obtain ⟨v, c1, _, _, c4⟩ := g4 i row hi j x hj
        rw [c1]
        exact (c4 himp).frame (Agree.refl _ _) (Nat.le_refl _) (fun _ _ h => h.1)
  have := R.step w β (fun b => A b ∧ β o ≠ some b) (dropH s.h o) (· == o) S hk hobs
    (fun b h1 h2 => ⟨R.a0 b h1 h2, fun e => by
      have := hI b e
      omega⟩) R.ev (fun p ob' b h1 h2 => by
      obtain ⟨_, ob0, h3, _⟩ := hd p ob' h1
      exact R.own p ob0 b h3 h2)
    (fun p _ hp => by
      have : p = o := by simpa using hp
      unfold dropH; rw [if_pos this])
    none (fun j hj => by cases hj) .dead undef trivial
  refine ⟨this.defers, this.size, fun i => ?_, this.obs, this.a0, this.ev, this.own, this.qn, this.pin⟩
  rcases ht i with h | ⟨h1, h2⟩
  · have := this.slots i
    show Rel _ (t' i) _
    rw [h]; exact this
  · show Rel _ (t' i) _
    rw [h2]; exact hv i h1

theorem dropH_eq (s : St) (o : Nat) : (⟨fun i => (s.t i).kill (· == o), dropH s.h o⟩ : St) = s.kill (· == o) := by
  unfold St.kill dropH
  congr 1
  funext p
  by_cases h : p = o
  · simp [h]
  · simp [h]

def St.newP (s : St) (d : Nat) (ob : Ob) : St := ⟨fun i => if i = d then .sl ob.rows else ((s.new d ob (.ref d ob.rows.length)).t i).kill (· == d), dropH (s.new d ob (.ref d ob.rows.length)).h d⟩

theorem RRf.newP {w0 : World} {I : Imp} {A0 : Nat → Prop} {n : Nat} {s : St} {a : Act} {w : World} {d : Nat} {ob : Ob} (h : RRf w0 I A0 n (s.new d ob (.ref d ob.rows.length)) a w d) (himp : ob.imp = false) : RR w0 I A0 n (s.newP d ob) a w := by
  obtain ⟨β, A, R, hb⟩ := h
  have ho : (s.new d ob (.ref d ob.rows.length)).h d = some ob := by simp [St.new, newH, Ob.kill, himp]
  exact ⟨_, _, R.frzS hb ho himp _ fun i => by
    by_cases hi : i = d
    · subst hi; exact .inr ⟨by simp [St.new], if_pos rfl⟩
    · exact .inl (if_neg hi)⟩
theorem RRf.rr {w0 : World} {I : Imp} {A0 : Nat → Prop} {n : Nat} {s : St} {a : Act} {w : World} {d : Nat} (h : RRf w0 I A0 n s a w d) : RR w0 I A0 n s a w := by
  obtain ⟨β, A, R, _⟩ := h; exact ⟨β, A, R⟩
end Go.AL
