/-
  THE EXECUTOR: slices that a library's function sorts in place: its contract with a lent slice, from the shelf's. By an AI agent.
-/
import Derived.Test.YtcpdakiailaneaaAxKit
namespace Go.AL
set_option linter.unusedVariables false
set_option linter.unusedSimpArgs false
set_option linter.unusedSectionVars false

theorem postL_io {w : World} {A : Nat → Prop} {β0 : Nat → Option Nat} {ob : Ob} (H : ObsOK ⟨w, A, lentH [ob], β0⟩) (himp : ob.imp = false) {rows' : List (List V)} {w' : World} (hr : rows'.length = ob.rows.length) (hes : ∀ row ∈ rows', row.length = ob.es)
    {b : Nat} {cur cur' : Array Value} (hb : β0 500 = some b) (hc : w.heap[b]? = some (.cells cur ob.ty (0, 0))) (hc' : w'.heap[b]? = some (.cells cur' ob.ty (0, 0))) (hsz : cur'.size = cur.size)
    (hcells : ∀ (i : Nat) (row : List V), rows'[i]? = some row → ∀ (j : Nat) (x : V), row[j]? = some x → ∃ v, cur'[i * ob.es + j]? = some v ∧ v.oneCell' = true ∧ RelP w A x v) (hev : Ev w w' (fun k => k = b)) :
    PostL w A [ob] β0 [] [some rows'] w' [] β0 A := by
  have h500 : lentH [ob] 500 = some ob := by simp [lentH]
  have hok := H.ok 500 ob h500
  simp only [hb] at hok
  obtain ⟨hA, cur0, c1, c2, c3, c4⟩ := hok
  simp only at c1
  have hp : ∀ p o, postH [ob] [] [some rows'] p = some o → p = 500 ∧ o = { ob with rows := rows' } := fun p o h => by
    unfold postH at h
    split at h
    · unfold outO at h
      by_cases hp : p - 500 = 0
      · rw [hp] at h
        simp at h
        exact ⟨by omega, h.symm⟩
      · obtain ⟨m, hm⟩ : ∃ m, p - 500 = m + 1 := ⟨p - 500 - 1, by omega⟩
        rw [hm] at h
        simp at h
    · simp [rdH] at h
  have hag : Agree A w w' := fun k hk hA' => hev.block k hk (fun e => hA' (by rw [e]; exact hA))
  refine ⟨rfl, by simp, ⟨fun p o h => ?_, fun p q o1 o2 b' h1 h2 _ _ => ?_, fun k hk => Nat.lt_of_lt_of_le (H.lt k hk) hev.size⟩, fun k rd h => by simp at h, fun _ _ h => h, ?_, fun k o b' h => by simp [rdH] at h, fun i o o' h1 h2 => ?_⟩
  · obtain ⟨rfl, rfl⟩ := hp p o h
    simp only [hb]
    refine ⟨hA, cur', hc', hes, ?_, fun i row hi j x hx => ?_⟩
    · have : cur0 = cur := by rw [hc] at c1; cases c1; rfl
      subst this
      rw [hsz, hr]; exact c3
    · obtain ⟨v, d1, d2, d3⟩ := hcells i row hi j x hx
      have d4 : RelP w' A x v := d3.frame hag hev.size (fun _ _ h => h)
      exact ⟨v, d1, d2, Rel1.of_relP d4, fun _ => d4⟩
  · rw [(hp p o1 h1).1, (hp q o2 h2).1]
  · exact ⟨hev.os, hev.tape, hev.output, hev.size, fun k hk hn => hev.block k hk (fun e => hn ⟨0, ob, rfl, by rw [e]; exact hb⟩)⟩
  · cases i with
    | zero =>
      simp at h1
      subst h1
      have : o' = { ob with rows := rows' } := by
        unfold outO at h2; simp at h2; exact h2.symm
      subst this
      refine ⟨hr, rfl, fun b' cur1 e1 e2 => ?_⟩
      rw [show 500 + 0 = 500 from rfl, hb] at e1
      cases e1
      rw [hc] at e2
      cases e2
      exact ⟨cur', hc', hsz⟩
    | succ i => simp at h1
theorem postL_nil {w : World} {A : Nat → Prop} {β0 : Nat → Option Nat} {ob : Ob} (H : ObsOK ⟨w, A, lentH [ob], β0⟩) (hb : β0 500 = none) {w' : World} (hev : Ev w w' noI.P) :
    PostL w A [ob] β0 [] [some []] w' [] β0 A := by
  have h500 : lentH [ob] 500 = some ob := by simp [lentH]
  have hok := H.ok 500 ob h500
  simp only [hb] at hok
  have h0 : ob.rows = [] := hok
  have hp : ∀ p o, postH [ob] [] [some []] p = some o → p = 500 ∧ o = { ob with rows := [] } := fun p o h => by
    unfold postH at h
    split at h
    · unfold outO at h
      by_cases hp : p - 500 = 0
      · rw [hp] at h
        simp at h
        exact ⟨by omega, h.symm⟩
      · obtain ⟨m, hm⟩ : ∃ m, p - 500 = m + 1 := ⟨p - 500 - 1, by omega⟩
        rw [hm] at h
        simp at h
    · simp [rdH] at h
  refine ⟨rfl, by simp, ⟨fun p o h => ?_, fun p q o1 o2 b' h1 h2 _ _ => ?_, fun k hk => Nat.lt_of_lt_of_le (H.lt k hk) hev.size⟩, fun k rd h => by simp at h, fun _ _ h => h, ?_, fun k o b' h => by simp [rdH] at h, fun i o o' h1 h2 => ?_⟩
  · obtain ⟨rfl, rfl⟩ := hp p o h
    simp only [hb]; exact rfl
  · rw [(hp p o1 h1).1, (hp q o2 h2).1]
  · exact ⟨hev.os, hev.tape, hev.output, hev.size, fun k hk hn => hev.block k hk (fun e => e)⟩
  · cases i with
    | zero =>
      simp at h1
      subst h1
      have : o' = { ob with rows := [] } := by
        unfold outO at h2; simp at h2; exact h2.symm
      subst this
      refine ⟨by rw [h0], rfl, fun b' cur1 e1 e2 => ?_⟩
      rw [show 500 + 0 = 500 from rfl, hb] at e1
      cases e1
    | succ i => simp at h1
end Go.AL
