/-
  Plain laws of capability spaces. No program in sight but for the models' names. By an AI agent.
-/
import Derived.Test.YtjlcdgjcbienbaaG7
namespace Go.AL
set_option linter.unusedVariables false
set_option linter.unusedSimpArgs false
structure Gs (v : List SSl) : Prop where
  ok : ∀ s ∈ v, vsloB s = true
  uq : ∀ (i j : Nat) (a b : SSl), v[i]? = some a → v[j]? = some b → empB a = false → sid a = sid b → i = j
/-! ### What is made -/
theorem sid_snd {a b : SSl} (h : snd a = snd b) : sid a = sid b := congrArg nid h
theorem emp_snd {a b : SSl} (h : snd a = snd b) : empB a = empB b := by simp only [empB, sid_snd h]
structure Made (steps : List SSt) (locks ops : List Int) (j : Nat) (s : SSl) : Prop where
  src : (empB s = true ∧ snd s = zNdl) ∨ (empB s = false ∧ ∃ e ∈ forest steps, e.1 = 0 ∧ e.2.1 = (j : Int) ∧ snd s = e.2.2)
  op : 0 ≤ sop s ∧ sop s ≤ 3 ∧ (ops = [] → sop s = 0)
  lk : slk s = (0, 0, 0) ∨ (empB s = false ∧ locks ≠ [] ∧ ∃ c, 0 ≤ c ∧ c < 3 ∧ slk s = (c, 50, 0))
theorem Gs.change {v m : List SSl} (h : Gs v) (hm : ∀ (j : Nat) (s' : SSl), m[j]? = some s' → ∃ s, v[j]? = some s ∧ snd s' = snd s ∧ vsloB s' = true) : Gs m := by
  refine ⟨fun s hs => ?_, fun i j a b ha hb hea hid => ?_⟩
  · obtain ⟨j, hj⟩ := List.getElem?_of_mem hs
    obtain ⟨_, _, _, h3⟩ := hm j s hj
    exact h3
  · obtain ⟨a', a1, a2, _⟩ := hm i a ha
    obtain ⟨b', b1, b2, _⟩ := hm j b hb
    exact h.uq i j a' b' a1 b1 (by rw [← emp_snd a2]; exact hea) (by rw [← sid_snd a2, ← sid_snd b2]; exact hid)
theorem getD_some {l : List SSl} {i : Nat} {s : SSl} (h : l[i]? = some s) : l.getD i zSl = s := by rw [List.getD_eq_getElem?_getD, h]; rfl
end Go.AL
