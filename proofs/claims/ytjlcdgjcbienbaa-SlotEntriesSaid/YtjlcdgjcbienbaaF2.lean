/-
  Plain laws of capability spaces. No program in sight but for the models' names. By an AI agent.
-/
import Derived.Test.YtjlcdgjcbienbaaG7
namespace Go.AL
set_option linter.unusedVariables false
set_option linter.unusedSimpArgs false
structure Gs (v : List SSl) : Prop where
  ok : ∀ s ∈ v, vsloB s = true
  uq : ∀ (i j : Nat) (a b : SSl), v[i]? = some a → v[j]? = some b → empB a = false → sid a = sid b → i = j
/-! ### What is made -/
theorem ms_inv {core : Int} {l : List SEn} (hs : ∀ e ∈ l, 0 ≤ e.2.1) : ∀ (r : List SEn) (out : List SSl), (∀ e ∈ r, e ∈ l) → out.length = 12 → (∀ (j : Nat) (s : SSl), out[j]? = some s → s = zSl ∨ ∃ e ∈ l, e.1 = core ∧ e.2.1 = (j : Int) ∧ s = mkS e.2.2 0 (0, 0, 0)) →
    ∀ (j : Nat) (s : SSl), (r.foldl (msStep core) out)[j]? = some s → s = zSl ∨ ∃ e ∈ l, e.1 = core ∧ e.2.1 = (j : Int) ∧ s = mkS e.2.2 0 (0, 0, 0)
  | [], out, hr, hlen, h => h
  | u :: r, out, hr, hlen, h => by
    rw [List.foldl_cons]
    refine ms_inv hs r _ (fun e he => hr e (List.mem_cons_of_mem _ he)) (by rw [msStep_len, hlen]) ?_
    intro j s hj
    simp only [msStep] at hj
    cases c : (decide (u.1 = core) && decide (u.2.1 < 12))
    · rw [c] at hj; exact h j s hj
    · rw [c] at hj
      simp only [cond_true] at hj
      simp only [Bool.and_eq_true, decide_eq_true_eq] at c
      have h0 := hs u (hr u (List.mem_cons_self ..))
      by_cases e : u.2.1.toNat = j
      · subst e
        rw [List.getElem?_set_self (by omega)] at hj
        right
        have hz : sop (out.getD u.2.1.toNat zSl) = 0 ∧ slk (out.getD u.2.1.toNat zSl) = (0, 0, 0) := by
          rw [List.getD_eq_getElem?_getD]
          cases ho : out[u.2.1.toNat]? with
          | none => exact ⟨rfl, rfl⟩
          | some x =>
            rcases h _ x ho with rfl | ⟨e, _, _, _, rfl⟩ <;> exact ⟨rfl, rfl⟩
        rw [hz.1, hz.2] at hj
        exact ⟨u, hr u (List.mem_cons_self ..), c.1, by omega, (Option.some.inj hj).symm⟩
      · rw [List.getElem?_set_ne e] at hj
        exact h j s hj
theorem msS_at (steps : List SSt) (j : Nat) (s : SSl) (h : (msS (forest steps, 0))[j]? = some s) : s = zSl ∨ ∃ e ∈ forest steps, e.1 = 0 ∧ e.2.1 = (j : Int) ∧ s = mkS e.2.2 0 (0, 0, 0) := by
  obtain ⟨h1, h2⟩ := forest_vf steps
  refine ms_inv (fun e he => (h1.cs e he).2.1) (forest steps) (List.replicate 12 zSl) (fun e he => he) rfl (fun j s hj => ?_) j s h
  left
  have := List.mem_of_getElem? hj
  exact (List.mem_replicate.1 this).2
theorem slMap_len (locks ops : List Int) : ∀ (l : List SSl) (i : Nat), (slMap locks ops l i).length = l.length
  | [], i => rfl
  | u :: r, i => by simp [slMap, slMap_len locks ops r]
theorem slMap_get (locks ops : List Int) : ∀ (l : List SSl) (i j : Nat), (slMap locks ops l i)[j]? = (l[j]?).map (slF locks ops (i + j))
  | [], i, j => by simp [slMap]
  | u :: r, i, 0 => by simp [slMap]
  | u :: r, i, j + 1 => by
    simp only [slMap, List.getElem?_cons_succ]
    rw [slMap_get locks ops r (i + 1) j, show i + 1 + j = i + (j + 1) by omega]
theorem slF_snd (locks ops : List Int) (i : Nat) (s : SSl) : snd (slF locks ops i s) = snd s := by
  simp only [slF, slOp, slLock]
  cases decide (atS (ops, (i : Int)) > 0) <;> cases (!empB s && decide (atS (locks, (i : Int)) > 0)) <;> rfl
theorem sid_snd {a b : SSl} (h : snd a = snd b) : sid a = sid b := congrArg nid h
theorem emp_snd {a b : SSl} (h : snd a = snd b) : empB a = empB b := by simp only [empB, sid_snd h]
theorem slF_op (locks ops : List Int) (i : Nat) {s : SSl} (h : sop s = 0) : 0 ≤ sop (slF locks ops i s) ∧ sop (slF locks ops i s) ≤ 3 ∧ (ops = [] → sop (slF locks ops i s) = 0) := by
  have hp := place_range (ops.getD i 0) (s := 3) (by omega)
  simp only [slF, slOp, slLock]
  cases ho : decide (atS (ops, (i : Int)) > 0)
  · simp only [cond_false]
    cases (!empB s && decide (atS (locks, (i : Int)) > 0))
    · exact ⟨by show 0 ≤ sop s; omega, by show sop s ≤ 3; omega, fun _ => h⟩
    · exact ⟨by show 0 ≤ sop s; omega, by show sop s ≤ 3; omega, fun _ => h⟩
  · simp only [cond_true]
    refine ⟨by show 0 ≤ 1 + place (ops.getD i 0, 3); omega, by show 1 + place (ops.getD i 0, 3) ≤ 3; omega, fun e => ?_⟩
    subst e
    have := atS_pos ho; simp at this
theorem slF_lk (locks ops : List Int) (i : Nat) {s : SSl} (h : slk s = (0, 0, 0)) : slk (slF locks ops i s) = (0, 0, 0) ∨ (empB s = false ∧ locks ≠ [] ∧ slk (slF locks ops i s) = (place (locks.getD i 0, 3), 50, 0)) := by
  have e : slk (slF locks ops i s) = slk (slLock locks i s) := by
    simp only [slF, slOp]; cases decide (atS (ops, (i : Int)) > 0) <;> rfl
  rw [e]
  simp only [slLock]
  cases he : empB s
  · cases hl : decide (atS (locks, (i : Int)) > 0)
    · exact .inl h
    · refine .inr ⟨rfl, fun e => ?_, rfl⟩
      subst e
      have := atS_pos hl; simp at this
  · exact .inl h
theorem slotsS_len (a : List SSt × List Int × List Int) : (slotsS a).length = 12 := by
  simp only [slotsS, slMap_len, msS_len]
structure Made (steps : List SSt) (locks ops : List Int) (j : Nat) (s : SSl) : Prop where
  src : (empB s = true ∧ snd s = zNdl) ∨ (empB s = false ∧ ∃ e ∈ forest steps, e.1 = 0 ∧ e.2.1 = (j : Int) ∧ snd s = e.2.2)
  op : 0 ≤ sop s ∧ sop s ≤ 3 ∧ (ops = [] → sop s = 0)
  lk : slk s = (0, 0, 0) ∨ (empB s = false ∧ locks ≠ [] ∧ ∃ c, 0 ≤ c ∧ c < 3 ∧ slk s = (c, 50, 0))
theorem made (steps : List SSt) (locks ops : List Int) (j : Nat) (s : SSl) (h : (slotsS (steps, locks, ops))[j]? = some s) : Made steps locks ops j s := by
  simp only [slotsS] at h
  rw [slMap_get, Nat.zero_add] at h
  cases hm : (msS (forest steps, 0))[j]? with
  | none => rw [hm] at h; cases h
  | some x =>
    rw [hm] at h
    have hx : slF locks ops j x = s := Option.some.inj h
    have hsn := slF_snd locks ops j x
    rw [hx] at hsn
    have hz : sop x = 0 ∧ slk x = (0, 0, 0) := by
      rcases msS_at steps j x hm with rfl | ⟨e, _, _, _, rfl⟩ <;> exact ⟨rfl, rfl⟩
    have ho := slF_op locks ops j hz.1
    have hl := slF_lk locks ops j hz.2
    rw [hx] at ho hl
    refine ⟨?_, ho, ?_⟩
    · rcases msS_at steps j x hm with rfl | ⟨e, he, h1, h2, rfl⟩
      · exact .inl ⟨(emp_snd hsn).trans rfl, hsn⟩
      · right
        have hv := (vnodB_iff _).1 ((forest_vf steps).1.node e he)
        have hvi := (vidB_iff _).1 hv.1
        refine ⟨?_, e, he, h1, h2, hsn⟩
        rw [emp_snd hsn]
        refine decide_eq_false fun h0 => ?_
        have h3 : nid e.2.2 = (0, 0, 0) := h0
        rw [h3] at hvi; simp at hvi
    · rcases hl with hl | ⟨h1, h2, h3⟩
      · exact .inl hl
      · have hp := place_range (locks.getD j 0) (s := 3) (by omega)
        exact .inr ⟨(emp_snd hsn).trans h1, h2, _, hp.1, hp.2, h3⟩
theorem slots_gs (steps : List SSt) (locks ops : List Int) : Gs (slotsS (steps, locks, ops)) := by
  refine ⟨fun s hs => ?_, fun i j a b ha hb hea hid => ?_⟩
  · obtain ⟨j, hj⟩ := List.getElem?_of_mem hs
    obtain ⟨h1, h2, h3⟩ := made steps locks ops j s hj
    simp only [vsloB, Bool.and_eq_true, decide_eq_true_eq]
    refine ⟨h2.1, by omega, ?_⟩
    rcases h1 with ⟨he, hz⟩ | ⟨he, e, hem, _, _, hn⟩
    · rw [he]
      rcases h3 with h3 | ⟨h3, _⟩
      · simp [hz, h3]
      · rw [he] at h3; cases h3
    · rw [he, hn]
      simp only [cond_false, Bool.and_eq_true, (forest_vf steps).1.node e hem, true_and, Bool.or_eq_true, decide_eq_true_eq]
      rcases h3 with h3 | ⟨_, _, c, hc1, hc2, h3⟩
      · exact .inl h3
      · right
        rw [h3]
        exact ⟨(vidB_iff _).2 (by show 0 ≤ c ∧ c < 32 ∧ (1 : Int) ≤ 50 ∧ (50 : Int) ≤ 1073741824 ∧ (0 : Int) ≤ 0 ∧ (0 : Int) < 8; omega), rfl⟩
  · have ma := made steps locks ops i a ha
    have mb := made steps locks ops j b hb
    rcases ma.src with ⟨h, _⟩ | ⟨_, e, he, _, e2, e3⟩
    · rw [hea] at h; cases h
    rcases mb.src with ⟨h, _⟩ | ⟨_, f, hf, _, f2, f3⟩
    · have h0 := emp_sid h
      rw [← hid] at h0
      have : empB a = true := decide_eq_true h0
      rw [hea] at this; cases this
    · have : eid e = eid f := by
        have h1 : sid a = nid e.2.2 := congrArg nid e3
        have h2 : sid b = nid f.2.2 := congrArg nid f3
        exact h1.symm.trans (hid.trans h2)
      have := vf_uniq (forest_vf steps).1 he hf this
      subst this
      omega
theorem slots_ok (a : List SSt × List Int × List Int) : okSl (slotsS a) = true := by
  refine okSl_mk (by rw [slotsS_len]; omega) fun s hs => ?_
  have h := (slots_gs a.1 a.2.1 a.2.2).ok s hs
  simp only [vsloB, Bool.and_eq_true] at h
  have h3 := h.2.2
  cases he : empB s
  · rw [he] at h3
    simp only [cond_false, Bool.and_eq_true] at h3
    exact decide_eq_true (Nat.le_trans (vnodB_len h3.1) (by omega))
  · rw [he] at h3
    simp only [cond_true, Bool.and_eq_true, decide_eq_true_eq] at h3
    have : s.2.2.2.1 = [] := congrArg (fun n : SNd => n.2.2.2.1) h3.1
    rw [this]; rfl
theorem Gs.change {v m : List SSl} (h : Gs v) (hm : ∀ (j : Nat) (s' : SSl), m[j]? = some s' → ∃ s, v[j]? = some s ∧ snd s' = snd s ∧ vsloB s' = true) : Gs m := by
  refine ⟨fun s hs => ?_, fun i j a b ha hb hea hid => ?_⟩
  · obtain ⟨j, hj⟩ := List.getElem?_of_mem hs
    obtain ⟨_, _, _, h3⟩ := hm j s hj
    exact h3
  · obtain ⟨a', a1, a2, _⟩ := hm i a ha
    obtain ⟨b', b1, b2, _⟩ := hm j b hb
    exact h.uq i j a' b' a1 b1 (by rw [← emp_snd a2]; exact hea) (by rw [← sid_snd a2, ← sid_snd b2]; exact hid)
theorem getD_some {l : List SSl} {i : Nat} {s : SSl} (h : l[i]? = some s) : l.getD i zSl = s := by rw [List.getD_eq_getElem?_getD, h]; rfl
end Go.AL
