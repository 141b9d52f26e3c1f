/-
  THE ABSTRACT LAYER, FOURTH PART: the operations that leave the world alone. By an AI agent.
-/
import Derived.Test.YtbhnmholmpdmeaaGreatAlSound
namespace Go.AL
set_option linter.unusedVariables false
set_option linter.unusedSimpArgs false
set_option linter.unusedSectionVars false
section
variable {P : Program} {E : Env}

theorem run_sliceAt {t e : TypeId} (ht : elemT P t = some e) {n : Nat} (hn : szOf P e = n) (hpos : 0 < n) (a : Option Addr) (len cap l h : Nat) (lo hi : Option Value)
    (hlo : (lo = none ∧ l = 0) ∨ ∃ k, lo = some (.int k l)) (hhi : (hi = none ∧ h = len) ∨ ∃ k, hi = some (.int k h)) (hl : l ≤ h) (hh : h ≤ cap) (w : World) :
    (Instr.sliceAt t (.slice a len cap) lo hi none).run P w = .ok (.slice (if cap = l then a else a.map (·.add (l * n))) (h - l) (cap - l)) w := by
  have hu := elemT_some ht
  obtain ⟨ti, hti, hsz⟩ := szOf_eq hn hpos
  have e1 : (Instr.sliceAt t (.slice a len cap) lo hi none).run P w = (Instr.slice t (.slice a len cap) lo hi none).run P w := by
    simp only [Instr.sliceAt, Sem.run_bind, run_underlying hu, Result.andThen_ok]
  rw [e1]
  have hb : (Instr.sliceBounds true len cap lo hi none).run P w = .ok (l, h, cap) w := by
    rcases hlo with ⟨rfl, rfl⟩ | ⟨k, rfl⟩ <;> rcases hhi with ⟨rfl, rfl⟩ | ⟨k', rfl⟩
    · simp [Instr.sliceBounds]
    · simp [Instr.sliceBounds, Instr.sliceBound, asIntOf, hh]
    · simp [Instr.sliceBounds, Instr.sliceBound, asIntOf, hl]
    · simp [Instr.sliceBounds, Instr.sliceBound, asIntOf, hl, hh]
  simp only [Instr.slice, Sem.run_bind, run_underlying hu, Result.andThen_ok, hb, sizeOf, typeInfo]
  simp [hti, hsz]

theorem SlAt.cut {w : World} {A X : Nat → Prop} {rows : List (List V)} {n : Nat} {v : Value} (hv : SlAt w A X rows v) (l h : Nat) (hl : l ≤ h) (hh : h ≤ rows.length) (hes : l = 0 ∨ ∀ r ∈ rows, r.length = n)
    {P : Program} {t e : TypeId} (ht : elemT P t = some e) (hn : szOf P e = n) (hpos : 0 < n) (lo hi : Option Value)
    (hlo : (lo = none ∧ l = 0) ∨ ∃ k, lo = some (.int k l)) (hhi : (hi = none ∧ h = rows.length) ∨ ∃ k, hi = some (.int k h)) (w' : World) :
    ∃ u, (Instr.sliceAt t v lo hi none).run P w' = .ok u w' ∧ SlAt w A X ((rows.take h).drop l) u := by
  rcases hv with ⟨⟨a, rfl⟩, rfl⟩ | ⟨b, off, cap, es, f, rfl, hcap, hb, hes', hc, hr⟩
  · have h0 : h = 0 := by simpa using hh
    subst h0
    have l0 : l = 0 := by omega
    subst l0
    refine ⟨_, run_sliceAt ht hn hpos a 0 0 0 0 lo hi hlo (by simpa using hhi) (Nat.le_refl _) (Nat.le_refl _) w', .inl ⟨⟨a, by simp⟩, by simp⟩⟩
  · refine ⟨_, run_sliceAt ht hn hpos (some ⟨b, off, none⟩) rows.length cap l h lo hi hlo hhi hl (by omega) w', ?_⟩
    have hlen : ((rows.take h).drop l).length = h - l := by simp; omega
    have mem : ∀ (i : Nat) (row : List V), ((rows.take h).drop l)[i]? = some row → rows[l + i]? = some row := by
      intro i row hi
      rw [List.getElem?_drop, List.getElem?_take] at hi
      split at hi
      · exact hi
      · cases hi
    by_cases hcl : cap = l
    · rw [if_pos hcl]
      have he : (rows.take h).drop l = [] := List.eq_nil_of_length_eq_zero (by omega)
      rw [he]
      refine .inr ⟨b, off, cap - l, es, f, by simp; omega, by simp, fun h => absurd rfl h, by simp, fun i row hi => by simp at hi, fun i row hi => by simp at hi⟩
    · rw [if_neg hcl]
      refine .inr ⟨b, off + l * n, cap - l, es, fun i j => f (l + i) j, ?_, by rw [hlen]; omega, ?_, ?_, ?_, ?_⟩
      · simp [hlen, Addr.add_mid]
      · intro hne
        refine hb (fun e => hne ?_)
        rw [e]; simp
      · intro row hrow
        exact hes' row (List.mem_of_mem_take (List.mem_of_mem_drop hrow))
      · intro i row hi j x hx
        have h1 := mem i row hi
        have := hc (l + i) row h1 j x hx
        have hee : l * n = l * es := by
          rcases hes with rfl | hes
          · simp
          · have r1 := hes row (List.mem_of_getElem? h1)
            have r2 := hes' row (List.mem_of_getElem? h1)
            rw [← r1, ← r2]
        rw [← this]
        congr 2
        rw [hee, Nat.add_mul]
        omega
      · intro i row hi j x hx
        exact hr (l + i) row (mem i row hi) j x hx

theorem zeroCs_some {t : TypeId} {z : List V} (h : zeroCs P t = some z) : ∃ i v, P.info? t = some i ∧ i.zero = some v ∧ v.cells.size = szOf P t ∧ ∀ (E : Env), Cells E false z v.cells.toList := by
  unfold zeroCs at h
  cases hi : P.info? t with
  | none => simp [hi] at h
  | some i =>
    cases hz : i.zero with
    | none => simp [hi, hz] at h
    | some v =>
      simp only [hi, hz, Option.bind_some] at h
      split at h <;> try (cases h; done)
      rename_i hc
      simp only [Bool.and_eq_true, beq_iff_eq] at hc
      cases h
      refine ⟨i, v, rfl, hz, hc.2, fun E => ⟨by simp, fun n x hx => ?_⟩⟩
      rw [List.getElem?_map] at hx
      cases hn : v.cells.toList[n]? with
      | none => simp [hn] at hx
      | some u =>
        simp [hn] at hx
        subst hx
        have h1 := List.all_eq_true.1 hc.1 u (List.mem_of_getElem? hn)
        exact ⟨u, rfl, h1, Rel1.of_relP (relP_ofCell u h1), fun _ => relP_ofCell u h1⟩

theorem Cells.weaken {E : Env} {b : Bool} {cs : List V} {vs : List Value} (b' : Bool) (hb : b' = false → b = false) (h : Cells E b cs vs) : Cells E b' cs vs :=
  ⟨h.1, fun i x hx => let ⟨u, h1, h2, h3, h4⟩ := h.2 i x hx; ⟨u, h1, h2, h3, fun hh => h4 (hb hh)⟩⟩

theorem RelA.rel {x : V} {u : Value} (h : RelA E x u) : Rel E x u := by
  cases x <;> first | exact h | (cases h; done)

end
end Go.AL
