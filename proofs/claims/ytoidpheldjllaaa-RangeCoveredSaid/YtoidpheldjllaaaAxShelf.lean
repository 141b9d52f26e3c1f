/-
  THE EXECUTOR: slices.SortFunc at structs of scalars: its contract with a lent slice, out of the shelf's. By an AI agent.
-/
import Derived.Test.YtoidpheldjllaaaAxSort
import Derived.Shelf.GgSortFunc.InsertionK
namespace Go.AL
open Go.Sort Go.Proofs
set_option linter.unusedVariables false
set_option linter.unusedSimpArgs false
set_option linter.unusedSectionVars false

/-- How typed rows stand to their cells: rows of scalars. -/
structure EncOK {α : Type} (k : Nat) (R : α → List V → Prop) (enc : α → List Value) (encV : α → List V) : Prop where
  len : ∀ x, (enc x).length = k
  one : ∀ x, ∀ v ∈ enc x, v.oneCell' = true
  to : ∀ x row, R x row → row.length = k ∧ ∀ (w : World) (A : Nat → Prop) (j : Nat) (y : V) (u : Value), row[j]? = some y → RelP w A y u → (enc x)[j]? = some u
  lenV : ∀ x, (encV x).length = k
  back : ∀ x, R x (encV x)
  rel : ∀ (x : α) (w : World) (A : Nat → Prop) (j : Nat) (y : V), (encV x)[j]? = some y → ∃ u, (enc x)[j]? = some u ∧ RelP w A y u

theorem ev_sort {α : Type} [Inhabited α] {enc : α → List Value} {k : Nat} {w : World} {b n : Nat} {d : Array α} {os : Array Obj} (hb : b < w.heap.size) : Ev w (sortWorldK enc k w b 0 n d os) (fun q => q = b) := by
  refine ⟨rfl, rfl, rfl, by simp [sortWorldK, grow, putRowK, putRow, mapBlock], fun q hq hn => ?_⟩
  unfold sortWorldK
  rw [heap_grow_old _ _ (by simpa [putRowK, putRow, mapBlock] using hq)]
  simp only [putRowK, putRow, mapBlock, heap_ahead, Array.getElem?_modify]
  rw [if_neg (fun e => hn e.symm)]

theorem sort_block {α : Type} [Inhabited α] {enc : α → List Value} {k : Nat} {w : World} {b n : Nat} {d : Array α} {os : Array Obj} {cur : Array Value} {ty : TypeId} (hc : w.heap[b]? = some (.cells cur ty (0, 0))) :
    (sortWorldK enc k w b 0 n d os).heap[b]? = some (.cells (putCells id 0 (flatK enc k d) cur) ty (0, 0)) := by
  have hb : b < w.heap.size := (Array.getElem?_eq_some_iff.1 hc).1
  unfold sortWorldK
  rw [heap_grow_old _ _ (by simpa [putRowK, putRow, mapBlock] using hb)]
  simp only [putRowK, putRow, mapBlock, heap_ahead, Array.getElem?_modify, if_true, hc, Option.map_some, onCells]

theorem flat_at {k i j : Nat} (hj : j < k) : (i * k + j) / k = i ∧ (i * k + j) % k = j := by
  have h1 : (i * k + j) / k = i := (blk_iff k i _ (by omega)).1 ⟨by omega, by omega⟩
  exact ⟨h1, by rw [Nat.mod_eq_sub_div_mul, h1]; omega⟩
theorem flat_lt {k i j n : Nat} (hi : i < n) (hj : j < k) : i * k + j < n * k := by
  have := Nat.mul_le_mul_right k (show i + 1 ≤ n from hi)
  rw [Nat.add_mul, Nat.one_mul] at this; omega

/-- The contract of a function that sorts a lent slice by a closure, out of its walk at the world. -/
theorem sortL_ok {P : Program} {f g ty k : Nat} {α : Type} [Inhabited α] {R : α → List V → Prop} {enc : α → List Value} {encV : α → List V} (E : EncOK k R enc encV) (srt : List α → List α) (hlen : ∀ l, (srt l).length = l.length)
    (hsort : ∀ b cap (d : Array α) w, HoldsK enc k w b 0 d → b < w.heap.size → d.size < 4611686018427387904 →
      Calls P f #[.slice (some ⟨b, 0, none⟩) d.size cap, .func (.func g) #[] #[]] w fun e w' => e = .returned (.tuple #[]) ∧ ∃ n os, w' = sortWorldK enc k w b 0 n (srt d.toList).toArray os)
    (hnone : ∀ p cap w, Calls P f #[.slice p 0 cap, .func (.func g) #[] #[]] w fun e w' => e = .returned (.tuple #[]) ∧ w' = w)
    {l : List α} {rows : List (List V)} (hrows : All2 R l rows) (hsmall : l.length < 4611686018427387904) :
    FnL P f [.ref 500 rows.length, .fn g []] [⟨ty, k, false, rows⟩] (fun rds outs => rds = [] ∧ ∃ rows', outs = [some rows'] ∧ All2 R (srt l) rows' ∧ rows'.length = rows.length) := by
  refine ⟨fun rds outs h rd hrd => (by rw [h.1] at hrd; cases hrd), fun w A β0 vs H hsz hrel => ?_⟩
  have hll := hrows.len
  obtain ⟨v0, e0, r0⟩ := hrel 0 _ rfl
  obtain ⟨v1, e1, r1⟩ := hrel 1 _ rfl
  have hvs : vs = #[v0, v1] := by
    apply Array.ext
    · simpa using hsz
    · intro i h1 h2
      simp at h2
      match i, h2 with
      | 0, _ => rw [Array.getElem?_eq_getElem h1] at e0; simpa using e0
      | 1, _ => rw [Array.getElem?_eq_getElem h1] at e1; simpa using e1
  subst hvs
  obtain ⟨us, rfl, hus, _⟩ := r1
  have hus : us = #[] := by simpa using hus
  subst hus
  have h500 : lentH [⟨ty, k, false, rows⟩] 500 = some ⟨ty, k, false, rows⟩ := by simp [lentH]
  have hok := H.ok 500 _ h500
  obtain ⟨_, hr⟩ := r0 _ h500
  have hr := hr rfl
  simp only at hok hr
  have done : ∀ w', w' = w → rows = [] → β0 500 = none → ∃ rds outs us β' A', (rds = [] ∧ ∃ rows', outs = [some rows'] ∧ All2 R (srt l) rows' ∧ rows'.length = rows.length) ∧ Ending.returned (.tuple #[]) = .returned (packV us) ∧ PostL w A [⟨ty, k, false, rows⟩] β0 rds outs w' us β' A' := by
    rintro w' rfl rfl hb
    have hl : l = [] := List.eq_nil_of_length_eq_zero hll
    have hs : srt l = [] := List.eq_nil_of_length_eq_zero (by rw [hlen, hl]; rfl)
    exact ⟨[], [some []], [], β0, A, ⟨rfl, [], rfl, by rw [hs]; trivial, rfl⟩, rfl, postL_nil H hb ⟨rfl, rfl, rfl, Nat.le_refl _, fun _ _ _ => rfl⟩⟩
  cases hb : β0 500 with
  | none =>
    rw [hb] at hok hr
    have h0 : rows = [] := hok
    rw [hr]
    refine (hnone none 0 w).mono ?_
    rintro e w' ⟨rfl, hw⟩
    exact done w' hw h0 hb
  | some b =>
    rw [hb] at hok hr
    obtain ⟨cap, cur0, rfl, hcap, hmax, hh, hcs⟩ := hr
    obtain ⟨hA, cur, hh', hes, hfit, hcells⟩ := hok
    simp only at hh hh' hes hfit hcells hcs
    have hcur : cur0 = cur := by rw [hh'] at hh; simp at hh; exact hh.symm
    subst hcur
    have hb2 : b < w.heap.size := H.lt b hA
    -- the row holds l
    have hcell : ∀ (i : Nat) (x : α), l[i]? = some x → ∀ j, j < k → cur0[i * k + j]? = (enc x)[j]? := by
      intro i x hi j hj
      obtain ⟨row, hrow, hR⟩ := hrows.get i x hi
      obtain ⟨h1, h2⟩ := E.to x row hR
      have hj' : j < row.length := by rw [h1]; exact hj
      obtain ⟨v, c1, c2, _, c4⟩ := hcells i row hrow j _ (List.getElem?_eq_getElem hj')
      rw [c1]
      exact (h2 w A j _ v (List.getElem?_eq_getElem hj') (c4 trivial)).symm
    have hget : ∀ (d : List α) t, t < d.length * k → ∃ x, d[t / k]? = some x ∧ (flatK enc k d.toArray)[t]! = (enc x)[t % k]! ∧ t % k < k ∧ t = t / k * k + t % k := by
      intro d t ht
      have k0 : 0 < k := by rcases Nat.eq_zero_or_pos k with h | h; · subst h; simp at ht
                            · exact h
      have h1 : t / k < d.length := (Nat.div_lt_iff_lt_mul k0).2 ht
      refine ⟨d[t / k], List.getElem?_eq_getElem h1, ?_, Nat.mod_lt _ k0, by have := Nat.div_add_mod t k; rw [Nat.mul_comm] at this; exact this.symm⟩
      rw [get_flatK _ _ _ _ (by simpa using ht)]
      congr 2
      rw [getElem!_pos d.toArray (t / k) (by simpa using h1)]
      simp
    have hH : HoldsK enc k w b 0 l.toArray := by
      intro t ht
      rw [size_flatK] at ht
      have ht' : t < l.length * k := by simpa using ht
      obtain ⟨x, hx, e1, hm, e2⟩ := hget l t ht'
      have hc := hcell _ x hx _ hm
      rw [← e2] at hc
      have hlt : t % k < (enc x).length := by rw [E.len]; exact hm
      refine ⟨?_, by simp [World.frozen?, hh]⟩
      rw [e1]
      simp only [World.cell?, hh, Nat.zero_add]
      rw [hc, List.getElem?_eq_getElem hlt, getElem!_pos (enc x) _ hlt]
      rfl
    have hs := hsort b cap l.toArray w hH hb2 (by simpa using hsmall)
    rw [show l.toArray.size = rows.length by simpa using hll] at hs
    refine hs.mono ?_
    rintro e w' ⟨rfl, n, os, hw⟩
    have hsl : (srt l).length = rows.length := by rw [hlen, hll]
    refine ⟨[], [some ((srt l).map encV)], [], β0, A, ⟨rfl, _, rfl, ?_, by simpa using hsl⟩, rfl, ?_⟩
    · clear hs hw hsl
      generalize srt l = m
      induction m with
      | nil => trivial
      | cons x m ih => exact ⟨E.back x, ih⟩
    · refine postL_io H rfl (by simpa using hsl) (fun row hrow => ?_) hb hh (cur' := putCells id 0 (flatK enc k (srt l).toArray) cur0) ?_ (by simp [putCells]) (fun i row hi j x hx => ?_) (hw ▸ ev_sort hb2)
      · obtain ⟨x, _, rfl⟩ := List.mem_map.1 hrow
        exact E.lenV x
      · rw [hw]; simpa using sort_block (enc := enc) (k := k) (n := n) (d := (srt l).toArray) (os := os) hh
      · rw [List.getElem?_map] at hi
        cases hi' : (srt l)[i]? with
        | none => rw [hi'] at hi; cases hi
        | some y =>
          rw [hi'] at hi
          cases hi
          obtain ⟨u, hu, hru⟩ := E.rel y w A j x hx
          have hj : j < k := by rw [← E.lenV y]; exact (List.getElem?_eq_some_iff.1 hx).1
          have hil : i < (srt l).length := (List.getElem?_eq_some_iff.1 hi').1
          have hlt := flat_lt (k := k) hil hj
          have hlt2 : i * k + j < cur0.size := by rw [hsl] at hlt; exact Nat.lt_of_lt_of_le hlt hfit
          refine ⟨u, ?_, ?_, hru⟩
          · rw [Array.getElem?_eq_getElem (by simpa [putCells] using hlt2)]
            simp only [putCells, Array.getElem_mapIdx, Nat.zero_le, true_and, Nat.zero_add, Nat.sub_zero, id_eq]
            rw [if_pos (by rw [size_flatK]; simpa using hlt)]
            obtain ⟨z, hz, e1, _, _⟩ := hget (srt l) _ hlt
            rw [(flat_at hj).1, hi'] at hz
            cases hz
            rw [e1, (flat_at hj).2]
            have hju : j < (enc y).length := by rw [E.len]; exact hj
            rw [getElem!_pos (enc y) j hju]
            rw [List.getElem?_eq_getElem hju] at hu
            exact hu
          · exact E.one y u (List.mem_of_getElem? hu)
end Go.AL
