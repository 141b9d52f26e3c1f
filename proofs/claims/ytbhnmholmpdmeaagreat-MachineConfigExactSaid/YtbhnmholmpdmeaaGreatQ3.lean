/-
  Layer 17: capmachine.New, walked. By an AI agent.
-/
import Derived.Test.YtbhnmholmpdmeaaGreatQ2
import Derived.Deep.OwnRows
import Derived.Deep.CutRange
import Derived.OwnWalk
namespace Go.AL
open Go.Proofs Go.RowKit
set_option linter.unusedVariables false
set_option linter.unusedSimpArgs false
attribute [local go_sem] Oper.semAt_some
structure Qn.M (W : World) (b g n : Nat) (s : Int) : Prop where
  lt : b < W.heap.size
  gt : g < W.heap.size
  en : W.cell? ⟨b, 5, none⟩ = some (.slice none 0 0)
  mb : W.cell? ⟨b, 7, none⟩ = some (.slice (some ⟨g, 0, none⟩) n n)
  is : ∀ i, i < n → W.cell? ⟨g, i, none⟩ = some (.bool (decide ((i : Int) < s)))
def Qn.Post (w : World) (c : SCf) (en : Ending) (w' : World) : Prop := Below w.heap.size w w' ∧ (vcS c = false ∧ en = .returned (.tuple #[.pointer none, .int .i64 1]) ∨ vcS c = true ∧ ∃ b g, en = .returned (.tuple #[.pointer (some ⟨b, 0, none⟩), .int .i64 0]) ∧ Qn.M w' b g c.1.length c.2.1)
theorem Qn.C.drew {w W : World} {B : Nat} {p0 s l p3 p4 : Value} (h : Qn.C w W B p0 s l p3 p4) : Qn.C w W.drew B p0 s l p3 p4 := ⟨h.bel.drew, h.box⟩
theorem Qn.C.three {w W : World} {B : Nat} {p0 s l p3 p4 : Value} (h : Qn.C w W B p0 s l p3 p4) (hB : w.heap.size ≤ B) (q0 q3 q4 : Value) : Qn.C w (((W.setCell ⟨B, 0, none⟩ q0).setCell ⟨B, 3, none⟩ q3).setCell ⟨B, 4, none⟩ q4) B q0 s l q3 q4 :=
  ⟨((h.bel.setCell hB _).setCell hB _).setCell hB _, by have := ((h.box.set 0 q0).set 3 q3).set 4 q4; simpa using this⟩
theorem Qn.s5 {W W' : World} {B : Nat} {p0 s l p3 p4 : Value} (h : HB W B 29 #[p0, s, l, p3, p4]) (e : W'.heap = W.heap) : W'.cell? ⟨B, 0, none⟩ = some p0 ∧ W'.cell? ⟨B, 1, none⟩ = some s ∧ W'.cell? ⟨B, 2, none⟩ = some l ∧ W'.cell? ⟨B, 3, none⟩ = some p3 ∧ W'.cell? ⟨B, 4, none⟩ = some p4 := by
  have h : HB W' B 29 #[p0, s, l, p3, p4] := by unfold HB; rw [e]; exact h
  exact ⟨h.cell 0, h.cell 1, h.cell 2, h.cell 3, h.cell 4⟩
structure Qn.L (w W : World) (b g j n k : Nat) : Prop where
  bel : Below w.heap.size w W
  row : ∃ p0 s l p3 p4 x6 x9, HB W b 56 #[p0, s, l, p3, p4, .slice none 0 0, x6, .slice (some ⟨g, 0, none⟩) n n, .slice (some ⟨j, 0, none⟩) n n, x9]
  mem : ∃ cs, HB W g 4 cs ∧ cs.size = n ∧ ∀ i, i < n → cs[i]? = some (.bool (decide (i < k)))
  joi : ∃ cs, HB W j 4 cs ∧ cs.size = n
  gj : g ≠ j
  bg : b ≠ g
  bj : b ≠ j
  wg : w.heap.size ≤ g
  wj : w.heap.size ≤ j
section
variable {W : World} {o0 o1 o2 o3 o4 : Obj}
theorem Qn.at0 : (((((W.alloc o0).alloc o1).alloc o2).alloc o3).alloc o4).heap[W.heap.size]? = some o0 := by
  show (((((W.heap.push o0).push o1).push o2).push o3).push o4)[_]? = _
  simp only [Array.getElem?_push, Array.size_push]
  repeat (first | rw [if_pos trivial] | rw [if_neg (by omega)])
theorem Qn.at1 : (((((W.alloc o0).alloc o1).alloc o2).alloc o3).alloc o4).heap[W.heap.size + 1]? = some o1 := by
  show (((((W.heap.push o0).push o1).push o2).push o3).push o4)[_]? = _
  simp only [Array.getElem?_push, Array.size_push]
  repeat (first | rw [if_pos trivial] | rw [if_neg (by omega)])
theorem Qn.at2 : (((((W.alloc o0).alloc o1).alloc o2).alloc o3).alloc o4).heap[W.heap.size + 1 + 1]? = some o2 := by
  show (((((W.heap.push o0).push o1).push o2).push o3).push o4)[_]? = _
  simp only [Array.getElem?_push, Array.size_push]
  repeat (first | rw [if_pos trivial] | rw [if_neg (by omega)])
theorem Qn.at3 : (((((W.alloc o0).alloc o1).alloc o2).alloc o3).alloc o4).heap[W.heap.size + 1 + 1 + 1]? = some o3 := by
  show (((((W.heap.push o0).push o1).push o2).push o3).push o4)[_]? = _
  simp only [Array.getElem?_push, Array.size_push]
  repeat (first | rw [if_pos trivial] | rw [if_neg (by omega)])
theorem Qn.at4 : (((((W.alloc o0).alloc o1).alloc o2).alloc o3).alloc o4).heap[W.heap.size + 1 + 1 + 1 + 1]? = some o4 := by
  show (((((W.heap.push o0).push o1).push o2).push o3).push o4)[_]? = _
  simp only [Array.getElem?_push, Array.size_push]
  repeat (first | rw [if_pos trivial] | rw [if_neg (by omega)])
end
theorem Qn.made (n : Nat) : (madeCells #[Value.bool false] n).size = n ∧ ∀ i, i < n → (madeCells #[Value.bool false] n)[i]? = some (.bool false) := by
  refine ⟨by simp [madeCells], fun i hi => ?_⟩
  simp [madeCells, Array.getElem?_range, hi, Nat.mod_one]
theorem Qn.begin {w W : World} {B : Nat} {q0 s l q3 q4 : Value} (hC : Qn.C w W B q0 s l q3 q4) {o0 o1 o2 o3 : Obj} {p0 p1 p2 p3 p4 x6 x9 : Value} {g j n : Nat} (hgj : g ≠ j) (hg1 : W.heap.size ≤ g) (hg2 : g < W.heap.size + 4) (hj1 : W.heap.size ≤ j) (hj2 : j < W.heap.size + 4)
    (hg : (((((W.alloc o0).alloc o1).alloc o2).alloc o3).alloc (.cells #[p0, p1, p2, p3, p4, .slice none 0 0, x6, .slice (some ⟨g, 0, none⟩) n n, .slice (some ⟨j, 0, none⟩) n n, x9] 56)).heap[g]? = some (.cells (madeCells #[Value.bool false] n) 4))
    (hj : (((((W.alloc o0).alloc o1).alloc o2).alloc o3).alloc (.cells #[p0, p1, p2, p3, p4, .slice none 0 0, x6, .slice (some ⟨g, 0, none⟩) n n, .slice (some ⟨j, 0, none⟩) n n, x9] 56)).heap[j]? = some (.cells (madeCells #[Value.bool false] n) 4)) :
    Qn.L w (((((W.alloc o0).alloc o1).alloc o2).alloc o3).alloc (.cells #[p0, p1, p2, p3, p4, .slice none 0 0, x6, .slice (some ⟨g, 0, none⟩) n n, .slice (some ⟨j, 0, none⟩) n n, x9] 56)).drew (W.heap.size + 1 + 1 + 1 + 1) g j n 0 ∧ (((((W.alloc o0).alloc o1).alloc o2).alloc o3).alloc (.cells #[p0, p1, p2, p3, p4, .slice none 0 0, x6, .slice (some ⟨g, 0, none⟩) n n, .slice (some ⟨j, 0, none⟩) n n, x9] 56)).drew.cell? ⟨B, 1, none⟩ = some s := by
  have hs := hC.bel.size
  have h5 := ((((hC.box.alloc o0).alloc o1).alloc o2).alloc o3).alloc (.cells #[p0, p1, p2, p3, p4, .slice none 0 0, x6, .slice (some ⟨g, 0, none⟩) n n, .slice (some ⟨j, 0, none⟩) n n, x9] 56)
  have hb := (((((hC.bel.alloc hs o0).alloc (by simp; omega) o1).alloc (by simp; omega) o2).alloc (by simp; omega) o3).alloc (by simp; omega) (.cells #[p0, p1, p2, p3, p4, .slice none 0 0, x6, .slice (some ⟨g, 0, none⟩) n n, .slice (some ⟨j, 0, none⟩) n n, x9] 56)).drew
  exact ⟨⟨hb, ⟨p0, p1, p2, p3, p4, x6, x9, Qn.at4⟩, ⟨_, hg, (Qn.made n).1, fun i hi => by rw [(Qn.made n).2 i hi]; simp⟩, ⟨_, hj, (Qn.made n).1⟩, hgj, by omega, by omega, by omega, by omega⟩, h5.cell 1⟩
theorem Qn.L.set {w W : World} {b g j n k : Nat} (h : Qn.L w W b g j n k) (hk : k < n) : Qn.L w ((W.setCell ⟨g, k, none⟩ (.bool true)).setCell ⟨j, k, none⟩ (.bool true)) b g j n (k + 1) := by
  obtain ⟨p0, p1, p2, p3, p4, x6, x9, hr⟩ := h.row
  obtain ⟨cs, hm, hm1, hm2⟩ := h.mem
  obtain ⟨cj, hj, hj1⟩ := h.joi
  refine ⟨(h.bel.setCell h.wg _).setCell h.wj _, ⟨p0, p1, p2, p3, p4, x6, x9, (hr.other h.bg k _).other h.bj k _⟩, ⟨_, (hm.set k _).other h.gj k _, by simpa using hm1, fun i hi => ?_⟩, ⟨_, (hj.other (Ne.symm h.gj) k _).set k _, by simpa using hj1⟩, h.gj, h.bg, h.bj, h.wg, h.wj⟩
  rw [Array.getElem?_setIfInBounds]
  by_cases e : k = i
  · subst e
    rw [if_pos rfl, if_pos (by omega)]
    simp
  · rw [if_neg e, hm2 i hi]
    congr 2
    exact decide_eq_decide.2 (by omega)
theorem Qn.L.drew {w W : World} {b g j n k : Nat} (h : Qn.L w W b g j n k) : Qn.L w W.drew b g j n k := ⟨h.bel.drew, h.row, h.mem, h.joi, h.gj, h.bg, h.bj, h.wg, h.wj⟩
theorem Qn.L.fin {w W : World} {b g j n k : Nat} {s : Int} (h : Qn.L w W b g j n k) (hs : s = (k : Int)) : Qn.M W b g n s := by
  subst hs
  obtain ⟨p0, p1, p2, p3, p4, x6, x9, hr⟩ := h.row
  obtain ⟨cs, hm, hm1, hm2⟩ := h.mem
  refine ⟨hr.lt, hm.lt, hr.cell 5, hr.cell 7, fun i hi => ?_⟩
  rw [hm.cell, hm2 i hi]
  congr 2
  exact decide_eq_decide.2 (by omega)
end Go.AL
