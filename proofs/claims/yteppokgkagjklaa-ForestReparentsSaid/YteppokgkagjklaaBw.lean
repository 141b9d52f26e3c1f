/-
  slices.Backward over Ids: its contract for a range over a function. By an AI agent.
-/
import Derived.RangeFuncNested
import Derived.RangeFuncBound
import Derived.RangeFuncCalls
import Derived.RangeFuncLeaves
import Derived.Shelf.Abstract
import Derived.Shelf.RegionOpen
import Derived.WalkKit
import Derived.OwnWalkIn
import Derived.TacticsInMore
import Derived.LoopNIn
import Derived.LoopIn
import Derived.Test.YteppokgkagjklaaH6a
namespace Go.Proofs
open Go.RowKit Go.Shelf Go.AL
set_option linter.unusedVariables false
set_option linter.unusedSimpArgs false
attribute [local go_sem] Oper.semAt_some
/-- The first k of what comes. -/
def Bw.up {α : Type} (f : Nat → α) (k : Nat) : List α := (List.range k).map f
theorem Bw.up_succ {α : Type} (f : Nat → α) (k : Nat) : Bw.up f (k + 1) = Bw.up f k ++ [f k] := by simp [Bw.up, List.range_succ]
theorem Bw.up_length {α : Type} (f : Nat → α) (k : Nat) : (Bw.up f k).length = k := by simp [Bw.up]
abbrev Bw.E (x : Nat × SId) : Array Value := #[.int .i64 (x.1 : Int), .agg #[.int .i64 x.2.1, .int .i64 x.2.2.1, .int .i64 x.2.2.2]]
def Bw.at (zs : List SId) (k : Nat) : Nat × SId := (zs.length - 1 - k, zs[zs.length - 1 - k]?.getD (0, 0, 0))
def Bw.Cells (W : World) (b off : Nat) (zs : List SId) : Prop := ∀ (j : Nat) (z : SId), zs[j]? = some z → W.cell? ⟨b, off + j * 3, none⟩ = some (.int .i64 z.1) ∧ W.cell? ⟨b, off + j * 3 + 1, none⟩ = some (.int .i64 z.2.1) ∧ W.cell? ⟨b, off + j * 3 + 2, none⟩ = some (.int .i64 z.2.2)
theorem Bw.Cells.below {n₀ : Nat} {W W' : World} (h : Below n₀ W W') {b off : Nat} (hb : b < n₀) {zs : List SId} (hc : Bw.Cells W b off zs) : Bw.Cells W' b off zs := fun j z hz => by
  obtain ⟨h1, h2, h3⟩ := hc j z hz
  exact ⟨(h.cell (p := ⟨b, _, none⟩) hb).trans h1, (h.cell (p := ⟨b, _, none⟩) hb).trans h2, (h.cell (p := ⟨b, _, none⟩) hb).trans h3⟩
set_option maxRecDepth 100000 in
set_option maxHeartbeats 2000000 in
theorem Bw.all1_in (F : Fence) (n : Nat) (h8 : F.fn 104) (hro : F.round = none) (hn : 1 ≤ n) (l Bs n₀ b off cap : Nat) (zs : List SId) (hreach : zs.length * 24 ≤ 140737488351232) (hb : b < n₀) (J Jx : List (Nat × SId) → World → Prop)
    (hY : ∀ pre x W, J pre W → pre.length < zs.length → YieldAt F (n - 1) Try.prog l (Bw.E x) W fun e W' =>
      (e = .returned (.bool true) ∧ J (pre ++ [x]) W' ∧ Below n₀ W W') ∨ (e = .returned (.bool false) ∧ Jx (pre ++ [x]) W'))
    (W : World) (hBs : W.cell? ⟨Bs, 0, none⟩ = some (.slice (some ⟨b, off, none⟩) zs.length cap))
    (hc : Bw.Cells W b off zs) (hBn : Bs < n₀) (h0 : J [] W) :
    CallsIn F n Try.prog 104 #[.func (.yield l) #[] #[], .pointer (some ⟨Bs, 0, none⟩)] W fun e W' => (∃ v, e = .returned v) ∧
      ((∃ ys, ys = Bw.up (Bw.at zs) zs.length ∧ J ys W') ∨ (∃ pre, (∃ k, k ≤ zs.length ∧ pre = Bw.up (Bw.at zs) k) ∧ Jx pre W')) := by
  refine callsIn_of_wp Try.func104 rfl h8 ?_ hro
  simp only [Try.ntmps104, List.size_toArray, List.length_cons, List.length_nil, Nat.reduceAdd, Nat.reduceSub, Array.replicate_succ, Array.replicate_zero, List.push_toArray, List.append_toArray, List.nil_append, List.cons_append]
  have hw1 : IntKind.i64.wrap ((zs.length : Int) - 1) = (zs.length : Int) - 1 := by rw [IntKind.wrap_i64]; omega
  gi_wp2
  gi_loopw [3] (fun i wr => ∃ k : Nat, k ≤ zs.length ∧ i = .int .i64 ((zs.length : Int) - 1 - k) ∧ J (Bw.up (Bw.at zs) k) wr ∧ Below n₀ W wr)
    (fun i _ => (intOf i + 1).toNat)
  case atStart => exact ⟨0, Nat.zero_le _, by simp [hw1], h0, Below.refl _ _⟩
  case round =>
    obtain ⟨k, hk, rfl, hJs, hnx⟩ := hrel
    have hBx : wr.cell? ⟨Bs, 0, none⟩ = some (.slice (some ⟨b, off, none⟩) zs.length cap) := (hnx.cell (p := ⟨Bs, 0, none⟩) hBn).trans hBs
    by_cases hlt : k < zs.length
    · obtain ⟨j, hj⟩ : ∃ j, j = zs.length - 1 - k := ⟨_, rfl⟩
      obtain ⟨z, hz⟩ : ∃ z, zs[j]? = some z := ⟨_, List.getElem?_eq_getElem (by omega)⟩
      have hat : Bw.at zs k = (j, z) := by simp [Bw.at, ← hj, hz]
      obtain ⟨hz1, hz2, hz3⟩ := hc.below hnx hb _ z hz
      obtain ⟨fn, tmps, assign, body, hy, hR⟩ := hY _ (Bw.at zs k) wr hJs (by rw [Bw.up_length]; exact hlt)
      rw [hat] at hy
      dsimp only [Bw.E] at hy
      have hi : (zs.length : Int) - 1 - k = (j : Int) := by omega
      have hjl : j < zs.length := by omega
      have hj1 : j + k + 1 ≤ zs.length := by omega
      have hj2 : zs.length ≤ j + k + 1 := by omega
      rw [hi]
      clear hj hi
      gi_wp2
      refine hR.mono ?_
      rintro e W3 (⟨rfl, hJ3, hk3⟩ | ⟨rfl, hJx3⟩)
      · have hw2 : IntKind.i64.wrap ((j : Int) - 1) = (j : Int) - 1 := by rw [IntKind.wrap_i64]; omega
        gi_wp2
        go_roundw
        case rel => exact ⟨k + 1, by omega, by congr 1; omega, by rw [Bw.up_succ]; exact hJ3, hnx.trans hk3⟩
        case measure => simp [intOf, hw2] <;> omega
      · gi_wp2
        refine bodyPost_ret (results_none rfl _ _ _) rfl ?_
        exact ⟨⟨_, rfl⟩, .inr ⟨_, ⟨k + 1, by omega, (Bw.up_succ _ _).symm⟩, hJx3⟩⟩
    · obtain rfl : k = zs.length := by omega
      have hi : (zs.length : Int) - 1 - (zs.length : Nat) = -1 := by omega
      rw [hi]
      gi_wp2
      go_end0
      exact ⟨⟨_, rfl⟩, .inl ⟨_, rfl, hJs⟩⟩
set_option maxRecDepth 100000 in
set_option maxHeartbeats 1000000 in
theorem Bw.all1_nil_in (F : Fence) (n : Nat) (h8 : F.fn 104) (hro : F.round = none) (l Bs cap : Nat) (a : Option Addr) (J : List (Nat × SId) → World → Prop) (W : World) (hBs : W.cell? ⟨Bs, 0, none⟩ = some (.slice a 0 cap)) (h0 : J [] W) :
    CallsIn F n Try.prog 104 #[.func (.yield l) #[] #[], .pointer (some ⟨Bs, 0, none⟩)] W fun e W' => (∃ v, e = .returned v) ∧ J [] W' := by
  refine callsIn_of_wp Try.func104 rfl h8 ?_ hro
  simp only [Try.ntmps104, List.size_toArray, List.length_cons, List.length_nil, Nat.reduceAdd, Nat.reduceSub, Array.replicate_succ, Array.replicate_zero, List.push_toArray, List.append_toArray, List.nil_append, List.cons_append]
  gi_wp2
  gi_loopw [3] (fun i wr => i = .int .i64 (-1) ∧ J [] wr) (fun _ _ => 0)
  case atStart => exact ⟨rfl, h0⟩
  case round =>
    obtain ⟨rfl, hJs⟩ := hrel
    gi_wp2
    go_end0
    exact ⟨⟨_, rfl⟩, hJs⟩
set_option maxHeartbeats 1000000 in
theorem Bw.back_in (F : Fence) (n : Nat) (h6 : F.fn 78) (hro : F.round = none) (a : Option Addr) (len cap : Nat) (w : World) :
    CallsIn F n Try.prog 78 #[.slice a len cap] w fun e w' => e = .returned (.func (.func 104) #[] #[.pointer (some ⟨w.heap.size, 0, none⟩)]) ∧ w' = w.alloc (.cells #[.slice a len cap] 26) := by
  refine callsIn_of_wp Try.func78 rfl h6 ?_ hro
  simp only [Try.ntmps78, List.size_toArray, List.length_cons, List.length_nil, Nat.reduceAdd, Nat.reduceSub, Array.replicate_succ, Array.replicate_zero, List.push_toArray, List.append_toArray, List.nil_append, List.cons_append]
  gi_wp2
  go_ret
  exact ⟨rfl, rfl⟩
/-- The slice value sv holds the Ids zs, in a block below n₀; or there are none. -/
def Bw.Ids (n₀ : Nat) (W : World) (sv : Value) (zs : List SId) : Prop :=
  ((∃ a cap, sv = .slice a 0 cap) ∧ zs = []) ∨ ∃ b off cap, sv = .slice (some ⟨b, off, none⟩) zs.length cap ∧ b < n₀ ∧ Bw.Cells W b off zs
theorem Bw.Ids.below {n₀ : Nat} {A B : World} (h : Below n₀ A B) {sv : Value} {zs : List SId} : Bw.Ids n₀ A sv zs → Bw.Ids n₀ B sv zs
  | .inl e => .inl e
  | .inr ⟨b, off, cap, e, hb, hc⟩ => .inr ⟨b, off, cap, e, hb, hc.below h hb⟩
theorem Bw.back_stops (F : Fence) (n : Nat) (h8 : F.fn 104) (hro : F.round = none) (hn : 1 ≤ n) (Bs n₀ : Nat) (sv : Value) (zs : List SId) (hreach : zs.length * 24 ≤ 140737488351232) (w : World) (hBs : Bs < w.heap.size) (hn₀ : n₀ ≤ w.heap.size)
    (hc : w.cell? ⟨Bs, 0, none⟩ = some sv) (hB : Bs < n₀) (hI : Bw.Ids n₀ w sv zs) :
    SeqStopsK F n Try.prog 104 #[.pointer (some ⟨Bs, 0, none⟩)] Bw.E (Below n₀) (fun ys => ys = Bw.up (Bw.at zs) zs.length)
      (fun pre => ∃ k, k ≤ zs.length ∧ pre = Bw.up (Bw.at zs) k) zs.length w := fun l J Jx W hW _ _ hY h0 => by
  have hc' := (hW.cell (p := ⟨Bs, 0, none⟩) hBs).trans hc
  rcases hI.below (hW.mono hn₀) with ⟨⟨a, cap, rfl⟩, rfl⟩ | ⟨b, off, cap, rfl, hb, hcs⟩
  · exact (Bw.all1_nil_in F n h8 hro l Bs cap a J W hc' h0).mono fun e W' ⟨he, hj⟩ => ⟨he, .inl ⟨_, rfl, hj⟩⟩
  · exact Bw.all1_in F n h8 hro hn l Bs n₀ b off cap zs hreach hb J Jx hY W hc' hcs hB h0
end Go.Proofs
