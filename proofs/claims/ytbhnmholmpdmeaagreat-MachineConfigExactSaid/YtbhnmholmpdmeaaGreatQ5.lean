/-
  Layer 17: the members of a new machine, walked. By an AI agent.
-/
import Derived.Test.YtbhnmholmpdmeaaGreatQ3
namespace Go.AL
open Go.Proofs Go.RowKit
set_option linter.unusedVariables false
set_option linter.unusedSimpArgs false
attribute [local go_sem] Oper.semAt_some
theorem Qn.M.next {W W' : World} {b g n : Nat} {s : Int} (h : Qn.M W b g n s) (hb : Below W.heap.size W W') : Qn.M W' b g n s :=
  ⟨Nat.lt_of_lt_of_le h.lt hb.size, Nat.lt_of_lt_of_le h.gt hb.size, (hb.cell (p := ⟨b, 5, none⟩) h.lt).trans h.en, (hb.cell (p := ⟨b, 7, none⟩) h.lt).trans h.mb, fun i hi => (hb.cell (p := ⟨g, i, none⟩) h.gt).trans (h.is i hi)⟩
theorem Qn.M.drew {W : World} {b g n : Nat} {s : Int} (h : Qn.M W b g n s) : Qn.M W.drew b g n s := ⟨h.lt, h.gt, h.en, h.mb, h.is⟩
theorem Qm.wpApp {P : Program} {w : World} {ops : Array Oper} {rest : List Oper} {o : Oper} {a : Act} {Q : Exit → Act → World → Prop} (hgd : o.guard = none) (s x : Operand) (t : TypeId)
    (ho : o.op = .call { callee := .builtin .append, args := #[s, x], argTypes := #[t, t] }) (hty : o.type = t) {v y : Value} (hs : a.eval s = v) (hx : a.eval x = y) {R : Value → World → Prop}
    (hr : ∃ v' w', (Builtin.append_ #[t, t] t #[v, y]).run P w = .ok v' w' ∧ R v' w') (h : ∀ v' w', R v' w' → wpList P ops Q rest (a.put o.dst v') w') : wpList P ops Q (o :: rest) a w := by
  refine wpList_plain hgd fun _ hK => ?_
  obtain ⟨v', w', h1, h2⟩ := hr
  unfold Oper.wp execOp
  simp only [ho, hty, resolve, invoke, builtin, Sem.run_bind, Sem.run_pure, Result.andThen_ok, List.map_toArray, List.map_cons, List.map_nil, hs, hx, h1]
  exact hK _ _ (h v' w' h2)
def Qm.A (n0 b : Nat) : Prop := n0 ≤ b
theorem Qm.info : (Tryz.prog.info? 3).map (fun i => (i.zero, i.size, i.bytes)) = some (some (.int .i64 0), 1, 8) := by kernel_rfl
structure Qm.L (w W : World) (l : List Int) (o : Value) : Prop where
  own : OwnT W (Qm.A w.heap.size) w.heap.size 3 1 [.int .i64] l o
  bel : Below w.heap.size w W
  frm : ∃ a m c, o = .slice a m c
theorem Qm.L.push {w W : World} {l : List Int} {o : Value} (h : Qm.L w W l o) (x : Int) (hl : l.length ≤ 1000000) :
    ∃ v' w', (Builtin.append_ #[26, 26] 26 #[o, .slice (some ⟨W.heap.size, 0, none⟩) 1 1]).run Tryz.prog (W.alloc (.cells #[.int .i64 x] 3)) = .ok v' w' ∧ Qm.L w w' (l ++ [x]) v' := by
  have hinf := Qm.info
  cases hi : Tryz.prog.info? 3 with
  | none => rw [hi] at hinf; cases hinf
  | some i0 =>
    rw [hi] at hinf
    simp only [Option.map_some, Option.some.injEq, Prod.mk.injEq] at hinf
    obtain ⟨hz, hs, hb⟩ := hinf
    have hB : Below W.heap.size W (W.alloc (.cells #[.int .i64 x] 3)) := (Below.refl _ _).alloc (Nat.le_refl _) _
    have hbx := HB.new W 3 #[.int .i64 x]
    have hl' : List.length (α := RowT [.int .i64]) l ≤ 1000000 := hl
    have h1 : OwnT (W.alloc (.cells #[.int .i64 x] 3)) (Qm.A w.heap.size) w.heap.size 3 1 [.int .i64] l o := h.own.ev (low_ev hB (fun _ => False)) (fun _ _ h => h.elim) (fun _ _ h => h) (fun _ _ h => h)
    obtain ⟨g, cap, w', hr, hown, hev, hat⟩ := h1.app (t := 26) Tryz.underlying26 hi hz hs hb rfl (by omega) (x := x) (us := [.int .i64 x]) (show Rw _ _ [.int .i64] x _ from ⟨_, rfl, Cl.int⟩) rfl (bx := W.heap.size) (off := 0) (c := 1) (fun j v hv => by rw [hbx.cell, Nat.zero_add]; simpa using hv) (by unfold maxLen; omega) (by omega) (h.bel.trans (hB.mono h.bel.size)).size (fun g hg => (h1.lt hg).1)
    refine ⟨_, w', hr, hown _ (fun b _ hb => hb), ?_, ⟨_, _, _, rfl⟩⟩
    have h2 : Below w.heap.size w (W.alloc (.cells #[.int .i64 x] 3)) := h.bel.trans (hB.mono h.bel.size)
    exact h2.trans ⟨hev.os, hev.tape, hev.output, hev.size, fun b hb => hev.block b (Nat.lt_of_lt_of_le hb h2.size) (fun hh => by have := (h1.lt hh).1; omega)⟩
def Qm.Post (w : World) (s : Int) (en : Ending) (w' : World) : Prop := (∃ (a : Option Addr) (m k : Nat), en = .returned (.slice a m k) ∧ (m : Int) = s) ∧ Below w.heap.size w w'
set_option maxRecDepth 100000 in
set_option maxHeartbeats 4000000 in
theorem Qn.mem (w : World) {b g n : Nat} {s : Int} (hM : Qn.M w b g n s) (hs0 : 0 ≤ s) (hsn : s ≤ (n : Int)) (hn : n ≤ 1000) :
    Calls Tryz.prog 13 #[.pointer (some ⟨b, 0, none⟩)] w (Qm.Post w s) := by
  have hut2 := Tryz.underlying56
  have hut3 := Tryz.underlying53
  have hut4 := Tryz.underlying26
  have m7 := hM.mb
  have hL0 : Qm.L w w [] (.slice none 0 0) := ⟨.inl ⟨rfl, rfl⟩, Below.refl _ _, ⟨_, _, _, rfl⟩⟩
  go_enter Tryz.func13, Tryz.ntmps13
  go_wp2
  go_loopw [3, 11] (fun o i wr => ∃ (k : Nat) (l : List Int), k ≤ n ∧ i = .int .i64 (k : Int) ∧ (l.length : Int) = min (k : Int) s ∧ Qm.L w wr l o) (fun _ i _ => n - (RowKit.intOf i).toNat)
  case atStart => exact ⟨0, [], Nat.zero_le _, rfl, by simp; omega, hL0⟩
  case round =>
    obtain ⟨k, l, hk, rfl, hll, hL⟩ := hrel
    by_cases hlt : k < n
    · have hk0 : (0 : Int) ≤ (k : Int) := by omega
      have hk1 : (k : Int) < (n : Int) := by omega
      have c1 := (hL.bel.cell (p := ⟨g, k, none⟩) hM.gt).trans (hM.is k hlt)
      obtain ⟨oa, om, oc, rfl⟩ := hL.frm
      have HP := Qd.Hid.mk (hL.push (k : Int) (by omega))
      have HL := Qd.Hid.mk hL
      clear hL m7 hM hL0
      by_cases hs : (k : Int) < s
      · have hd : decide ((k : Int) < s) = true := decide_eq_true hs
        rw [hd] at c1
        have HLL := Qd.Hid.mk hll
        clear hll hd
        go_wp2_with (at_builtin; refine Qm.wpApp rfl (.tmp 17) (.tmp 19) 26 rfl rfl rfl rfl HP.out ?_; rintro v5 w5 hL5)
        all_goals (have hll := HLL.out)
        all_goals exact ⟨⟨k + 1, l ++ [(k : Int)], by omega, by congr 1, by simp; omega, hL5⟩, by simp [RowKit.intOf]; omega⟩
      · have hd : decide ((k : Int) < s) = false := decide_eq_false hs
        rw [hd] at c1
        have HLL := Qd.Hid.mk hll
        clear hll hd
        go_wp2
        have hll := HLL.out
        exact ⟨⟨k + 1, l, by omega, by congr 1, by omega, HL.out⟩, by simp [RowKit.intOf]; omega⟩
    · obtain rfl : k = n := by omega
      have hk1 : ¬ (k : Int) < (k : Int) := by omega
      have HL := Qd.Hid.mk hL
      have HLL := Qd.Hid.mk hll
      obtain ⟨oa, oc, rfl⟩ := hL.own.form
      clear hL hll m7 hM hL0
      go_wp2
      refine bodyPost_ret (results_tmp rfl _ _ _) rfl ?_
      exact ⟨⟨_, _, _, rfl, by have := HLL.out; have e : List.length (α := RowT [.int .i64]) l = List.length (α := Int) l := rfl; omega⟩, HL.out.bel⟩
end Go.AL
