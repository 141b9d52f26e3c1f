/-
  Layer 17: MachineConfigExact, walked. By an AI agent.
-/
import Derived.Test.YtbhnmholmpdmeaaGreatQ6
namespace Go.AL
open Go.Proofs Go.RowKit
set_option linter.unusedVariables false
set_option linter.unusedSimpArgs false
attribute [local go_sem] Oper.semAt_some undef
def Ql.Post (w : World) (en : Ending) (w' : World) : Prop := en = .returned (.bool true) ∧ Below w.heap.size w w'
set_option maxRecDepth 100000 in
set_option maxHeartbeats 4000000 in
theorem Ql.calls (w : World) {A : Nat → Prop} (hA : ∀ b, A b → b < w.heap.size) {c : SCf} {p0 p3 p4 : Value} (h : Rw w A tSCf c (zzCf c p0 p3 p4)) (h0 : Cl w A (.sl [.int .i64]) c.1 p0) (h3 : Cl w A (.sl tSRn) c.2.2.2.1 p3) (h4 : Cl w A (.sl [.int .i64]) c.2.2.2.2 p4) :
    Calls Tryz.prog 4 #[.agg (zzCf c p0 p3 p4).toArray] w (Ql.Post w) := by
  have hut1 := Tryz.underlying29
  obtain ⟨a0, k0, rfl⟩ := (show ∃ a k, p0 = .slice a (c.1.length : Nat) k from (cl_sl.1 h0).form)
  obtain ⟨a3, k3, rfl⟩ := (show ∃ a k, p3 = .slice a (c.2.2.2.1.length : Nat) k from (cl_sl.1 h3).form)
  obtain ⟨a4, k4, rfl⟩ := (show ∃ a k, p4 = .slice a (c.2.2.2.2.length : Nat) k from (cl_sl.1 h4).form)
  have hC : Qn.C w (w.alloc (.cells #[.slice a0 (c.1.length : Nat) k0, .int .i64 c.2.1, .int .i64 c.2.2.1, .slice a3 (c.2.2.2.1.length : Nat) k3, .slice a4 (c.2.2.2.2.length : Nat) k4] 29)) w.heap.size (.slice a0 (c.1.length : Nat) k0) (.int .i64 c.2.1) (.int .i64 c.2.2.1) (.slice a3 (c.2.2.2.1.length : Nat) k3) (.slice a4 (c.2.2.2.2.length : Nat) k4) := ⟨(Below.refl _ _).alloc (Nat.le_refl _) _, HB.new _ _ _⟩
  have HV := fun W hW => Qn.vc (W := W) hA hW h
  have HR := fun W hW => Qn.rvc (W := W) hA hW h
  have hin : (Tryz.prog.info? 29).map (·.size) = some 5 := by kernel_rfl
  by_cases hbig : c.1.length > 50 ∨ c.2.2.2.1.length > 40 ∨ c.2.2.2.2.length > 40
  · clear h h0 h3 h4 HV HR
    obtain ⟨f0, f1, f2, f3, f4, g0, g3, g4⟩ := hC.cells
    have HC := Qd.Hid.mk hC
    clear hC
    by_cases h1 : (c.1.length : Int) > 50
    · go_enter Tryz.func4, Tryz.ntmps4
      go_wp2_with (go_at_call 10; refine (Qe.awk _).mono ?_; rintro en w2 ⟨rfl, hB2⟩)
      refine bodyPost_ret (results_tmp rfl _ _ _) rfl ?_
      exact ⟨rfl, (HC.out.next hB2).bel⟩
    · by_cases h2 : (c.2.2.2.1.length : Int) > 40
      · go_enter Tryz.func4, Tryz.ntmps4
        go_wp2_with (go_at_call 10; refine (Qe.awk _).mono ?_; rintro en w2 ⟨rfl, hB2⟩)
        refine bodyPost_ret (results_tmp rfl _ _ _) rfl ?_
        exact ⟨rfl, (HC.out.next hB2).bel⟩
      · have h3 : (c.2.2.2.2.length : Int) > 40 := by omega
        go_enter Tryz.func4, Tryz.ntmps4
        go_wp2_with (go_at_call 10; refine (Qe.awk _).mono ?_; rintro en w2 ⟨rfl, hB2⟩)
        refine bodyPost_ret (results_tmp rfl _ _ _) rfl ?_
        exact ⟨rfl, (HC.out.next hB2).bel⟩
  · have l1 : ¬ (c.1.length : Int) > 50 := by omega
    have l2 : ¬ (c.2.2.2.1.length : Int) > 40 := by omega
    have l3 : ¬ (c.2.2.2.2.length : Int) > 40 := by omega
    have HN : ∀ W, Below w.heap.size w W → Calls Tryz.prog 5 #[.agg (zzCf c (.slice a0 (c.1.length : Nat) k0) (.slice a3 (c.2.2.2.1.length : Nat) k3) (.slice a4 (c.2.2.2.2.length : Nat) k4)).toArray] W (Qn.Post W c) := fun W hW =>
      Qn.new W (A := A) (fun b hb => Nat.lt_of_lt_of_le (hA b hb) hW.size) (h.fr (fun b hb' _ => hW.block b hb') hW.size (fun _ _ h => h)) (h0.fr (fun b hb' _ => hW.block b hb') hW.size (fun _ _ h => h)) (h3.fr (fun b hb' _ => hW.block b hb') hW.size (fun _ _ h => h)) (h4.fr (fun b hb' _ => hW.block b hb') hW.size (fun _ _ h => h)) (by omega) (by omega) (by omega)
    clear h h0 h3 h4 hbig
    have hrng := hC.box.range
    obtain ⟨f0, f1, f2, f3, f4, g0, g3, g4⟩ := hC.cells
    cases hv : vcS c
    · simp only [hv] at HV HR
      replace HN : ∀ W, Below w.heap.size w W → Calls Tryz.prog 5 #[.agg (zzCf c (.slice a0 (c.1.length : Nat) k0) (.slice a3 (c.2.2.2.1.length : Nat) k3) (.slice a4 (c.2.2.2.2.length : Nat) k4)).toArray] W (fun en w' => en = .returned (.tuple #[.pointer none, .int .i64 1]) ∧ Below W.heap.size W w') := fun W hW => (HN W hW).mono fun en w' hh => by
        obtain ⟨hB, ⟨_, e⟩ | ⟨e, _⟩⟩ := hh
        · exact ⟨e, hB⟩
        · rw [hv] at e; cases e
      clear hv
      go_enter Tryz.func4, Tryz.ntmps4
      go_upto_region 7 with (first
        | (refine wpLoad rfl 29 (.tmp 1) rfl rfl hrng hut1 rfl hin rfl ?_)
        | (go_at_call 11; refine (HR _ hC.bel).mono ?_; rintro en w2 ⟨rfl, hB2⟩; replace hC := hC.next hB2; replace hrng := hC.box.range; obtain ⟨f0, f1, f2, f3, f4, g0, g3, g4⟩ := hC.cells)
        | (go_at_call 5; refine (HN _ hC.bel).mono ?_; rintro en w3 ⟨rfl, hB3⟩; replace hC := hC.next hB3; replace hrng := hC.box.range; obtain ⟨f0, f1, f2, f3, f4, g0, g3, g4⟩ := hC.cells))
      first
        | (go_region_with (first
            | (go_at_call 12; refine (HV _ (by first | exact hC.bel | exact hC.drew.bel)).mono ?_; rintro en w4 ⟨rfl, hB4⟩; replace hC := (by first | exact hC.next hB4 | exact hC.drew.next hB4); obtain ⟨f0, f1, f2, f3, f4, g0, g3, g4⟩ := hC.cells)
            | (go_at_call 10; refine (Qe.awk _).mono ?_; rintro en w5 ⟨rfl, hB5⟩; replace hC := (by first | exact hC.next hB5 | exact hC.drew.next hB5); obtain ⟨f0, f1, f2, f3, f4, g0, g3, g4⟩ := hC.cells)))
        | fail
      all_goals go_wp2
      all_goals refine bodyPost_ret (results_tmp rfl _ _ _) rfl ?_
      all_goals exact ⟨rfl, hC.bel⟩
    · have hl : c.1.length ≤ 1000 ∧ 0 ≤ c.2.1 ∧ c.2.1 ≤ (c.1.length : Int) := by
        have hh : hdC c = true := by simp only [vcS, Bool.and_eq_true] at hv; exact hv.1
        have := hdC_iff.1 hh
        exact ⟨by omega, by omega, this.2.2.2.1⟩
      simp only [hv] at HV HR
      replace HN : ∀ W, Below w.heap.size w W → Calls Tryz.prog 5 #[.agg (zzCf c (.slice a0 (c.1.length : Nat) k0) (.slice a3 (c.2.2.2.1.length : Nat) k3) (.slice a4 (c.2.2.2.2.length : Nat) k4)).toArray] W (fun en w' => ∃ b g, en = .returned (.tuple #[.pointer (some ⟨b, 0, none⟩), .int .i64 0]) ∧ Qn.M w' b g c.1.length c.2.1 ∧ Below W.heap.size W w') := fun W hW => (HN W hW).mono fun en w' hh => by
        obtain ⟨hB, ⟨e, _⟩ | ⟨_, b, g, e, hM⟩⟩ := hh
        · rw [hv] at e; cases e
        · exact ⟨b, g, e, hM, hB⟩
      clear hv
      go_enter Tryz.func4, Tryz.ntmps4
      go_upto_region 7 with (first
        | (refine wpLoad rfl 29 (.tmp 1) rfl rfl hrng hut1 rfl hin rfl ?_)
        | (go_at_call 11; refine (HR _ hC.bel).mono ?_; rintro en w2 ⟨rfl, hB2⟩; replace hC := hC.next hB2; replace hrng := hC.box.range; obtain ⟨f0, f1, f2, f3, f4, g0, g3, g4⟩ := hC.cells)
        | (go_at_call 5; refine (HN _ hC.bel).mono ?_; rintro en w3 ⟨b, g, rfl, hM, hB3⟩; replace hC := hC.next hB3; replace hrng := hC.box.range; obtain ⟨f0, f1, f2, f3, f4, g0, g3, g4⟩ := hC.cells))
      go_region_with (first
        | (go_at_call 12; refine (HV _ (by first | exact hC.bel | exact hC.drew.bel)).mono ?_; rintro en w4 ⟨rfl, hB4⟩; replace hC := (by first | exact hC.next hB4 | exact hC.drew.next hB4); replace hM := (by first | exact hM.next hB4 | exact hM.drew.next hB4); obtain ⟨f0, f1, f2, f3, f4, g0, g3, g4⟩ := hC.cells)
        | (go_at_call 13; refine (Qn.mem _ (by first | exact hM | exact hM.drew) hl.2.1 hl.2.2 hl.1).mono ?_; rintro en w6 ⟨⟨a6, m6, k6, rfl, e6⟩, hB6⟩; replace hC := (by first | exact hC.next hB6 | exact hC.drew.next hB6); replace hM := (by first | exact hM.next hB6 | exact hM.drew.next hB6); obtain ⟨f0, f1, f2, f3, f4, g0, g3, g4⟩ := hC.cells)
        | (go_at_call 14; refine (Qn.ent _ (by first | exact hM | exact hM.drew)).mono ?_; rintro en w7 ⟨rfl, hB7⟩; replace hC := (by first | exact hC.next hB7 | exact hC.drew.next hB7); replace hM := (by first | exact hM.next hB7 | exact hM.drew.next hB7); obtain ⟨f0, f1, f2, f3, f4, g0, g3, g4⟩ := hC.cells)
        | (go_at_call 10; refine (Qe.awk _).mono ?_; rintro en w5 ⟨rfl, hB5⟩; replace hC := (by first | exact hC.next hB5 | exact hC.drew.next hB5); obtain ⟨f0, f1, f2, f3, f4, g0, g3, g4⟩ := hC.cells))
      all_goals go_wp2
      all_goals refine bodyPost_ret (results_tmp rfl _ _ _) rfl ?_
      all_goals exact ⟨rfl, hC.bel⟩
end Go.AL
