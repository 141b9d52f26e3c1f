/-
  Layer 17: capmachine.New, walked: its operations. By an AI agent.
-/
import Derived.Test.YtbhnmholmpdmeaaGreatQ3
namespace Go.AL
open Go.Proofs Go.RowKit
set_option linter.unusedVariables false
set_option linter.unusedSimpArgs false
attribute [local go_sem] Oper.semAt_some
set_option maxRecDepth 100000 in
set_option maxHeartbeats 4000000 in
theorem Qn.new (w : World) {A : Nat → Prop} (hA : ∀ b, A b → b < w.heap.size) {c : SCf} {p0 p3 p4 : Value} (h : Rw w A tSCf c (zzCf c p0 p3 p4)) (h0 : Cl w A (.sl [.int .i64]) c.1 p0) (h3 : Cl w A (.sl tSRn) c.2.2.2.1 p3) (h4 : Cl w A (.sl [.int .i64]) c.2.2.2.2 p4) (hl0 : c.1.length ≤ 1000) (hl3 : c.2.2.2.1.length ≤ 1000) (hl4 : c.2.2.2.2.length ≤ 1000) :
    Calls Tryz.prog 5 #[.agg (zzCf c p0 p3 p4).toArray] w (Qn.Post w c) := by
  have hut1 := Tryz.underlying29
  have hut2 := Tryz.underlying56
  have hut3 := Tryz.underlying53
  obtain ⟨a0, k0, rfl⟩ := (show ∃ a k, p0 = .slice a (c.1.length : Nat) k from (cl_sl.1 h0).form)
  obtain ⟨a3, k3, rfl⟩ := (show ∃ a k, p3 = .slice a (c.2.2.2.1.length : Nat) k from (cl_sl.1 h3).form)
  obtain ⟨a4, k4, rfl⟩ := (show ∃ a k, p4 = .slice a (c.2.2.2.2.length : Nat) k from (cl_sl.1 h4).form)
  have hC : Qn.C w (w.alloc (.cells #[.slice a0 (c.1.length : Nat) k0, .int .i64 c.2.1, .int .i64 c.2.2.1, .slice a3 (c.2.2.2.1.length : Nat) k3, .slice a4 (c.2.2.2.2.length : Nat) k4] 29)) w.heap.size (.slice a0 (c.1.length : Nat) k0) (.int .i64 c.2.1) (.int .i64 c.2.2.1) (.slice a3 (c.2.2.2.1.length : Nat) k3) (.slice a4 (c.2.2.2.2.length : Nat) k4) := ⟨(Below.refl _ _).alloc (Nat.le_refl _) _, HB.new _ _ _⟩
  have HV := fun W hW => Qn.vc (W := W) hA hW h
  have H3 := fun W hW => Qn.rcl (W := W) hA hW h3 hl3
  have H0 : ∀ (W : World), Below w.heap.size w W → ∀ (a : Option Addr) (n k : Nat), (Value.slice a n k = .slice a0 (c.1.length : Nat) k0 ∨ Value.slice a n k = .slice a4 (c.2.2.2.2.length : Nat) k4) → Calls Tryz.prog 15 #[.slice a n k] W fun en w' => ∃ a' k', en = .returned (.slice a' n k') ∧ Below W.heap.size W w' := by
    rintro W hW a n k (e | e)
    · obtain ⟨rfl, rfl, rfl⟩ := Value.slice.inj e
      exact Qn.icl hA hW h0 hl0
    · obtain ⟨rfl, rfl, rfl⟩ := Value.slice.inj e
      exact Qn.icl hA hW h4 hl4
  clear h h0 h3 h4
  cases hv : vcS c
  · simp only [hv] at HV
    have HVC := Qd.Hid.mk hv
    clear hv
    go_enter Tryz.func5, Tryz.ntmps5
    go_upto_region 1 with fail
    obtain ⟨W1, hW1⟩ : ∃ W1, W1 = w.alloc (.cells #[.slice a0 (c.1.length : Nat) k0, .int .i64 c.2.1, .int .i64 c.2.2.1, .slice a3 (c.2.2.2.1.length : Nat) k3, .slice a4 (c.2.2.2.2.length : Nat) k4] 29) := ⟨_, rfl⟩
    rw [← hW1] at hC ⊢
    clear hW1
    have hB0 : w.heap.size ≤ w.heap.size := Nat.le_refl _
    generalize hB : w.heap.size = B at hC hB0 ⊢
    have hin : (Tryz.prog.info? 29).map (·.size) = some 5 := by kernel_rfl
    have hrng := hC.box.range
    obtain ⟨f0, f1, f2, f3, f4, g0, g3, g4⟩ := hC.cells
    go_wp2_with (first
      | (refine wpLoad rfl 29 (.tmp 1) rfl rfl hrng hut1 rfl hin rfl ?_)
      | (go_at_call 12; refine (HV _ hC.bel).mono ?_; rintro en w2 ⟨rfl, hB2⟩; replace hC := hC.next hB2; obtain ⟨f0, f1, f2, f3, f4, g0, g3, g4⟩ := hC.cells))
    refine bodyPost_ret (results_tmp2 rfl _ _ _) rfl ?_
    exact ⟨hC.bel, .inl ⟨HVC.out, rfl⟩⟩
  · simp only [hv] at HV
    have hl : 1 ≤ c.1.length ∧ c.1.length ≤ 32 ∧ 1 ≤ c.2.1 ∧ c.2.1 ≤ (c.1.length : Int) := by
      have hh : hdC c = true := by simp only [vcS, Bool.and_eq_true] at hv; exact hv.1
      have := hdC_iff.1 hh
      exact ⟨this.1, this.2.1, this.2.2.1, this.2.2.2.1⟩
    have HVC := Qd.Hid.mk hv
    clear hv
    go_enter Tryz.func5, Tryz.ntmps5
    go_upto_region 1 with fail
    obtain ⟨W1, hW1⟩ : ∃ W1, W1 = w.alloc (.cells #[.slice a0 (c.1.length : Nat) k0, .int .i64 c.2.1, .int .i64 c.2.2.1, .slice a3 (c.2.2.2.1.length : Nat) k3, .slice a4 (c.2.2.2.2.length : Nat) k4] 29) := ⟨_, rfl⟩
    rw [← hW1] at hC ⊢
    clear hW1
    have hB0 : w.heap.size ≤ w.heap.size := Nat.le_refl _
    generalize hB : w.heap.size = B at hC hB0 ⊢
    have hin : (Tryz.prog.info? 29).map (·.size) = some 5 := by kernel_rfl
    have hrng := hC.box.range
    obtain ⟨f0, f1, f2, f3, f4, g0, g3, g4⟩ := hC.cells
    go_upto_region 3 with (first
      | (refine wpLoad rfl 29 (.tmp 1) rfl rfl hrng hut1 rfl hin rfl ?_)
      | (go_at_call 12; refine (HV _ hC.bel).mono ?_; rintro en w2 ⟨rfl, hB2⟩; replace hC := hC.next hB2; obtain ⟨f0, f1, f2, f3, f4, g0, g3, g4⟩ := hC.cells))
    go_cut [] from 10 to 21 (fun wx => ∃ a k a' k' a'' k'', Qn.C w wx B (.slice a (c.1.length : Nat) k) (.int .i64 c.2.1) (.int .i64 c.2.2.1) (.slice a' (c.2.2.2.1.length : Nat) k') (.slice a'' (c.2.2.2.2.length : Nat) k''))
    case first =>
      go_region_with (first
        | (go_at_call 15; refine (H0 _ (by first | exact hC.bel | exact hC.drew.bel) _ _ _ (by first | exact .inl rfl | exact .inr rfl)).mono ?_; rintro en w3 ⟨a5, k5, rfl, hB3⟩; replace hC := (by first | exact hC.next hB3 | exact hC.drew.next hB3); obtain ⟨f0, f1, f2, f3, f4, g0, g3, g4⟩ := hC.cells)
        | (go_at_call 16; refine (H3 _ (by first | exact hC.bel | exact hC.drew.bel)).mono ?_; rintro en w4 ⟨a6, k6, rfl, hB4⟩; replace hC := (by first | exact hC.next hB4 | exact hC.drew.next hB4); obtain ⟨f0, f1, f2, f3, f4, g0, g3, g4⟩ := hC.cells))
      all_goals go_wp2_with fail
      all_goals go_meet
      all_goals exact ⟨_, _, _, _, _, _, hC.three (Nat.le_of_eq hB) _ _ _⟩
    case rest =>
      obtain ⟨a5, k5, a6, k6, a7, k7, hC⟩ := hcut
      clear hrng HV H0 H3
      obtain ⟨f0, f1, f2, f3, f4, g0, g3, g4⟩ := hC.cells
      have hrng := hC.box.range
      have inT : (Tryz.prog.info? 40).map (fun i => (i.zero, i.size, i.bytes)) = some (some (.slice none 0 0), 1, 24) := by kernel_rfl
      have inB : (Tryz.prog.info? 4).map (fun i => (i.zero, i.size, i.bytes)) = some (some (.bool false), 1, 1) := by kernel_rfl
      have mkT := run_make_row' (P := Tryz.prog) 52 40 (.slice none 0 0) 24 Tryz.underlying52 inT rfl .i64 .i64 c.1.length (by omega) (by omega)
      have mkB := run_make_row' (P := Tryz.prog) 53 4 (.bool false) 1 Tryz.underlying53 inB rfl .i64 .i64 c.1.length (by omega) (by omega)
      have mkM : ∀ w : World, Sem.run Tryz.prog (Instr.makeMap 54 none) w = .ok (.map (some w.heap.size)) (w.alloc (.map #[] 0)) := fun w => by simp [Instr.makeMap, Result.andThen]
      go_upto_region 5 with fail
      go_cut [5] from 25 to 34 (fun m wx => ∃ b g j, m = .pointer (some ⟨b, 0, none⟩) ∧ Qn.L w wx b g j c.1.length 0 ∧ wx.cell? ⟨B, 1, none⟩ = some (.int .i64 c.2.1))
      case first =>
        have e0 := World.new_ne wc _ f0
        have e1 := World.new_ne wc _ f1
        have e2 := World.new_ne wc _ f2
        have e3 := World.new_ne wc _ f3
        have e4 := World.new_ne wc _ f4
        go_region_held3 (fun w' => w'.cell? ⟨B, 0, none⟩ = some (.slice a5 (c.1.length : Nat) k5) ∧ w'.cell? ⟨B, 1, none⟩ = some (.int .i64 c.2.1) ∧ w'.cell? ⟨B, 2, none⟩ = some (.int .i64 c.2.2.1) ∧ w'.cell? ⟨B, 3, none⟩ = some (.slice a6 (c.2.2.2.1.length : Nat) k6) ∧ w'.cell? ⟨B, 4, none⟩ = some (.slice a7 (c.2.2.2.2.length : Nat) k7)) (first | exact Qn.s5 hC.box rfl | exact Qn.s5 (hC.box.alloc _) rfl | exact Qn.s5 ((hC.box.alloc _).alloc _) rfl | exact Qn.s5 (((hC.box.alloc _).alloc _).alloc _) rfl | exact Qn.s5 ((((hC.box.alloc _).alloc _).alloc _).alloc _) rfl | exact Qn.s5 (((((hC.box.alloc _).alloc _).alloc _).alloc _).alloc _) rfl) (fail)
        all_goals go_wp2_with fail
        all_goals go_meet
        all_goals refine ⟨_, _, _, rfl, Qn.begin hC (by omega) (by omega) (by omega) (by omega) (by omega) (by first | exact Qn.at0 | exact Qn.at1 | exact Qn.at2 | exact Qn.at3) (by first | exact Qn.at0 | exact Qn.at1 | exact Qn.at2 | exact Qn.at3)⟩
      case rest =>
        obtain ⟨b, g, j, rfl, hL, f1⟩ := hcut
        clear mkT mkB mkM inT inB f0 f2 f3 f4 g0 g3 g4 hrng hC
        go_wp2
        go_loopw [37] (fun i wr => ∃ k : Nat, (k : Int) ≤ c.2.1 ∧ i = .int .i64 (k : Int) ∧ Qn.L w wr b g j c.1.length k) (fun i _ => (c.2.1 - RowKit.intOf i).toNat)
        case atStart => exact ⟨0, by omega, rfl, hL⟩
        case round =>
          obtain ⟨k, hk, rfl, hL⟩ := hrel
          by_cases hlt : (k : Int) < c.2.1
          · have hk0 : (0 : Int) ≤ (k : Int) := by omega
            have hkn : (k : Int) < (c.1.length : Int) := by omega
            have hkm : k < c.1.length := by omega
            obtain ⟨q0, q1, q2, q3, q4, x6, x9, hr⟩ := hL.row
            obtain ⟨cs, hm, hm1, hm2⟩ := hL.mem
            obtain ⟨cj, hj, hj1⟩ := hL.joi
            have r7 := hr.cell 7
            have r8 := hr.cell 8
            simp only [List.getElem?_toArray] at r7 r8
            have c1 : wr.cell? ⟨g, k, none⟩ = some (.bool (decide (k < k))) := by rw [hm.cell]; exact hm2 k hkm
            obtain ⟨vj, c2⟩ : ∃ v, wr.cell? ⟨j, k, none⟩ = some v := ⟨_, by rw [hj.cell]; exact Array.getElem?_eq_getElem (by omega)⟩
            have z1 := hm.frozen k
            have z2 := hj.frozen k
            have ngj := hL.gj
            have njg : ¬ j = g := Ne.symm hL.gj
            have nbg := hL.bg
            have nbj := hL.bj
            have ngb : ¬ g = b := Ne.symm hL.bg
            have njb : ¬ j = b := Ne.symm hL.bj
            clear hr hm hm2 hj
            go_wp2
            go_region
            all_goals go_wp2
            all_goals exact ⟨⟨k + 1, by omega, by congr 1, by first | exact hL.set hkm | exact hL.drew.set hkm | exact (hL.set hkm).drew⟩, by simp [RowKit.intOf]; omega⟩
          · have hks : c.2.1 = (k : Int) := by omega
            go_wp2
            refine bodyPost_ret (results_tmp2 rfl _ _ _) rfl ?_
            exact ⟨hL.bel, .inr ⟨HVC.out, b, g, rfl, hL.fin hks⟩⟩
end Go.AL
