/-
  ForestGrows: the plain law. By an AI agent.
-/
import Derived.Test.YteppokgkagjklaaH9
namespace Go.AL
open Go.Proofs
set_option linter.unusedVariables false
set_option linter.unusedSimpArgs false
theorem retS_one {src : SCp} {ob bits lev wid off : Int} (h : (retS (src, ob, bits, lev, wid, off, 1)).2 = 0) : (retS (src, ob, bits, lev, wid, off, 1)).1.length = 1 := by
  simp only [retS] at h ⊢
  cases h1 : (!vcapB src || !decide (src.1 = 1))
  case true => rw [h1] at h; cases h
  cases h2 : and2 src.2.2.2.1
  case true => rw [h1, h2] at h; cases h
  cases h3 : (!sizB (ob, bits) || (decide (ob = 3) && !levB (wid, lev) || (decide ((1 : Int) < 1) || (decide ((1 : Int) > 8) || decide (off < 0)))))
  case true => rw [h1, h2, h3] at h; cases h
  cases h4 : (src.2.2.2.2.2.2 && (!decide (ob = 1) && !decide (ob = 2)))
  case true => rw [h1, h2, h3, h4] at h; cases h
  cases h5 : (!decide (Int.tmod off (p2 bits) = 0) || (decide (off > p2 src.2.2.1) || (decide (1 * p2 bits > p2 src.2.2.1 - off) || decide (ob = 1) && decide (bits ≥ src.2.2.1))))
  case true => rw [h1, h2, h3, h4, h5] at h; cases h
  simp only [cond_false]
  rw [retCaps_len]; rfl
theorem chl_err {l : List SEn} (hv : Vf 40 l) {s : SEn} (hs : s ∈ l) {c : SCp} (hc : vcapB c = true) (h : (chlS (s.2.2, (7, 99, 0), c)).2 ≠ 0) : (chlS (s.2.2, (7, 99, 0), c)).2 = 9 := by
  have a1 : vnodB s.2.2 = true := hv.node s hs
  have a2 : vidB (7, 99, 0) = true := rfl
  have a3 : decide (((7, 99, 0) : SId) = nid s.2.2) = false := decide_eq_false (fun hh => by
    have := hv.idc s hs
    have b := (hv.cs s hs).1
    rw [show eid s = nid s.2.2 from rfl, ← hh] at this; simp only at this; omega)
  have a4 : memD ((7, 99, 0) : SId) (npath s.2.2) = false := by
    rw [memD_not]; intro hh
    have := (hv.ops s hs).2 _ hh
    simp only at this; omega
  simp only [chlS, a1, a2, a3, a4, hc, Bool.not_true, Bool.or_self, cond_false] at h ⊢
  cases hd : decide ((npath s.2.2).length = 8)
  · rw [hd] at h; exact absurd rfl h
  · rfl
theorem grw_core {l : List SEn} (hv : Vf 40 l) {s : SEn} (hs : s ∈ l) {caps : List SCp} (ro : RetOk (ecap s) caps) {c : SCp} (hc : c ∈ caps) (hcn : cnfS (l, eid s, caps) = false) (hk : (chlS (s.2.2, (7, 99, 0), c)).2 = 0) {e : SEn} (he : e = (7, 0, (chlS (s.2.2, (7, 99, 0), c)).1)) :
    insS (l, e) = (insL e l, true) ∧ Vg (insL e l) ∧ (epath e).length ≤ 8 ∧ memD (7, 99, 0) (desS (insL e l) (eid s)) = true := by
  obtain ⟨c1, c2, c3⟩ := vnod_chl hk
  rw [c1] at he
  have e1 : eid e = (7, 99, 0) := by rw [he]; rfl
  have e2 : epath e = npath s.2.2 ++ [nid s.2.2] := by rw [he]; rfl
  have e3 : ecap e = c := by rw [he]; rfl
  have e4 : e.1 = 7 := by rw [he]
  have e5 : e.2.1 = 0 := by rw [he]
  have e6 : e.2.2 = mkN (7, 99, 0) (npath s.2.2 ++ [nid s.2.2]) c := by rw [he]
  have hn : vnodB e.2.2 = true := by rw [e6]; exact c2
  have hid : ∀ x ∈ l, eid x ≠ eid e := fun x hx hh => by
    have a1 := hv.idc x hx
    have a2 := (hv.cs x hx).1
    rw [hh, e1] at a1; simp only at a1; omega
  have hat : ∀ x ∈ l, ¬ (x.1 = e.1 ∧ x.2.1 = e.2.1) := fun x hx hh => by have a2 := (hv.cs x hx).1; omega
  have hg := vg_of hv
  obtain ⟨u1, u2⟩ := ro.caps c hc
  have u3 := ro.src1
  obtain ⟨f1, f2, x0, f3, f4, f5⟩ := findE_at hs rfl
  have hx0 : x0 = s := vf_uniq hv f3 hs f4
  rw [hx0] at f5
  have hco : ∀ x ∈ l, coexB (ecap x, ecap e) = true := fun x hx => by
    rw [e3]
    have hh := any_false (any_false hcn c hc) x hx
    simp only [hitE, f5, decide_eq_true (show findE l (eid s) ≥ 0 from f1), Bool.true_and, Bool.and_eq_false_imp, Bool.not_eq_false', Bool.and_eq_true, decide_eq_true_eq] at hh
    cases ho : overlaps (rgE x, rgC c)
    · exact (coexB_iff _ _).2 (.inl ho)
    · obtain ⟨g1, g2⟩ := hh ho
      exact (coexB_iff _ _).2 (.inr (.inr (.inl ⟨g1, cont_trans g2 u2⟩)))
  have hanc : ∀ p ∈ l, anc p e := fun p hp k hk => by
    rw [e2] at hk ⊢
    have hrg : rgE e = rgC c := by unfold rgE; rw [e3]
    rw [hrg, e3]
    by_cases hkl : k < (npath s.2.2).length
    · rw [List.getElem?_append_left hkl] at hk
      obtain ⟨a1, a2, a3⟩ := hv.anc p hp s hs k hk
      refine ⟨by rw [a1, List.take_append_of_le_length (by omega)]; rfl, cont_trans a2 u2, ?_⟩
      rcases a3 with a3 | a3
      · exact .inl a3
      · exact .inl (by rw [(sob_rg a3).2]; exact u3)
    · rw [List.getElem?_append_right (by omega)] at hk
      have hk0 : k - (npath s.2.2).length = 0 := by
        rcases Nat.eq_zero_or_pos (k - (npath s.2.2).length) with h | h
        · exact h
        · rw [List.getElem?_eq_none (by simp; omega)] at hk; cases hk
      rw [hk0] at hk
      have hpe : eid p = eid s := by
        have h9 : some (nid s.2.2) = some (eid p) := hk
        exact (Option.some.inj h9).symm
      have := vf_uniq hv hp hs hpe
      subst this
      refine ⟨?_, u2, .inl u3⟩
      rw [show k = (npath p.2.2).length by omega]
      simp; rfl
  have hsr := sorted_insL hg.sorted hid
  refine ⟨(inr_core hid hat).1, ⟨fun x hx => ?_, fun x hx => ?_, hsr, hsr.imp_of_mem (fun {a b} ha hb hl => ?_), hsr.imp_of_mem (fun {a b} ha hb hl => ?_), fun p hp x hx => ?_⟩, vnodB_len hn, ?_⟩
  · rcases mem_insL.1 hx with rfl | hx
    · exact hn
    · exact hg.node x hx
  · rcases mem_insL.1 hx with rfl | hx
    · simp only [csB, e4, e5]; rfl
    · exact hg.cs x hx
  · rcases mem_insL.1 ha with ea | ha2
    · rcases mem_insL.1 hb with eb | hb2
      · rw [ea, eb, less_irrefl] at hl; cases hl
      · rw [ea]; rintro ⟨q1, q2⟩; exact hat b hb2 ⟨q1.symm, q2.symm⟩
    · rcases mem_insL.1 hb with eb | hb2
      · rw [eb]; exact hat a ha2
      · rintro ⟨q1, q2⟩; rw [hv.slots a ha2 b hb2 q1 q2, less_irrefl] at hl; cases hl
  · rcases mem_insL.1 ha with ea | ha2
    · rcases mem_insL.1 hb with eb | hb2
      · rw [ea, eb]; exact coex_refl _
      · rw [ea]; exact coex_symm (hco b hb2)
    · rcases mem_insL.1 hb with eb | hb2
      · rw [eb]; exact hco a ha2
      · exact hv.coex a ha2 b hb2
  · rcases mem_insL.1 hx with ex | hx2
    · rcases mem_insL.1 hp with ep | hp2
      · rw [ex, ep]; exact ancN_self hn
      · rw [ex]; exact ancN_of (hanc p hp2)
    · rcases mem_insL.1 hp with ep | hp2
      · intro k hk
        have h9 := (hv.ops x hx2).2 _ (List.mem_of_getElem? hk)
        have h8 : (eid p).2.1 ≤ 40 := h9
        rw [ep, e1] at h8; simp only at h8; omega
      · exact hg.anc p hp2 x hx2
  · have hin : ((7, 99, 0) : SId) ∈ desS (insL e l) (eid s) := by
      refine List.mem_map.2 ⟨e, List.mem_filter.2 ⟨mem_insL.2 (.inl rfl), ?_⟩, e1⟩
      cases hm : memD (eid s) (epath e)
      · rw [memD_not, e2] at hm
        exact absurd (List.mem_append_right _ (List.mem_singleton.2 rfl)) hm
      · rfl
    cases hm : memD ((7, 99, 0) : SId) (desS (insL e l) (eid s))
    · rw [memD_not] at hm; exact absurd hin hm
    · rfl
theorem grw_true : ∀ a : List SSt × Int × Int × Int × Int, ∃ f, M_grw f a = some true := by
  rintro ⟨steps, which, kind, size, index⟩
  obtain ⟨hv, hlen⟩ := forest_vf steps
  have key : P_grw (steps, which, kind, size, index) = true ∧ F_grw (steps, which, kind, size, index) = true := by
    have hE : okE (forest steps) = true := okE_vf hv (by omega)
    have hF : okF (forest steps) = true := by simp only [okF, Bool.and_eq_true]; exact ⟨decide_eq_true (by omega), hE⟩
    have k6 := place_range kind (s := 6) (by omega)
    have hk : IntKind.i64.wrap (1 + place (kind, 6)) = 1 + place (kind, 6) := i64_id (by omega) (by omega)
    have hk1 : IntKind.i64.wrap (1 + place (kind, 6) - 1) = place (kind, 6) := by rw [i64_id (by omega) (by omega)]; omega
    simp only [P_grw, F_grw, hk, hk1]
    generalize forest steps = l at hv hlen hE hF ⊢
    cases h0 : (((l.length : Nat) : Int) == 0)
    case true => exact ⟨rfl, rfl⟩
    simp only [cond_false]
    have hpos : 0 < l.length := by
      have : ¬ ((l.length : Nat) : Int) = 0 := by simpa using h0
      omega
    have kp := place_range which (s := ((l.length : Nat) : Int)) (by omega)
    have hpp : place_pre (which, ((l.length : Nat) : Int)) = true := decide_eq_true (by show ((l.length : Nat) : Int) ≤ _; omega)
    have hm := place_mem (0, 0, 0, 0, 0, [], 0, 0, 0, 0, 0, 0, false) which hpos
    rw [hpp, decide_eq_true kp.1, decide_eq_true kp.2, decide_eq_true k6.1, decide_eq_true (show place (kind, 6) < (([IntKind.i64.wrap (6 + place (size, 10)), 12, 12, 6, 10, 16].length : Nat) : Int) from k6.2)]
    generalize l.getD (place (which, ((l.length : Nat) : Int))).toNat (0, 0, 0, 0, 0, [], 0, 0, 0, 0, 0, 0, false) = s at hm ⊢
    generalize [IntKind.i64.wrap (6 + place (size, 10)), 12, 12, 6, 10, 16].getD (place (kind, 6)).toNat 0 = bits
    rw [decide_eq_true (u64_nn bits)]
    generalize IntKind.i64.wrap (place (index, 64) * 2 ^ min (IntKind.u64.wrap bits).toNat IntKind.i64.bits) = off
    have ei : ((s.2.2.1, s.2.2.2.1, s.2.2.2.2.1) : SId) = eid s := rfl
    have ec : s.2.2.2.2.2.2 = ecap s := rfl
    rw [ei, ec]
    simp only [Bool.true_and, bneI]
    by_cases hr : (retS (ecap s, 1 + place (kind, 6), bits, 0, 32, off, 1)).2 = 0
    case neg => simp only [decide_eq_false hr, Bool.not_false, cond_true]; exact ⟨trivial, trivial⟩
    simp only [decide_eq_true hr, Bool.not_true, cond_false]
    have ro : RetOk (ecap s) (retS (ecap s, 1 + place (kind, 6), bits, 0, 32, off, 1)).1 := retS_ok hr
    have r1 := retS_one hr
    generalize (retS (ecap s, 1 + place (kind, 6), bits, 0, 32, off, 1)).1 = caps at ro r1 ⊢
    have p1 : cnfPre (l, eid s, caps) = true := by
      simp only [cnfPre, Bool.and_eq_true]; exact ⟨decide_eq_true (by omega), decide_eq_true (by omega)⟩
    rw [hE, p1, decide_eq_true (show (0 : Int) < ((caps.length : Nat) : Int) by omega)]
    cases hcn : cnfS (l, eid s, caps)
    case true => exact ⟨rfl, rfl⟩
    have hcm : caps.getD (Int.toNat 0) (0, 0, 0, 0, 0, 0, false) ∈ caps := by
      rw [List.getD_eq_getElem?_getD, List.getElem?_eq_getElem (by show 0 < caps.length; omega)]
      exact List.getElem_mem _
    generalize caps.getD (Int.toNat 0) (0, 0, 0, 0, 0, 0, false) = c at hcm ⊢
    simp only [Bool.true_and, cond_false]
    by_cases hk : (chlS (s.2.2, (7, 99, 0), c)).2 = 0
    case neg =>
      have h9 := chl_err hv hm (ro.caps c hcm).1 hk
      simp only [h9]; exact ⟨rfl, rfl⟩
    obtain ⟨e, he⟩ : ∃ e : SEn, e = (7, 0, (chlS (s.2.2, (7, 99, 0), c)).1) := ⟨_, rfl⟩
    obtain ⟨g1, g2, g3, g4⟩ := grw_core hv hm ro hcm hcn hk he
    rw [← he]
    have q1 : len40n (epath e) = true := decide_eq_true (by omega)
    have q2 : insPreF (l, e) = true := by simp only [insPreF, Bool.and_eq_true]; exact ⟨hF, q1⟩
    have q3 : okE (insL e l) = true := okE_mk (by rw [len_insL]; omega) (fun x hx => by
      rcases mem_insL.1 hx with rfl | hx
      · exact q1
      · exact okE_mem hE hx)
    have q4 : okF (insL e l) = true := by simp only [okF, Bool.and_eq_true]; exact ⟨decide_eq_true (by rw [len_insL]; omega), q3⟩
    have q5 : len40n (desS (insL e l) (eid s)) = true := decide_eq_true (by
      simp only [desS, List.length_map]
      have := List.length_filter_le (fun x : SEn => memD (eid s) (epath x)) (insL e l)
      rw [len_insL] at this; omega)
    simp only [decide_eq_true hk, g1, q2, q3, q4, q5, (fvalS_iff _).2 g2, g4, Bool.not_true, cond_true, cond_false, Bool.true_and, Bool.and_self]
    exact ⟨trivial, trivial⟩
  have := grw_auto (steps, which, kind, size, index) key.1
  rw [key.2] at this; exact this
end Go.AL
