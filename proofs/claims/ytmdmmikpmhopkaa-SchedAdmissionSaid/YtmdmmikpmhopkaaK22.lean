/-
  Layer 30 (sched): SchedAdmission holds. By an AI agent.
-/
import Derived.Test.YtmdmmikpmhopkaaK20
import Derived.Test.YtmdmmikpmhopkaaK21
namespace Go.AL
open Go.Proofs
set_option linter.unusedVariables false
set_option linter.unusedSimpArgs false
set_option maxHeartbeats 4000000
abbrev PJ := Int × Int × Int × Int × Bool × Int
theorem any_pj (id : Int) (l : List SDs) : l.any (fun d => decide (d.1 = id)) = (l.map pj).any (fun q => decide (q.1 = id)) := by
  rw [List.any_map]; rfl
theorem sad_2 {id p b : Int} {n : Nat} (hpn : p = ((n : Nat) : Int)) (h0 : 0 ≤ id) (h1 : id < 32) (hp : perB p = true) (hb : 1 ≤ b) (hb2 : b ≤ p) {QA QB : List PJ} (hw : ∀ q ∈ QA ++ QB, q.2.1 = 0 ∧ q.2.2.2.2.1 = false ∧ q.1 ≠ id) (hsum : sumQ (QA ++ (id, 0, p, b, true, p) :: QB) ≤ 1024) :
    ∀ (rest : Nat) (s : SSd) (i : Nat), i + rest = n → s.1 = ((i : Nat) : Int) → s.2.1 = 0 → valS s = true → (i < n → s.2.2.map pj = QA ++ (id, 0, p, b, true, p) :: QB) → (i = n → s.2.2.map pj = QA ++ QB) →
      F_sad_2 rest (s, id, p, b, 0, 56, i) = true ∧ P_sad_2 rest (s, id, p, b, 0, 56, i) = true
  | 0, s, i, hi, hs, hz, hv, _, hq => by
    have pr := perB_rng hp
    have hq := hq (by omega)
    obtain ⟨a1, a2, a3⟩ := add_rt hv (by omega) h0 h1 hp hb hb2
    have hany : s.2.2.any (fun d => decide (d.1 = id)) = false := by
      rw [any_pj, hq, List.any_eq_false]
      intro q hm
      simpa using (hw q hm).2.2
    have hu : decide (utS s.2.2 + b * (1024 / p) > 1024) = false := decide_eq_false (by
      rw [utS_pj, hq, sumQ_app]
      rw [sumQ_app] at hsum
      have : sumQ ((id, 0, p, b, true, p) :: QB) = b * (1024 / p) + sumQ QB := rfl
      omega)
    rw [hany, hu] at a3
    refine ⟨?_, val_ok hv⟩
    simp only [F_sad_2, a3, cond_false]
    rfl
  | rest + 1, s, i, hi, hs, hz, hv, hq, _ => by
    have pr := perB_rng hp
    have hq := hq (by omega)
    have hW : ∀ d ∈ s.2.2, dW d = 0 := fun d hd => by
      have hm : pj d ∈ s.2.2.map pj := List.mem_map.2 ⟨d, hd, rfl⟩
      rw [hq] at hm
      rcases List.mem_append.1 hm with hm | hm
      · exact (hw _ (List.mem_append_left _ hm)).1
      · rcases List.mem_cons.1 hm with hm | hm
        · have := congrArg (fun q : PJ => q.2.1) hm; exact this
        · exact (hw _ (List.mem_append_right _ hm)).1
    obtain ⟨t1, t2, t3, t4, t5⟩ := tck_pj hv (by omega) (by omega) hW
    have keep : ∀ l : List PJ, (∀ q ∈ l, q ∈ QA ++ QB) → l.filter (fun q => !goneQ (s.1 + 1) q) = l := fun l hl => List.filter_eq_self.2 fun q hq => by
      unfold goneQ
      rw [(hw q (hl q hq)).2.1, Bool.and_false, Bool.false_and]; rfl
    have kA := keep QA (fun q h => List.mem_append_left _ h)
    have kB := keep QB (fun q h => List.mem_append_right _ h)
    obtain ⟨j1, j2⟩ := sad_2 hpn h0 h1 hp hb hb2 hw hsum rest (tckS s).1 (i + 1) (by omega) (by rw [t3, hs]; rfl) (by rw [t4, hz]) t2 (fun hlt => by
        rw [t5, hq, List.filter_append, kA, List.filter_cons, kB]
        have : goneQ (s.1 + 1) (id, 0, p, b, true, p) = false := by
          unfold goneQ
          simp only [decide_true, Bool.true_and]
          exact decide_eq_false (by omega)
        rw [this]; rfl) (fun heq => by
        rw [t5, hq, List.filter_append, kA, List.filter_cons, kB]
        have : goneQ (s.1 + 1) (id, 0, p, b, true, p) = true := by
          unfold goneQ
          simp only [decide_true, Bool.true_and]
          exact decide_eq_true (by omega)
        rw [this]; rfl)
    simp only [F_sad_2, P_sad_2, t1, j1, j2, val_ok hv]
    exact ⟨rfl, rfl⟩
def pB (u : Int) : Int := IntKind.i64.wrap (1 * 2 ^ min (IntKind.u64.wrap (plc (u, 11))).toNat IntKind.i64.bits)
def bB (v p : Int) : Int := IntKind.i64.wrap (1 + plc (v, p))
theorem pB_ok (u : Int) : perB (pB u) = true ∧ decide (0 ≤ IntKind.u64.wrap (plc (u, 11))) = true := by
  have h1 : 0 ≤ plc (u, 11) := Int.emod_nonneg u (show (11 : Int) ≠ 0 by decide)
  have h2 : plc (u, 11) < 11 := Int.emod_lt_of_pos u (show (0 : Int) < 11 by decide)
  unfold pB
  generalize plc (u, 11) = e at *
  obtain ⟨n, rfl⟩ : ∃ n : Nat, e = ((n : Nat) : Int) := ⟨e.toNat, by omega⟩
  have key : ∀ n : Fin 11, (perB (IntKind.i64.wrap (1 * 2 ^ min (IntKind.u64.wrap ((n.val : Nat) : Int)).toNat IntKind.i64.bits)) && decide (0 ≤ IntKind.u64.wrap ((n.val : Nat) : Int))) = true := by decide +kernel
  exact Bool.and_eq_true_iff.1 (key ⟨n, by omega⟩)
theorem bB_ok {p : Int} (hp : perB p = true) (v : Int) : 1 ≤ bB v p ∧ bB v p ≤ p ∧ plcPre (v, p) = true := by
  have pr := perB_rng hp
  have h1 : 0 ≤ plc (v, p) := Int.emod_nonneg _ (by omega)
  have h2 : plc (v, p) < p := Int.emod_lt_of_pos _ (by omega)
  have : bB v p = 1 + plc (v, p) := i64_id (by omega) (by omega)
  refine ⟨by omega, by omega, ?_⟩
  simp only [plcPre, Bool.and_eq_true, decide_eq_true_eq]
  omega
structure AdI (ps bs : List Int) (s : SSd) (load : Int) (ins : List Int) (i : Nat) : Prop where
  v : valS s = true
  now : s.1 = 0
  vir : s.2.1 = 0
  ld : utS s.2.2 = load
  rt : ∀ d ∈ s.2.2, dW d = 0 ∧ dRem d = false ∧ d.1 < ((i : Nat) : Int) ∧ dDl d = dPer d
  ins : ∀ j ∈ ins, ∃ m : Nat, j = ((m : Nat) : Int) ∧ m < i ∧ ∃ d ∈ s.2.2, d.1 = j ∧ dPer d = pB (ps.getD m 0) ∧ dBud d = bB (bs.getD m 0) (pB (ps.getD m 0))
theorem opn_found {id : Int} : ∀ {l : List SDs} {k : Nat} {d : SDs}, d ∈ l → d.1 = id → dRem d = false → decide (opnI id l k < 0) = false
  | [], k, d, hd, _, _ => absurd hd (List.not_mem_nil)
  | e :: r, k, d, hd, h1, h2 => by
    rw [opnI]
    cases hc : decide (e.1 = id) && !dRem e with
    | true => exact decide_eq_false (by show ¬ ((k : Nat) : Int) < 0; omega)
    | false =>
      rcases List.mem_cons.1 hd with rfl | hd
      · rw [decide_eq_true h1, h2] at hc; cases hc
      · exact opn_found hd h1 h2
theorem srt_uniq : ∀ {l : List SDs} {d e : SDs}, l.Pairwise (fun a b => a.1 < b.1) → d ∈ l → e ∈ l → d.1 = e.1 → d = e
  | [], d, e, _, hd, _, _ => absurd hd (List.not_mem_nil)
  | x :: l, d, e, h, hd, he, heq => by
    rw [List.pairwise_cons] at h
    rcases List.mem_cons.1 hd with h1 | h1
    · rcases List.mem_cons.1 he with h2 | h2
      · rw [h1, h2]
      · have := h.1 e h2; rw [h1] at heq; omega
    · rcases List.mem_cons.1 he with h2 | h2
      · have := h.1 d h1; rw [h2] at heq; omega
      · exact srt_uniq h.2 h1 h2 heq
theorem sad_core {s : SSd} {id p b : Int} {d : SDs} (hv : valS s = true) (hn0 : s.1 = 0) (hz0 : s.2.1 = 0) (hrt : ∀ d ∈ s.2.2, dW d = 0 ∧ dRem d = false ∧ dDl d = dPer d) (hd : d ∈ s.2.2) (e1 : d.1 = id) (e2 : dPer d = p) (e3 : dBud d = b) (hp : perB p = true) (hb1 : 1 ≤ b) (hb2 : b ≤ p) :
    ∃ s1, chgS s id remF = (s1, 0) ∧ okD s1 = true ∧ (addS (s1, id, 0, p, b)).2 = 56 ∧ F_sad_2 p.toNat (s1, id, p, b, 0, 56, 0) = true ∧ P_sad_2 p.toNat (s1, id, p, b, 0, 56, 0) = true := by
  obtain ⟨r1, r2, r4⟩ := hrt d hd
  have ho := opn_found (k := 0) hd e1 r2
  have V := (valS_iff s).1 hv
  obtain ⟨A, d', B, l1, l2, l3, l4, vd, hg, hs, ht, hdr, _, _⟩ := chg_cases hv ho
  have hd' : d' = d := srt_uniq V.srt (by rw [l1]; simp) hd (by rw [l3, e1])
  subst hd'
  have hid := vdi_id vd
  rw [e1] at hid
  have hrem : (remF d').1 = [(dId d', dW d', dPer d', dBud d', dBlk d', false, true, dDl d', dLft d', dPas d', [])] := by
    unfold remF; rw [decide_eq_true r1]; rfl
  have hrem2 : (remF d').2 = 0 := by unfold remF; rw [decide_eq_true r1]; rfl
  have hchg : chgS s id remF = ((s.1, s.2.1, A ++ (remF d').1 ++ B), 0) := by
    unfold chgS
    rw [hv, ho, l2, Int.toNat_natCast, hg, ht, hdr, hrem2]; rfl
  have hv1 := chg_val (s := s) (id := id) (f := remF) (fun d _ _ h _ => rem_ok h) (by rw [hchg])
  rw [hchg] at hv1
  rw [hrem] at hv1 hchg
  have pr := perB_rng hp
  obtain ⟨a1, a2, a3⟩ := add_rt hv1.1 (by rw [hn0]; decide) hid.1 hid.2 hp hb1 hb2
  have hany : (A ++ [(dId d', dW d', dPer d', dBud d', dBlk d', false, true, dDl d', dLft d', dPas d', ([] : List Int))] ++ B).any (fun d => decide (d.1 = id)) = true := by
    rw [List.any_append, List.any_append]
    have : decide (d'.1 = id) = true := decide_eq_true e1
    simp [this]
  rw [hany] at a3
  have hsrt := V.srt
  rw [l1, List.pairwise_append] at hsrt
  have hs2 := List.pairwise_cons.1 hsrt.2.1
  have hu := V.ut
  rw [l1, utS_app] at hu
  have hu2 : utS A + (shD d' + utS B) ≤ 1024 := hu
  have hsh : shD d' = b * (1024 / p) := by
    unfold shD; rw [decide_eq_true r1, cond_true, e2, e3]
  have hpj : pj (dId d', dW d', dPer d', dBud d', dBlk d', false, true, dDl d', dLft d', dPas d', []) = (id, 0, p, b, true, p) := by
    unfold pj
    show (d'.1, dW d', dPer d', dBud d', true, dDl d') = _
    rw [r1, r4, e2, e3, e1]
  obtain ⟨f1, f2⟩ := sad_2 (n := p.toNat) (by omega) hid.1 hid.2 hp hb1 hb2 (QA := A.map pj) (QB := B.map pj) (fun q hq => by
      rw [← List.map_append] at hq
      obtain ⟨e, he, rfl⟩ := List.mem_map.1 hq
      have hel : e ∈ s.2.2 := by
        rw [l1]
        rcases List.mem_append.1 he with he | he
        · exact List.mem_append_left _ he
        · exact List.mem_append_right _ (List.mem_cons_of_mem _ he)
      obtain ⟨g1, g2, _⟩ := hrt e hel
      refine ⟨g1, g2, ?_⟩
      show e.1 ≠ id
      rcases List.mem_append.1 he with he | he
      · have := hsrt.2.2 e he d' (List.mem_cons_self ..); omega
      · have := hs2.1 e he; omega) (by
      rw [sumQ_app, ← utS_pj]
      show utS A + (b * (1024 / p) + sumQ (B.map pj)) ≤ 1024
      rw [← utS_pj, ← hsh]; exact hu2) p.toNat (s.1, s.2.1, A ++ [(dId d', dW d', dPer d', dBud d', dBlk d', false, true, dDl d', dLft d', dPas d', [])] ++ B) 0 (by omega) hn0 hz0 hv1.1 (fun _ => by
      rw [List.map_append, List.map_append, List.append_assoc, List.map_singleton, hpj]; rfl) (fun h => by omega)
  exact ⟨_, hchg, val_ok hv1.1, by rw [a3]; rfl, f1, f2⟩
theorem sad_end {ps bs : List Int} {drop : Int} {s : SSd} {load : Int} {ins : List Int} {i : Nat} (J : AdI ps bs s load ins i) (hi : i ≤ ps.length) (hp30 : ps.length ≤ 30) (hbs : ps.length ≤ bs.length) (hil : ins.length ≤ 30) :
    F_sad_0 [] (ps, bs, drop, s, load, ins, i) = true ∧ P_sad_0 [] (ps, bs, drop, s, load, ins, i) = true := by
  by_cases hz : ins.length = 0
  · have : (((ins.length : Nat) : Int) == 0) = true := by rw [hz]; rfl
    simp only [F_sad_0, P_sad_0, this, cond_true]
    exact ⟨trivial, trivial⟩
  · have hne : (((ins.length : Nat) : Int) == 0) = false := beq_eq_false_iff_ne.2 (by omega)
    have hpre : plcPre (drop, ((ins.length : Nat) : Int)) = true := by
      simp only [plcPre, Bool.and_eq_true, decide_eq_true_eq]; omega
    have k1 : 0 ≤ plc (drop, ((ins.length : Nat) : Int)) := Int.emod_nonneg _ (by show ((ins.length : Nat) : Int) ≠ 0; omega)
    have k2 : plc (drop, ((ins.length : Nat) : Int)) < ((ins.length : Nat) : Int) := Int.emod_lt_of_pos _ (by show (0 : Int) < ((ins.length : Nat) : Int); omega)
    have hmem : ins.getD (plc (drop, ((ins.length : Nat) : Int))).toNat 0 ∈ ins := by
      rw [List.getD_eq_getElem?_getD, List.getElem?_eq_getElem (show (plc (drop, ((ins.length : Nat) : Int))).toNat < ins.length by omega)]
      exact List.getElem_mem _
    have q1 : decide (0 ≤ plc (drop, ((ins.length : Nat) : Int))) = true := decide_eq_true k1
    have q2 : decide (plc (drop, ((ins.length : Nat) : Int)) < ((ins.length : Nat) : Int)) = true := decide_eq_true k2
    obtain ⟨m, hj, hm, d, hd, e1, e2, e3⟩ := J.ins _ hmem
    have hpb := pB_ok (ps.getD m 0)
    have hbb := bB_ok hpb.1 (bs.getD m 0)
    obtain ⟨s1, c1, c2, c3, c4, c5⟩ := sad_core J.v J.now J.vir (fun d hd => ⟨(J.rt d hd).1, (J.rt d hd).2.1, (J.rt d hd).2.2.2⟩) hd e1 e2 e3 hpb.1 hbb.1 hbb.2.1
    have fold : ∀ u, IntKind.i64.wrap (1 * 2 ^ min (IntKind.u64.wrap (plc (u, 11))).toNat IntKind.i64.bits) = pB u := fun _ => rfl
    have foldb : ∀ v p, IntKind.i64.wrap (1 + plc (v, p)) = bB v p := fun _ _ => rfl
    have pr := perB_rng hpb.1
    have o1 : decide ((0 : Int) ≤ ((m : Nat) : Int)) = true := decide_eq_true (by omega)
    have o2 : decide (((m : Nat) : Int) < ((ps.length : Nat) : Int)) = true := decide_eq_true (by omega)
    have o3 : decide (((m : Nat) : Int) < ((bs.length : Nat) : Int)) = true := decide_eq_true (by omega)
    have o4 : decide (pB (ps.getD m 0) ≤ 1099511627776) = true := decide_eq_true (by omega)
    have o5 : (pB (ps.getD m 0) - ((0 : Nat) : Int)).toNat = (pB (ps.getD m 0)).toNat := by simp
    have o6 : (pB (ps.getD m 0) - 0).toNat = (pB (ps.getD m 0)).toNat := by simp
    simp only [F_sad_0, P_sad_0, hne, cond_false, fold, foldb, hpre, q1, q2]
    rw [hj] at c1 c3 c4 c5 ⊢
    simp only [Int.toNat_natCast, hpb.2, hbb.2.2, o1, o2, o3, o4, o5, o6, c1, c2, c3, c4, c5, val_ok J.v, Bool.and_self]
    exact ⟨trivial, trivial⟩
theorem sad_0 {ps bs : List Int} {drop : Int} (hp30 : ps.length ≤ 30) (hbs : ps.length ≤ bs.length) : ∀ (rest : List Int) (s : SSd) (load : Int) (ins : List Int) (i : Nat), ps.drop i = rest → i ≤ ps.length → ins.length ≤ i → AdI ps bs s load ins i →
    F_sad_0 rest (ps, bs, drop, s, load, ins, i) = true ∧ P_sad_0 rest (ps, bs, drop, s, load, ins, i) = true
  | [], s, load, ins, i, hd, hi, hil, J => sad_end J hi hp30 hbs (by omega)
  | u :: rest, s, load, ins, i, hd, hi, hil, J => by
    obtain ⟨hik, hg, hd2⟩ := drop_get2 (0 : Int) hd
    have hpb := pB_ok u
    have fold : ∀ u, IntKind.i64.wrap (1 * 2 ^ min (IntKind.u64.wrap (plc (u, 11))).toNat IntKind.i64.bits) = pB u := fun _ => rfl
    have foldb : ∀ v p, IntKind.i64.wrap (1 + plc (v, p)) = bB v p := fun _ _ => rfl
    simp only [F_sad_0, P_sad_0, fold, foldb, Int.toNat_natCast]
    have hbb := bB_ok hpb.1 (bs.getD i 0)
    obtain ⟨p, hp⟩ : ∃ p, p = pB u := ⟨_, rfl⟩
    obtain ⟨b, hb⟩ : ∃ b, b = bB (bs.getD i 0) p := ⟨_, rfl⟩
    rw [← hp] at hpb hbb ⊢
    rw [← hb] at hbb ⊢
    have pr := perB_rng hpb.1
    have V := (valS_iff s).1 J.v
    have hut := V.ut
    have hu0 : 0 ≤ load := by
      rw [← J.ld]
      have : ∀ l : List SDs, (∀ d ∈ l, vdiS (d, s.1, s.2.1) = true) → 0 ≤ utS l := by
        intro l
        induction l with
        | nil => intro _; exact Int.le_refl _
        | cons d r ih => intro h; have h1 := ih (fun e he => h e (List.mem_cons_of_mem _ he)); have h2 := (shD_rng (vdi_rt (h d (List.mem_cons_self ..)))).1; show 0 ≤ shD d + utS r; omega
      exact this _ V.all
    have hq : Int.tdiv 1024 p = 1024 / p := Int.tdiv_eq_ediv_of_nonneg (by omega)
    have hq1 : 0 ≤ 1024 / p := Int.ediv_nonneg (by omega) (by omega)
    have hq2 : 1024 / p ≤ 1024 := Int.ediv_le_self _ (by omega)
    have hm1 : 0 ≤ b * (1024 / p) := Int.mul_nonneg (by omega) hq1
    have hm2 : b * (1024 / p) ≤ 1024 * 1024 := Int.mul_le_mul (by omega) hq2 hq1 (by omega)
    have w1 : IntKind.i64.wrap (Int.tdiv 1024 p) = 1024 / p := by rw [hq]; exact i64_id (by omega) (by omega)
    have w2 : IntKind.i64.wrap (b * (1024 / p)) = b * (1024 / p) := i64_id (by omega) (by omega)
    have hl2 : load ≤ 1024 := by rw [← J.ld]; exact hut
    have w3 : IntKind.i64.wrap (load + b * (1024 / p)) = load + b * (1024 / p) := i64_id (by omega) (by omega)
    obtain ⟨a1, a2, a3⟩ := add_rt J.v (by rw [J.now]; decide) (id := ((i : Nat) : Int)) (by omega) (by omega) hpb.1 hbb.1 hbb.2.1
    have hany : s.2.2.any (fun d => decide (d.1 = ((i : Nat) : Int))) = false := by
      rw [List.any_eq_false]
      intro d hd
      have := (J.rt d hd).2.2.1
      simp; omega
    rw [hany, J.ld, cond_false] at a3
    have o1 : decide (((i : Nat) : Int) < ((bs.length : Nat) : Int)) = true := decide_eq_true (by omega)
    have o2 : (p != 0) = true := by rw [bneD, decide_eq_false (show ¬ p = 0 by omega)]; rfl
    simp only [w1, w2, w3, hpb.2, hbb.2.2, o1, o2, val_ok J.v, Bool.true_and]
    cases hf : decide (load + b * (1024 / p) > 1024) with
    | true =>
      have hnf : decide (load + b * (1024 / p) ≤ 1024) = false := decide_eq_false (by have := of_decide_eq_true hf; omega)
      rw [hf, cond_true] at a3
      have J2 : AdI ps bs s load ins (i + 1) := ⟨J.v, J.now, J.vir, J.ld, fun d hd => by
          obtain ⟨x1, x2, x3, x4⟩ := J.rt d hd
          exact ⟨x1, x2, by omega, x4⟩, fun j hj => by
          obtain ⟨m, y1, y2, y3⟩ := J.ins j hj
          exact ⟨m, y1, by omega, y3⟩⟩
      obtain ⟨j1, j2⟩ := sad_0 hp30 hbs rest s load ins (i + 1) hd2 (by omega) (by omega) J2
      simp only [a3, hnf]
      exact ⟨j1, j2⟩
    | false =>
      have hnf : decide (load + b * (1024 / p) ≤ 1024) = true := decide_eq_true (by have := of_decide_eq_false hf; omega)
      rw [hf, cond_false] at a3
      have hav := add_val (s, ((i : Nat) : Int), 0, p, b) (by rw [a3])
      rw [a3] at hav
      have hgp : ps.getD i 0 = u := hg
      have J2 : AdI ps bs (s.1, s.2.1, insL (newDs s ((i : Nat) : Int) 0 p b) s.2.2) (load + b * (1024 / p)) (ins ++ [((i : Nat) : Int)]) (i + 1) := by
        refine ⟨hav.1, J.now, J.vir, by show utS (insL _ s.2.2) = _; rw [utS_ins, J.ld, a2], fun d hd => ?_, fun j hj => ?_⟩
        · rcases ins_mem.1 hd with rfl | hd
          · refine ⟨rfl, rfl, by show ((i : Nat) : Int) < _; omega, ?_⟩
            show (bif decide ((0 : Int) = 0) && perB p then s.1 + p else 0) = p
            rw [hpb.1, J.now]; simp
          · obtain ⟨x1, x2, x3, x4⟩ := J.rt d hd
            exact ⟨x1, x2, by omega, x4⟩
        · rcases List.mem_append.1 hj with hj | hj
          · obtain ⟨m, y1, y2, d, y3, y4⟩ := J.ins j hj
            exact ⟨m, y1, by omega, d, ins_mem.2 (.inr y3), y4⟩
          · rw [List.mem_singleton.1 hj]
            refine ⟨i, rfl, by omega, newDs s ((i : Nat) : Int) 0 p b, ins_mem.2 (.inl rfl), rfl, ?_, ?_⟩
            · show p = pB (ps.getD i 0)
              rw [hgp, hp]
            · show b = bB (bs.getD i 0) (pB (ps.getD i 0))
              rw [hgp, ← hp, hb]
      obtain ⟨j1, j2⟩ := sad_0 hp30 hbs rest _ (load + b * (1024 / p)) (ins ++ [((i : Nat) : Int)]) (i + 1) hd2 (by omega) (by simp; omega) J2
      have o8 : decide ((ins.length + 1) * 8 ≤ 140737488355328) = true := decide_eq_true (by omega)
      simp only [a3, hnf, o8, Bool.true_and]
      exact ⟨j1, j2⟩
theorem sad_both (ps bs : List Int) (drop : Int) : F_sad (ps, bs, drop) = true ∧ P_sad (ps, bs, drop) = true := by
  simp only [F_sad, P_sad]
  cases h1 : decide (((ps.length : Nat) : Int) > 30) with
  | true => exact ⟨rfl, rfl⟩
  | false =>
    cases h2 : decide (((bs.length : Nat) : Int) < ((ps.length : Nat) : Int)) with
    | true => exact ⟨rfl, rfl⟩
    | false =>
      have h1 := of_decide_eq_false h1
      have h2 := of_decide_eq_false h2
      obtain ⟨j1, j2⟩ := sad_0 (ps := ps) (bs := bs) (drop := drop) (by omega) (by omega) ps (0, 0, []) 0 [] 0 rfl (by omega) (Nat.le_refl _) ⟨by decide +kernel, rfl, rfl, rfl, fun d hd => absurd hd List.not_mem_nil, fun d hd => absurd hd List.not_mem_nil⟩
      simp only [cond_false, j1, j2]
      exact ⟨trivial, by simp; omega⟩
theorem sad_true : ∀ a : List Int × List Int × Int, ∃ f, M_sad f a = some true := fun (ps, bs, drop) => by
  have h := sad_auto (ps, bs, drop) (sad_both ps bs drop).2
  rw [(sad_both ps bs drop).1] at h
  exact h
end Go.AL
