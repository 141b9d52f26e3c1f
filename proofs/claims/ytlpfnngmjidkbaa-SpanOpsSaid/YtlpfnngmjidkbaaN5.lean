/-
  Layer 33 (span): SpanOps holds. By an AI agent.
-/
import Derived.Test.YtlpfnngmjidkbaaN3
import Derived.Test.YtlpfnngmjidkbaaN4
namespace Go.AL
open Go.Proofs
set_option linter.unusedVariables false
set_option linter.unusedSimpArgs false
set_option maxHeartbeats 4000000
def Tb (t : List SPg) : Prop := t.Pairwise (fun a b => a.1 < b.1) ∧ ∀ e ∈ t, 0 ≤ e.1 ∧ e.1 < 40
theorem tb_len : ∀ (t : List SPg) (lo : Int), t.Pairwise (fun a b => a.1 < b.1) → (∀ e ∈ t, lo ≤ e.1 ∧ e.1 < 40) → lo ≤ 40 → ((t.length : Nat) : Int) ≤ 40 - lo
  | [], lo, _, _, h => by simp only [List.length_nil]; omega
  | u :: t, lo, hp, hr, h => by
    have h1 := hr u (by simp)
    have := tb_len t (u.1 + 1) (List.pairwise_cons.1 hp).2 (fun e he => ⟨by have := (List.pairwise_cons.1 hp).1 e he; omega, (hr e (by simp [he])).2⟩) (by omega)
    simp only [List.length_cons]
    omega
theorem Tb.len {t : List SPg} (h : Tb t) : t.length ≤ 40 := by
  have := tb_len t 0 h.1 h.2 (by omega)
  omega
theorem tb_split (p : Int) : ∀ (t : List SPg), t.Pairwise (fun a b => a.1 < b.1) → (∃ A B, t = A ++ B ∧ (∀ x ∈ A, x.1 < p) ∧ ∀ x ∈ B, p < x.1) ∨ ∃ A e B, t = A ++ e :: B ∧ (∀ x ∈ A, x.1 < p) ∧ e.1 = p ∧ ∀ x ∈ B, p < x.1
  | [], _ => .inl ⟨[], [], rfl, fun x h => (by simp at h), fun x h => (by simp at h)⟩
  | u :: t, hp => by
    obtain ⟨h1, h2⟩ := List.pairwise_cons.1 hp
    by_cases hu : u.1 < p
    · rcases tb_split p t h2 with ⟨A, B, rfl, hA, hB⟩ | ⟨A, e, B, rfl, hA, he, hB⟩
      · exact .inl ⟨u :: A, B, rfl, fun x hx => by rcases List.mem_cons.1 hx with rfl | hx; exact hu; exact hA x hx, hB⟩
      · exact .inr ⟨u :: A, e, B, rfl, fun x hx => by rcases List.mem_cons.1 hx with rfl | hx; exact hu; exact hA x hx, he, hB⟩
    · by_cases he : u.1 = p
      · exact .inr ⟨[], u, t, rfl, fun x h => (by simp at h), he, fun x hx => by have := h1 x hx; omega⟩
      · exact .inl ⟨[], u :: t, rfl, fun x h => (by simp at h), fun x hx => by
          rcases List.mem_cons.1 hx with rfl | hx
          · omega
          · have := h1 x hx; omega⟩
theorem tb_in {A B : List SPg} {x : SPg} {p : Int} (h : Tb (A ++ B)) (hA : ∀ x ∈ A, x.1 < p) (hB : ∀ x ∈ B, p < x.1) (hx : x.1 = p) (h0 : 0 ≤ p) (h1 : p < 40) : Tb (A ++ x :: B) := by
  obtain ⟨p1, p2, p3⟩ := List.pairwise_append.1 h.1
  refine ⟨List.pairwise_append.2 ⟨p1, List.pairwise_cons.2 ⟨fun y hy => by have := hB y hy; omega, p2⟩, fun a ha b hb => ?_⟩, fun e he => ?_⟩
  · rcases List.mem_cons.1 hb with rfl | hb
    · have := hA a ha; omega
    · exact p3 a ha b hb
  · rcases List.mem_append.1 he with he | he
    · exact h.2 e (by simp [he])
    · rcases List.mem_cons.1 he with rfl | he
      · omega
      · exact h.2 e (by simp [he])
theorem tb_out {A B : List SPg} {x : SPg} (h : Tb (A ++ x :: B)) : Tb (A ++ B) := by
  refine ⟨h.1.sublist (by simp), fun e he => h.2 e ?_⟩
  rcases List.mem_append.1 he with he | he <;> simp [he]
theorem vop_map {c n p fr r : Int} (h1 : 0 ≤ c) (h2 : c < 32) (h3 : 0 < n) (h4 : 0 ≤ p) (h5 : p < 40) (h6 : 0 ≤ fr) (h7 : fr ≤ 1099511623680) (h8 : fr.tmod 4096 = 0) (h9 : 0 ≤ r) (h10 : r ≤ 3) : F_vop (c, n, 1, p, fr, r) = true := by
  simp only [F_vop, decide_eq_false (show ¬ c < 0 by omega), decide_eq_false (show ¬ c ≥ 32 by omega), decide_eq_false (show ¬ n ≤ 0 by omega), decide_eq_false (show ¬ p < 0 by omega), decide_eq_false (show ¬ p > 134217727 by omega), decide_eq_true (show r ≥ 0 by omega), decide_eq_true (show r ≤ 3 by omega), decide_eq_true (show fr ≥ 0 by omega), decide_eq_true h7, h8, cond_false]
  rfl
theorem vop_unm {c n p : Int} (h1 : 0 ≤ c) (h2 : c < 32) (h3 : 0 < n) (h4 : 0 ≤ p) (h5 : p < 40) : F_vop (c, n, 2, p, 0, 0) = true := by
  simp only [F_vop, decide_eq_false (show ¬ c < 0 by omega), decide_eq_false (show ¬ c ≥ 32 by omega), decide_eq_false (show ¬ n ≤ 0 by omega), decide_eq_false (show ¬ p < 0 by omega), decide_eq_false (show ¬ p > 134217727 by omega), cond_false]
  rfl
theorem vop_pro {c n p r : Int} (h1 : 0 ≤ c) (h2 : c < 32) (h3 : 0 < n) (h4 : 0 ≤ p) (h5 : p < 40) (h9 : 0 ≤ r) (h10 : r ≤ 3) : F_vop (c, n, 3, p, 0, r) = true := by
  simp only [F_vop, decide_eq_false (show ¬ c < 0 by omega), decide_eq_false (show ¬ c ≥ 32 by omega), decide_eq_false (show ¬ n ≤ 0 by omega), decide_eq_false (show ¬ p < 0 by omega), decide_eq_false (show ¬ p > 134217727 by omega), decide_eq_true (show r ≥ 0 by omega), decide_eq_true (show r ≤ 3 by omega), cond_false]
  rfl
theorem mad_0 (pages : List Int) : ∀ (rest : List Int) (t : List SPg) (i : Nat), Tb t → i + rest.length ≤ 1000 → ∃ t', F_mad_0 rest (pages, t, i) = (t', true) ∧ Tb t' ∧ P_mad_0 rest (pages, t, i) = true
  | [], t, i, ht, hi => ⟨t, rfl, ht, rfl⟩
  | uu :: rest, t, i, ht, hi => by
    simp only [List.length_cons] at hi
    have hp0 : 0 ≤ plc (uu, 40) := Int.emod_nonneg _ (by omega)
    have hp1 : plc (uu, 40) < 40 := Int.emod_lt_of_pos _ (by omega)
    have hw : IntKind.i64.wrap (4096 * (i : Int)) = 4096 * (i : Int) := i64_id (by omega) (by omega)
    have hm : (4096 * (i : Int)).tmod 4096 = 0 := by rw [Int.mul_tmod_right]
    have ht4 : 0 ≤ (i : Int).tmod 4 := Int.tmod_nonneg _ (by omega)
    have ht5 : (i : Int).tmod 4 < 4 := Int.tmod_lt_of_pos _ (by omega)
    have hv := vop_map (c := 0) (n := 1) (p := plc (uu, 40)) (fr := 4096 * (i : Int)) (r := (i : Int).tmod 4) (by omega) (by omega) (by omega) hp0 hp1 (by omega) (by omega) hm ht4 (by omega)
    have hl := ht.len
    simp only [F_mad_0, P_mad_0, hw]
    generalize plc (uu, 40) = p at *
    rcases tb_split p t ht.1 with ⟨A, B, rfl, hA, hB⟩ | ⟨A, e, B, rfl, hA, he, hB⟩
    · obtain ⟨q1, q2⟩ := app_no (op := (0, 1, 1, p, 4096 * (i : Int), (i : Int).tmod 4)) hv ((asS_iff _).2 ht.1) (by omega) hA hB (.inl rfl)
      obtain ⟨t', r1, r2, r3⟩ := mad_0 pages rest (A ++ (p, 4096 * (i : Int), (i : Int).tmod 4) :: B) (i + 1) (tb_in ht hA hB rfl hp0 hp1) (by omega)
      refine ⟨t', ?_, r2, ?_⟩
      · rw [q2]; exact r1
      · rw [q1, q2]; exact r3
    · obtain ⟨q1, q2⟩ := app_yes (op := (0, 1, 1, p, 4096 * (i : Int), (i : Int).tmod 4)) hv ((asS_iff _).2 ht.1) (by omega) hA hB he (.inl rfl)
      obtain ⟨t', r1, r2, r3⟩ := mad_0 pages rest (A ++ e :: B) (i + 1) ht (by omega)
      refine ⟨t', ?_, r2, ?_⟩
      · rw [q2]; exact r1
      · rw [q1, q2]; exact r3
theorem mad_all (pages : List Int) (h : pages.length ≤ 100) : ∃ t, F_mad pages = (t, true) ∧ Tb t ∧ P_mad pages = true := by
  obtain ⟨t, h1, h2, h3⟩ := mad_0 pages pages [] 0 ⟨.nil, fun e he => by simp at he⟩ (by omega)
  refine ⟨t, h1, h2, ?_⟩
  simp only [P_mad, h3, decide_eq_true (show pages.length ≤ 1099511627776 by omega)]
  rfl
theorem spo_true : ∀ a, ∃ f, M_spo f a = some true := by
  rintro ⟨pages, kind, page, fr, rights⟩
  refine ⟨1, ?_⟩
  rw [M_spo_eq]
  by_cases hl : ((pages.length : Nat) : Int) > 100
  · simp only [decide_eq_true hl, cond_true]
  · obtain ⟨t, m1, ht, m3⟩ := mad_all pages (by omega)
    have hp0 : 0 ≤ plc (page, 40) := Int.emod_nonneg _ (by omega)
    have hp1 : plc (page, 40) < 40 := Int.emod_lt_of_pos _ (by omega)
    have hk0 : 0 ≤ plc (kind, 3) := Int.emod_nonneg _ (by omega)
    have hk1 : plc (kind, 3) < 3 := Int.emod_lt_of_pos _ (by omega)
    have hr0 : 0 ≤ plc (rights, 4) := Int.emod_nonneg _ (by omega)
    have hr1 : plc (rights, 4) < 4 := Int.emod_lt_of_pos _ (by omega)
    have hf0 : 0 ≤ plc (fr, 268435456) := Int.emod_nonneg _ (by omega)
    have hf1 : plc (fr, 268435456) < 268435456 := Int.emod_lt_of_pos _ (by omega)
    have hwk : IntKind.i64.wrap (1 + plc (kind, 3)) = 1 + plc (kind, 3) := i64_id (by omega) (by omega)
    have hwf : IntKind.i64.wrap (4096 * plc (fr, 268435456)) = 4096 * plc (fr, 268435456) := i64_id (by omega) (by omega)
    have hm : (4096 * plc (fr, 268435456)).tmod 4096 = 0 := by rw [Int.mul_tmod_right]
    simp only [decide_eq_false hl, cond_false, m1, m3, cond_true, hwk, hwf, Bool.not_true]
    generalize plc (page, 40) = p at *
    generalize plc (rights, 4) = r at *
    generalize hF : 4096 * plc (fr, 268435456) = F at *
    have hF0 : 0 ≤ F := by omega
    have hF1 : F ≤ 1099511623680 := by omega
    have hlen := ht.len
    have kinds : 1 + plc (kind, 3) = 1 ∨ 1 + plc (kind, 3) = 2 ∨ 1 + plc (kind, 3) = 3 := by omega
    generalize 1 + plc (kind, 3) = k at *
    clear hwk hwf hf0 hf1 hk0 hk1 m1 m3 hl hF
    have v1 := vop_map (c := 3) (n := 9) (p := p) (fr := F) (r := r) (by omega) (by omega) (by omega) hp0 hp1 hF0 hF1 hm hr0 (by omega)
    have v2 := vop_unm (c := 3) (n := 9) (p := p) (by omega) (by omega) (by omega) hp0 hp1
    have v3 := vop_pro (c := 3) (n := 9) (p := p) (r := r) (by omega) (by omega) (by omega) hp0 hp1 hr0 (by omega)
    have hasc := (asS_iff _).2 ht.1
    have nn := fnd_all [] p (by simp)
    have n1 : F_fnd (([] : List SPg), p) = ((0, 0, 0), false, []) := nn.1
    rcases tb_split p t ht.1 with ⟨A, B, rfl, hA, hB⟩ | ⟨A, e, B, rfl, hA, he, hB⟩
    · have hno : ∀ x ∈ A ++ B, x.1 ≠ p := fun x hx => by
        rcases List.mem_append.1 hx with h | h
        · have := hA x h; omega
        · have := hB x h; omega
      obtain ⟨f1, f2⟩ := fnd_all (A ++ B) p (by omega)
      rw [fndS_no p _ _ _ _ hno, List.nil_append] at f1
      rcases kinds with rfl | rfl | rfl
      · obtain ⟨a1, a2⟩ := app_no (op := (3, 9, 1, p, F, r)) v1 hasc (by omega) hA hB (.inl rfl)
        have a2 : F_app (A ++ B, 3, 9, 1, p, F, r) = (A ++ (p, F, r) :: B, 0) := a2
        have htu : Tb (A ++ (p, F, r) :: B) := tb_in ht hA hB rfl hp0 hp1
        have hlu := htu.len
        obtain ⟨g1, g2⟩ := fnd_all (A ++ (p, F, r) :: B) p (by omega)
        rw [fndS_yes (fun x hx => hno x (by simp [hx])) (fun x hx => hno x (by simp [hx])) rfl] at g1
        obtain ⟨s1, s2⟩ := sam_all (A ++ B) (by omega)
        obtain ⟨_, _, u1, u2⟩ := asc_all (A ++ (p, F, r) :: B) (by omega)
        rw [(asS_iff _).2 htu.1] at u1
        simp only [a1, a2, f1, f2, g1, g2, s1, s2, u1, u2, beqD', bneD, decide_true]
        rfl
      · obtain ⟨a1, a2⟩ := app_no (op := (3, 9, 2, p, 0, 0)) v2 hasc (by omega) hA hB (.inr (.inl rfl))
        have a2 : F_app (A ++ B, 3, 9, 2, p, 0, 0) = ([], 13) := a2
        simp only [a1, a2, f1, f2, n1, nn.2, beqD', bneD, decide_true]
        rfl
      · obtain ⟨a1, a2⟩ := app_no (op := (3, 9, 3, p, 0, r)) v3 hasc (by omega) hA hB (.inr (.inr rfl))
        have a2 : F_app (A ++ B, 3, 9, 3, p, 0, r) = ([], 13) := a2
        simp only [a1, a2, f1, f2, n1, nn.2, beqD', bneD, decide_true]
        rfl
    · obtain ⟨q, e2, e3⟩ := e
      have he : q = p := he
      subst he
      have hnA : ∀ x ∈ A, x.1 ≠ q := fun x hx => by have := hA x hx; omega
      have hnB : ∀ x ∈ B, x.1 ≠ q := fun x hx => by have := hB x hx; omega
      obtain ⟨f1, f2⟩ := fnd_all (A ++ (q, e2, e3) :: B) q (by omega)
      rw [fndS_yes hnA hnB rfl] at f1
      have htu : Tb (A ++ B) := tb_out ht
      have hlu := htu.len
      obtain ⟨s1, s2⟩ := sam_all (A ++ B) (by omega)
      rcases kinds with rfl | rfl | rfl
      · obtain ⟨a1, a2⟩ := app_yes (op := (3, 9, 1, q, F, r)) v1 hasc (by omega) hA hB rfl (.inl rfl)
        have a2 : F_app (A ++ (q, e2, e3) :: B, 3, 9, 1, q, F, r) = ([], 12) := a2
        simp only [a1, a2, f1, f2, n1, nn.2, beqD', bneD, decide_true]
        rfl
      · obtain ⟨a1, a2⟩ := app_yes (op := (3, 9, 2, q, 0, 0)) v2 hasc (by omega) hA hB rfl (.inr (.inl rfl))
        have a2 : F_app (A ++ (q, e2, e3) :: B, 3, 9, 2, q, 0, 0) = (A ++ B, 0) := a2
        obtain ⟨g1, g2⟩ := fnd_all (A ++ B) q (by omega)
        rw [fndS_no q _ _ _ _ (fun x hx => by rcases List.mem_append.1 hx with h | h; exact hnA x h; exact hnB x h), List.nil_append] at g1
        obtain ⟨_, _, u1, u2⟩ := asc_all (A ++ B) (by omega)
        rw [(asS_iff _).2 htu.1] at u1
        simp only [a1, a2, f1, f2, g1, g2, s1, s2, u1, u2, beqD', bneD, decide_true]
        rfl
      · obtain ⟨a1, a2⟩ := app_yes (op := (3, 9, 3, q, 0, r)) v3 hasc (by omega) hA hB rfl (.inr (.inr rfl))
        have a2 : F_app (A ++ (q, e2, e3) :: B, 3, 9, 3, q, 0, r) = (A ++ (q, e2, r) :: B, 0) := a2
        have htv : Tb (A ++ (q, e2, r) :: B) := tb_in htu hA hB rfl hp0 hp1
        have hlv := htv.len
        obtain ⟨g1, g2⟩ := fnd_all (A ++ (q, e2, r) :: B) q (by omega)
        rw [fndS_yes (e := (q, e2, r)) hnA hnB rfl] at g1
        obtain ⟨_, _, u1, u2⟩ := asc_all (A ++ (q, e2, r) :: B) (by omega)
        rw [(asS_iff _).2 htv.1] at u1
        simp only [a1, a2, f1, f2, g1, g2, s1, s2, u1, u2, beqD', bneD, decide_true]
        rfl
end Go.AL
