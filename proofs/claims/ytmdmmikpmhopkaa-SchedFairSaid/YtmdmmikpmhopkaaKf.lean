/-
  Layer 30 (sched): SchedFair. By an AI agent.
-/
import Derived.Test.YtmdmmikpmhopkaaKz
import Derived.Test.YtmdmmikpmhopkaaK12
namespace Go.AL
open Go.Proofs
set_option linter.unusedVariables false
set_option linter.unusedSimpArgs false
set_option maxHeartbeats 4000000
noncomputable def C_sfr : Cfg := ⟨Try.prog, [E_awk, E_new, E_place, E_add, E_tic], pmT [(5, ([(0, []), (1, []), (2, []), (3, []), (4, []), (5, []), (6, []), (7, []), (8, []), (9, []), (10, []), (11, [])], [(11, 11), (38, 47)])), (11, ([(0, []), (1, []), (2, []), (3, []), (4, []), (5, []), (6, []), (7, []), (8, []), (9, []), (10, []), (11, []), (12, []), (13, [])], [(11, 11), (56, 67)])), (30, ([(0, []), (1, []), (2, []), (3, []), (6, []), (7, []), (8, []), (9, []), (4, []), (5, []), (10, []), (11, []), (12, []), (13, [])], [(22, 23), (114, 125)])), (31, ([(0, []), (1, []), (2, []), (3, []), (4, []), (5, []), (6, []), (7, []), (8, []), (9, []), (10, []), (11, []), (12, []), (13, []), (14, [])], [(126, 140)]))], 142, [], [], [], []⟩
theorem es_sfr : EsOk Try.prog [E_awk, E_new, E_place, E_add, E_tic] [] [] := es_cons E_awk_ok (es_cons E_new_ok (es_cons E_place_ok (es_cons E_add_ok (es_cons E_tic_ok (es_nil)))))
def Lt_sfr : Nat → LD := ldT [(0, ⟨[.rd 0 [.int .i64], .c 3 (.int .i64), .box 9 9 26 3 tSSd, .c 12 (.int .i64)], [], 0⟩), (2, ⟨[.rd 0 [.int .i64], .box 9 9 26 3 tSSd, .arr 13 13 33 1 [.int .i64], .c 14 (.int .i64)], [], 0⟩), (4, ⟨[.rd 0 [.int .i64], .arr 13 13 33 1 [.int .i64], .c 20 (.int .i64)], [], 0⟩), (6, ⟨[.rd 0 [.int .i64], .arr 13 13 33 1 [.int .i64], .c 20 (.int .i64), .c 21 (.int .i64)], [], 0⟩)]
noncomputable def M_sfr (f : Nat) (a : (List (Int)) × Int × Int × Int) : Option (Bool) := (runX (C_sfr) Lt_sfr (Kret Try.prog [.tmp 8] [.v (.bool)]) f [.code (bodyOf Try.f3)] (initX [.rd [.int .i64], .c (.int .i64), .c (.int .i64), .c (.int .i64)] a) : Option (ResT [.v (.bool)]))
noncomputable def L_sfr_0 (f : Nat) (x : (List (Int)) × Int × SSd × Int) : Option (Bool) := (runX (C_sfr) Lt_sfr (Kret Try.prog [.tmp 8] [.v (.bool)]) f (headOf Try.f3 0) ((Lt_sfr 0).mk' x) : Option (ResT [.v (.bool)]))
noncomputable def L_sfr_2 (f : Nat) (x : (List (Int)) × SSd × (List (Int)) × Int) : Option (Bool) := (runX (C_sfr) Lt_sfr (Kret Try.prog [.tmp 8] [.v (.bool)]) f (headOf Try.f3 2) ((Lt_sfr 2).mk' x) : Option (ResT [.v (.bool)]))
noncomputable def L_sfr_4 (f : Nat) (x : (List (Int)) × (List (Int)) × Int) : Option (Bool) := (runX (C_sfr) Lt_sfr (Kret Try.prog [.tmp 8] [.v (.bool)]) f (headOf Try.f3 4) ((Lt_sfr 4).mk' x) : Option (ResT [.v (.bool)]))
noncomputable def L_sfr_6 (f : Nat) (x : (List (Int)) × (List (Int)) × Int × Int) : Option (Bool) := (runX (C_sfr) Lt_sfr (Kret Try.prog [.tmp 8] [.v (.bool)]) f (headOf Try.f3 6) ((Lt_sfr 6).mk' x) : Option (ResT [.v (.bool)]))
theorem M_sfr_eq (f : Nat) (weights : List (Int)) (period : Int) (budget : Int) (n : Int) : M_sfr (f + 1) (weights, period, budget, n) =
    bif decide ((↑weights.length : Int) < 1) then some true else bif decide ((↑weights.length : Int) > 10) then some true else bif decide (0 ≤ IntKind.u64.wrap (plc (period, 6))) then bif plcPre (budget, IntKind.i64.wrap (1 * 2 ^ min (IntKind.u64.wrap (plc (period, 6))).toNat IntKind.i64.bits)) then bif (addS ((0, 0, []), 31, 0, IntKind.i64.wrap (1 * 2 ^ min (IntKind.u64.wrap (plc (period, 6))).toNat IntKind.i64.bits), IntKind.i64.wrap (1 + plc (budget, IntKind.i64.wrap (1 * 2 ^ min (IntKind.u64.wrap (plc (period, 6))).toNat IntKind.i64.bits))))).2 != 0 then some false else L_sfr_0 f (weights, n, (addS ((0, 0, []), 31, 0, IntKind.i64.wrap (1 * 2 ^ min (IntKind.u64.wrap (plc (period, 6))).toNat IntKind.i64.bits), IntKind.i64.wrap (1 + plc (budget, IntKind.i64.wrap (1 * 2 ^ min (IntKind.u64.wrap (plc (period, 6))).toNat IntKind.i64.bits))))).1, 0) else none else none := by kernel_rfl
theorem L_sfr_0_eq (f : Nat) (weights : List (Int)) (n : Int) (s : SSd) (i : Int) : L_sfr_0 (f + 1) (weights, n, s, i) =
    bif decide (i < (↑weights.length : Int)) then bif decide (0 ≤ i) && decide (i < (↑weights.length : Int)) then bif okD s then bif (addS (s, i, IntKind.i64.wrap (1 + plc (weights.getD i.toNat 0, 10)), 0, 0)).2 != 0 then some false else L_sfr_0 f (weights, n, (addS (s, i, IntKind.i64.wrap (1 + plc (weights.getD i.toNat 0, 10)), 0, 0)).1, IntKind.i64.wrap (i + 1)) else none else none else L_sfr_2 f (weights, s, [0, 0, 0, 0, 0, 0, 0, 0, 0, 0, 0, 0, 0, 0, 0, 0, 0, 0, 0, 0, 0, 0, 0, 0, 0, 0, 0, 0, 0, 0, 0, 0], plc (n, 400)) := by kernel_rfl
theorem L_sfr_2_eq (f : Nat) (weights : List (Int)) (s : SSd) (ran : List (Int)) (i : Int) : L_sfr_2 (f + 1) (weights, s, ran, i) =
    bif decide (i > 0) then bif okD s then bif (tckS s).2.2.2.2 != 0 then some false else bif decide ((tckS s).2.1 < 0) then some false else bif decide ((tckS s).2.1 ≥ 32) then some false else bif decide ((tckS s).2.1 ≥ 0) then bif Nat.beq 32 ran.length && (decide (0 ≤ (tckS s).2.1) && decide ((tckS s).2.1 < (↑ran.length : Int))) then bif Nat.beq 32 ran.length && (decide (0 ≤ (tckS s).2.1) && decide ((tckS s).2.1 < (↑ran.length : Int))) then L_sfr_2 f (weights, (tckS s).1, ran.set (Int.toNat (tckS s).2.1) (IntKind.i64.wrap (ran.getD (Int.toNat (tckS s).2.1) 0 + 1)), IntKind.i64.wrap (i - 1)) else none else none else L_sfr_2 f (weights, (tckS s).1, ran, IntKind.i64.wrap (i - 1)) else none else L_sfr_4 f (weights, ran, 0) := by kernel_rfl
theorem L_sfr_4_eq (f : Nat) (weights : List (Int)) (ran : List (Int)) (i : Int) : L_sfr_4 (f + 1) (weights, ran, i) =
    bif decide (i < (↑weights.length : Int)) then L_sfr_6 f (weights, ran, i, 0) else some true := by kernel_rfl
theorem L_sfr_6_eq (f : Nat) (weights : List (Int)) (ran : List (Int)) (i : Int) (k : Int) : L_sfr_6 (f + 1) (weights, ran, i, k) =
    bif decide (k < (↑weights.length : Int)) then bif decide (0 ≤ i) && decide (i < (↑weights.length : Int)) then bif decide (0 ≤ k) && decide (k < (↑weights.length : Int)) then bif Nat.beq 32 ran.length && (decide (0 ≤ i) && decide (i < (↑ran.length : Int))) then bif Nat.beq 32 ran.length && (decide (0 ≤ k) && decide (k < (↑ran.length : Int))) then bif decide (IntKind.i64.wrap (ran.getD i.toNat 0 * IntKind.i64.wrap (1 + plc (weights.getD k.toNat 0, 10))) > IntKind.i64.wrap (IntKind.i64.wrap (ran.getD k.toNat 0 * IntKind.i64.wrap (1 + plc (weights.getD i.toNat 0, 10))) + IntKind.i64.wrap (IntKind.i64.wrap (1 + plc (weights.getD i.toNat 0, 10)) * IntKind.i64.wrap (1 + plc (weights.getD k.toNat 0, 10))))) then some false else L_sfr_6 f (weights, ran, i, IntKind.i64.wrap (k + 1)) else none else none else none else none else L_sfr_4 f (weights, ran, IntKind.i64.wrap (i + 1)) := by kernel_rfl
def pq (d : SDs) : Int × Int × Bool × Bool × Int := (d.1, dW d, dBlk d, dRem d, dPas d)
def qBE (wt : Nat → Int) (ran : List Int) (j : Nat) : Int × Int × Bool × Bool × Int := (((j : Nat) : Int), wt j, false, false, ran.getD j 0 * (2520 / wt j))
def QQ (wt : Nat → Int) (ran : List Int) (m : Nat) : List (Int × Int × Bool × Bool × Int) := (List.range m).map (qBE wt ran) ++ [(31, 0, false, false, 0)]
theorem tckD_pq {n : Int} {d : SDs} (h : dRem d = false) : (tckD n d).map pq = [pq d] := by
  obtain ⟨d1, d2, d3, d4, d5, d6, d7, d8, d9, d10, d11⟩ := d
  have h : d7 = false := h
  subst h
  unfold tckD
  rcases Bool.eq_false_or_eq_true (decide (dW (d1, d2, d3, d4, d5, d6, false, d8, d9, d10, d11) = 0) && decide (dDl (d1, d2, d3, d4, d5, d6, false, d8, d9, d10, d11) = n)) with e | e
  · rw [e]; rfl
  · rw [e]; rfl
theorem tckL_pq {n : Int} : ∀ {l : List SDs}, (∀ d ∈ l, dRem d = false) → (tckL n l).map pq = l.map pq
  | [], _ => rfl
  | d :: r, h => by
    show (tckD n d ++ tckL n r).map pq = pq d :: r.map pq
    rw [List.map_append, tckD_pq (h d (List.mem_cons_self ..)), tckL_pq fun e he => h e (List.mem_cons_of_mem _ he)]
    rfl
theorem pq_ent (d : SDs) : pq (entD d).1 = pq d := by
  obtain ⟨d1, d2, d3, d4, d5, d6, d7, d8, d9, d10, d11⟩ := d
  cases d6 with
  | true => rfl
  | false => cases d11 <;> rfl
theorem pq_chg0 {d : SDs} (h : dW d = 0) : pq (chgD d) = pq d := by
  unfold chgD
  rw [decide_eq_true h]; rfl
theorem pq_chg1 {d : SDs} (h : dW d ≠ 0) : pq (chgD d) = (d.1, dW d, dBlk d, dRem d, dPas d + 2520 / dW d) := by
  unfold chgD
  rw [decide_eq_false h]; rfl
theorem run_pq {s : SSd} (hb : ∃ d ∈ s.2.2, mayB d = true) : ∃ A d B, s.2.2 = A ++ d :: B ∧ (runS s).2.2.1 = d.1 ∧ (runS s).1.map pq = A.map pq ++ pq (chgD d) :: B.map pq := by
  have key : ∀ A d B, s.2.2 = A ++ d :: B → chS s.2.2 = ((A.length : Nat) : Int) → (runS s).2.2.1 = d.1 ∧ (runS s).1.map pq = A.map pq ++ pq (chgD d) :: B.map pq := fun A d B e1 e2 => by
    have g1 : s.2.2.getD A.length zDs = d := by rw [e1]; simp
    unfold runS
    rw [e2, Int.toNat_natCast, g1, decide_eq_false (show ¬ ((A.length : Nat) : Int) < 0 by omega), cond_false]
    refine ⟨rfl, ?_⟩
    show (s.2.2.set A.length (entD (chgD d)).1).map pq = _
    rw [e1, set_mid, List.map_append, List.map_append, List.map_cons, List.map_nil, pq_ent, List.append_assoc]; rfl
  rcases ch_best s.2.2 with ⟨e0, e1, e2⟩ | ⟨A, d, B, e1, e2, _⟩ | ⟨A, d, B, e1, e2, _⟩
  · obtain ⟨d, hd, hm⟩ := hb
    rw [(e2 d hd).2] at hm; cases hm
  · exact ⟨A, d, B, e1, key A d B e1 e2⟩
  · exact ⟨A, d, B, e1, key A d B e1 e2⟩
theorem QQ_len (wt : Nat → Int) (ran : List Int) (m : Nat) : (QQ wt ran m).length = m + 1 := by simp [QQ]
theorem QQ_be (wt : Nat → Int) (ran : List Int) {m k : Nat} (h : k < m) : (QQ wt ran m)[k]? = some (qBE wt ran k) := by
  unfold QQ
  rw [List.getElem?_append_left (by simpa using h)]
  simp [h]
theorem QQ_rt (wt : Nat → Int) (ran : List Int) (m : Nat) : (QQ wt ran m)[m]? = some (31, 0, false, false, 0) := by
  unfold QQ
  rw [List.getElem?_append_right (by simp)]
  simp
theorem mid_set {α : Type} {A B : List α} {x y : α} : A ++ y :: B = (A ++ x :: B).set A.length y := by simp
theorem QQ_ran {wt : Nat → Int} {ran ran' : List Int} {m : Nat} (h : ∀ j, j < m → ran'.getD j 0 = ran.getD j 0) : QQ wt ran' m = QQ wt ran m := by
  unfold QQ
  congr 1
  refine List.map_congr_left fun j hj => ?_
  unfold qBE
  rw [h j (List.mem_range.1 hj)]
theorem QQ_set {wt : Nat → Int} {ran : List Int} {m k : Nat} (hk : k < m) (hl : k < ran.length) : (QQ wt ran m).set k (((k : Nat) : Int), wt k, false, false, ran.getD k 0 * (2520 / wt k) + 2520 / wt k) = QQ wt (ran.set k (ran.getD k 0 + 1)) m := by
  unfold QQ
  rw [List.set_append_left _ _ (by simpa using hk)]
  congr 1
  apply List.ext_getElem?
  intro j
  by_cases hj : k = j
  · subst hj
    rw [List.getElem?_set_self (by simpa using hk)]
    have : (ran.set k (ran.getD k 0 + 1)).getD k 0 = ran.getD k 0 + 1 := by rw [List.getD_eq_getElem?_getD, List.getElem?_set_self hl]; rfl
    simp only [List.getElem?_map, List.getElem?_range hk, Option.map_some, qBE, this, Int.add_mul, Int.one_mul]
  · rw [List.getElem?_set_ne hj]
    simp only [List.getElem?_map]
    by_cases hm : j < m
    · have : (ran.set k (ran.getD k 0 + 1)).getD j 0 = ran.getD j 0 := by rw [List.getD_eq_getElem?_getD, List.getElem?_set_ne hj, List.getD_eq_getElem?_getD]
      simp only [List.getElem?_range hm, Option.map_some, qBE, this]
    · rw [List.getElem?_eq_none (by simpa using hm)]; rfl
theorem tick_pq {s : SSd} {t m : Nat} {wt : Nat → Int} {ran : List Int} (h : Sc s t) (ht : t < 4800) (hm : 1 ≤ m ∧ m ≤ 10) (hw : ∀ j, 1 ≤ wt j) (hl : ran.length = 32) (hq : s.2.2.map pq = QQ wt ran m) :
    ∃ k : Nat, k < 32 ∧ (tckS s).2.1 = ((k : Nat) : Int) ∧ (tckS s).1.2.2.map pq = QQ wt (ran.set k (ran.getD k 0 + 1)) m := by
  obtain ⟨k1, k2, k3, k4, k5⟩ := h.tick ht
  have at_ : ∀ {k : Nat} {d : SDs}, s.2.2[k]? = some d → (QQ wt ran m)[k]? = some (pq d) := fun {k d} e => by rw [← hq, List.getElem?_map, e]; rfl
  have hrem : ∀ q ∈ QQ wt ran m, q.2.2.2.1 = false := fun q hq => by
    rcases List.mem_append.1 hq with hq | hq
    · obtain ⟨j, _, rfl⟩ := List.mem_map.1 hq; rfl
    · rw [List.mem_singleton.1 hq]
  have hb : ∃ d ∈ s.2.2, mayB d = true := by
    have h0 := QQ_be wt ran (m := m) (k := 0) (by omega)
    rw [← hq, List.getElem?_map] at h0
    cases e : s.2.2[0]? with
    | none => rw [e] at h0; cases h0
    | some d =>
      rw [e] at h0
      have h1 : pq d = qBE wt ran 0 := Option.some.inj h0
      have h2 : dW d = wt 0 := congrArg (fun q : Int × Int × Bool × Bool × Int => q.2.1) h1
      have h3 : dBlk d = false := congrArg (fun q : Int × Int × Bool × Bool × Int => q.2.2.1) h1
      refine ⟨d, List.mem_of_getElem? e, ?_⟩
      unfold mayB
      rw [h3, decide_eq_false (by rw [h2]; have := hw 0; omega)]; rfl
  obtain ⟨A, d, B, e1, e2, e3⟩ := run_pq hb
  have eA : s.2.2[A.length]? = some d := by rw [e1]; simp
  have hd := at_ eA
  have hAm : A.length < m + 1 := by rw [← QQ_len wt ran m]; exact (List.getElem?_eq_some_iff.1 hd).1
  have hmap : A.map pq ++ pq d :: B.map pq = QQ wt ran m := by rw [← hq, e1]; simp
  have hnext : (tckS s).1.2.2.map pq = A.map pq ++ pq (chgD d) :: B.map pq := by
    rw [k5]
    show (tckL (s.1 + 1) (runS s).1).map pq = _
    rw [tckL_pq, e3]
    intro x hx
    have hx2 : pq x ∈ A.map pq ++ pq (chgD d) :: B.map pq := by rw [← e3]; exact List.mem_map_of_mem hx
    have hx3 : (pq x).2.2.2.1 = false := by
      rcases List.mem_append.1 hx2 with hx2 | hx2
      · exact hrem _ (by rw [← hmap]; exact List.mem_append_left _ hx2)
      · rcases List.mem_cons.1 hx2 with hx2 | hx2
        · rw [hx2]
          have hc : (pq (chgD d)).2.2.2.1 = (pq d).2.2.2.1 := by
            by_cases hw0 : dW d = 0
            · rw [pq_chg0 hw0]
            · rw [pq_chg1 hw0]; rfl
          rw [hc]
          exact hrem _ (by rw [← hmap]; simp)
        · exact hrem _ (by rw [← hmap]; simp [hx2])
    exact hx3
  have hid : (tckS s).2.1 = d.1 := by rw [k5]; exact e2
  rw [mid_set (x := pq d), hmap, List.length_map] at hnext
  by_cases hlt : A.length < m
  · rw [QQ_be wt ran hlt] at hd
    have h1 : pq d = qBE wt ran A.length := (Option.some.inj hd).symm
    have g1 : d.1 = ((A.length : Nat) : Int) := congrArg (fun q : Int × Int × Bool × Bool × Int => q.1) h1
    have g2 : dW d = wt A.length := congrArg (fun q : Int × Int × Bool × Bool × Int => q.2.1) h1
    have g3 : dBlk d = false := congrArg (fun q : Int × Int × Bool × Bool × Int => q.2.2.1) h1
    have g4 : dRem d = false := congrArg (fun q : Int × Int × Bool × Bool × Int => q.2.2.2.1) h1
    have g5 : dPas d = ran.getD A.length 0 * (2520 / wt A.length) := congrArg (fun q : Int × Int × Bool × Bool × Int => q.2.2.2.2) h1
    refine ⟨A.length, by omega, by rw [hid, g1], ?_⟩
    rw [hnext, pq_chg1 (by rw [g2]; have := hw A.length; omega), g1, g2, g3, g4, g5]
    exact QQ_set hlt (by omega)
  · have hAe : A.length = m := by omega
    rw [hAe, QQ_rt] at hd
    have h1 : pq d = (31, 0, false, false, 0) := (Option.some.inj hd).symm
    have g1 : d.1 = 31 := congrArg (fun q : Int × Int × Bool × Bool × Int => q.1) h1
    have g2 : dW d = 0 := congrArg (fun q : Int × Int × Bool × Bool × Int => q.2.1) h1
    refine ⟨31, by omega, by rw [hid, g1]; rfl, ?_⟩
    rw [hnext, pq_chg0 g2]
    have : (QQ wt ran m).set A.length (pq d) = QQ wt ran m := by
      rw [← hmap]
      have := mid_set (A := A.map pq) (B := B.map pq) (x := pq d) (y := pq d)
      rw [List.length_map] at this
      exact this.symm
    rw [this]
    refine (QQ_ran fun j hj => ?_).symm
    rw [List.getD_eq_getElem?_getD, List.getElem?_set_ne (by omega), List.getD_eq_getElem?_getD]
def wtF (ws : List Int) (j : Nat) : Int := 1 + plc (ws.getD j 0, 10)
theorem wtF_rng (ws : List Int) (j : Nat) : 1 ≤ wtF ws j ∧ wtF ws j ≤ 10 := by
  obtain ⟨h1, h2⟩ := plc_rng (ws.getD j 0) (n := 10) (by omega)
  unfold wtF; omega
def Fair (ws ran : List Int) : Prop := ran.length = 32 ∧ (∀ j, 0 ≤ ran.getD j 0 ∧ ran.getD j 0 ≤ 4800) ∧ ∀ i k, i < ws.length → k < ws.length → ran.getD i 0 * wtF ws k ≤ ran.getD k 0 * wtF ws i + wtF ws i * wtF ws k
theorem wrapW (ws : List Int) (j : Nat) : IntKind.i64.wrap (1 + plc (ws.getD j 0, 10)) = wtF ws j := by
  have := wtF_rng ws j
  exact i64_id (show -9223372036854775808 ≤ wtF ws j by omega) (show wtF ws j ≤ _ by omega)
theorem mulB {x y a : Int} (h : 0 ≤ x ∧ x ≤ a) (h' : 0 ≤ y ∧ y ≤ 10) : 0 ≤ x * y ∧ x * y ≤ a * 10 :=
  ⟨Int.mul_nonneg h.1 h'.1, Int.mul_le_mul h.2 h'.2 h'.1 (by omega)⟩
theorem sfr_6 (ws ran : List Int) (hm : ws.length ≤ 10) (hf : Fair ws ran) (i : Nat) (hi : i < ws.length) (hk : ∃ f, L_sfr_4 f (ws, ran, ((i + 1 : Nat) : Int)) = some true) :
    ∀ (r k : Nat), k + r = ws.length → ∃ f, L_sfr_6 f (ws, ran, ((i : Nat) : Int), ((k : Nat) : Int)) = some true
  | 0, k, hr => by
    obtain ⟨f, hf⟩ := hk
    refine ⟨f + 1, ?_⟩
    rw [L_sfr_6_eq, decide_eq_false (show ¬ ((k : Nat) : Int) < ((ws.length : Nat) : Int) by omega), cond_false, i64_id (by omega) (by omega)]
    exact hf
  | r + 1, k, hr => by
    obtain ⟨f, hf2⟩ := sfr_6 ws ran hm hf i hi hk r (k + 1) (by omega)
    refine ⟨f + 1, ?_⟩
    have b0 := wtF_rng ws i
    have b1 := wtF_rng ws k
    have b2 := hf.2.1 i
    have b3 := hf.2.1 k
    have b4 := mulB b2 (y := wtF ws k) (by omega)
    have b5 := mulB b3 (y := wtF ws i) (by omega)
    have b6 := mulB (x := wtF ws i) (a := 10) (y := wtF ws k) (by omega) (by omega)
    have b7 := hf.2.2 i k hi (by omega)
    have d1 : decide (((k : Nat) : Int) < ((ws.length : Nat) : Int)) = true := decide_eq_true (by omega)
    have d2 : decide (((i : Nat) : Int) < ((ws.length : Nat) : Int)) = true := decide_eq_true (by omega)
    have d3 : decide ((0 : Int) ≤ ((k : Nat) : Int)) = true := decide_eq_true (by omega)
    have d4 : decide ((0 : Int) ≤ ((i : Nat) : Int)) = true := decide_eq_true (by omega)
    have d5 : decide (((i : Nat) : Int) < ((ran.length : Nat) : Int)) = true := decide_eq_true (by rw [hf.1]; omega)
    have d6 : decide (((k : Nat) : Int) < ((ran.length : Nat) : Int)) = true := decide_eq_true (by rw [hf.1]; omega)
    have d7 : Nat.beq 32 ran.length = true := by rw [hf.1]; rfl
    rw [L_sfr_6_eq]
    simp only [d1, d2, d3, d4, d5, d6, d7, Int.toNat_natCast, wrapW, cond_true, Bool.and_self]
    rw [i64_id (n := ran.getD i 0 * wtF ws k) (by omega) (by omega), i64_id (n := ran.getD k 0 * wtF ws i) (by omega) (by omega), i64_id (n := wtF ws i * wtF ws k) (by omega) (by omega), i64_id (n := ran.getD k 0 * wtF ws i + wtF ws i * wtF ws k) (by omega) (by omega), decide_eq_false (by omega), cond_false, i64_id (by omega) (by omega)]
    exact hf2
theorem sfr_4 (ws ran : List Int) (hm : ws.length ≤ 10) (hf : Fair ws ran) : ∀ (r i : Nat), i + r = ws.length → ∃ f, L_sfr_4 f (ws, ran, ((i : Nat) : Int)) = some true
  | 0, i, hr => by
    refine ⟨1, ?_⟩
    rw [L_sfr_4_eq, decide_eq_false (show ¬ ((i : Nat) : Int) < ((ws.length : Nat) : Int) by omega), cond_false]
  | r + 1, i, hr => by
    obtain ⟨f, hf2⟩ := sfr_6 ws ran hm hf i (by omega) (sfr_4 ws ran hm hf r (i + 1) (by omega)) ws.length 0 (by omega)
    refine ⟨f + 1, ?_⟩
    rw [L_sfr_4_eq, decide_eq_true (show ((i : Nat) : Int) < ((ws.length : Nat) : Int) by omega), cond_true]
    exact hf2
theorem fair_of {s : SSd} {t : Nat} {ws ran : List Int} (h : Sc s t) (hl : ran.length = 32) (hr : ∀ j, 0 ≤ ran.getD j 0 ∧ ran.getD j 0 ≤ (t : Int)) (ht : t ≤ 4800) (hq : s.2.2.map pq = QQ (wtF ws) ran ws.length) : Fair ws ran := by
  refine ⟨hl, fun j => by have := hr j; omega, fun i k hi hk => ?_⟩
  have V := (valS_iff s).1 h.val
  have at_ : ∀ {k : Nat}, k < ws.length → ran.getD k 0 * (2520 / wtF ws k) ≤ s.2.1 + 2520 ∧ s.2.1 ≤ ran.getD k 0 * (2520 / wtF ws k) := fun {k} hk => by
    have h0 := QQ_be (wtF ws) ran hk
    rw [← hq, List.getElem?_map] at h0
    cases e : s.2.2[k]? with
    | none => rw [e] at h0; cases h0
    | some d =>
      rw [e] at h0
      have h1 : pq d = qBE (wtF ws) ran k := Option.some.inj h0
      have g2 : dW d = wtF ws k := congrArg (fun q : Int × Int × Bool × Bool × Int => q.2.1) h1
      have g3 : dBlk d = false := congrArg (fun q : Int × Int × Bool × Bool × Int => q.2.2.1) h1
      have g5 : dPas d = ran.getD k 0 * (2520 / wtF ws k) := congrArg (fun q : Int × Int × Bool × Bool × Int => q.2.2.2.2) h1
      have hv := V.all d (List.mem_of_getElem? e)
      have hw0 : decide (dW d = 0) = false := decide_eq_false (by rw [g2]; have := wtF_rng ws k; omega)
      simp only [vdiS, corB, hw0, cond_false, beB, Bool.and_eq_true, Bool.or_eq_true, decide_eq_true_eq, g3, g5] at hv
      obtain ⟨_, _, _, _, _, _, q1, q2, _⟩ := hv
      exact ⟨q1, by rcases q2 with q2 | q2 <;> first | cases q2; done | exact q2⟩
  exact fair_ineq (wtF_rng ws i) (wtF_rng ws k) (at_ hi).1 (at_ hk).2
theorem sfr_2 (ws : List Int) (hm : 1 ≤ ws.length ∧ ws.length ≤ 10) : ∀ (r : Nat) (s : SSd) (ran : List Int) (t : Nat), t + r ≤ 4800 → Sc s t → ran.length = 32 → (∀ j, 0 ≤ ran.getD j 0 ∧ ran.getD j 0 ≤ (t : Int)) → s.2.2.map pq = QQ (wtF ws) ran ws.length →
    ∃ f, L_sfr_2 f (ws, s, ran, ((r : Nat) : Int)) = some true
  | 0, s, ran, t, ht, h, hl, hr, hq => by
    obtain ⟨f, hf⟩ := sfr_4 ws ran hm.2 (fair_of h hl hr (by omega) hq) ws.length 0 (by omega)
    refine ⟨f + 1, ?_⟩
    rw [L_sfr_2_eq, decide_eq_false (show ¬ ((0 : Nat) : Int) > 0 by omega), cond_false]
    exact hf
  | r + 1, s, ran, t, ht, h, hl, hr, hq => by
    obtain ⟨k1, k2, k3, k4, k5⟩ := h.tick (by omega)
    obtain ⟨k, hk, hid, hq2⟩ := tick_pq h (by omega) hm (fun j => (wtF_rng ws j).1) hl hq
    have hr2 : ∀ j, 0 ≤ (ran.set k (ran.getD k 0 + 1)).getD j 0 ∧ (ran.set k (ran.getD k 0 + 1)).getD j 0 ≤ ((t + 1 : Nat) : Int) := fun j => by
      have h1 := hr j
      by_cases hj : k = j
      · subst hj
        rw [List.getD_eq_getElem?_getD, List.getElem?_set_self (by omega)]
        show 0 ≤ ran.getD k 0 + 1 ∧ ran.getD k 0 + 1 ≤ _
        omega
      · rw [List.getD_eq_getElem?_getD, List.getElem?_set_ne hj, ← List.getD_eq_getElem?_getD]; omega
    obtain ⟨f, hf⟩ := sfr_2 ws hm r (tckS s).1 (ran.set k (ran.getD k 0 + 1)) (t + 1) (by omega) k2 (by simpa using hl) hr2 hq2
    refine ⟨f + 1, ?_⟩
    have b := hr k
    have d1 : Nat.beq 32 ran.length = true := by rw [hl]; rfl
    have d2 : decide ((0 : Int) ≤ ((k : Nat) : Int)) = true := decide_eq_true (by omega)
    have d3 : decide (((k : Nat) : Int) < ((ran.length : Nat) : Int)) = true := decide_eq_true (by rw [hl]; omega)
    have d4 : decide (((k : Nat) : Int) < 0) = false := decide_eq_false (by omega)
    have d5 : decide (((k : Nat) : Int) ≥ 32) = false := decide_eq_false (by omega)
    have d6 : decide (((k : Nat) : Int) ≥ 0) = true := decide_eq_true (by omega)
    have d7 : decide (((r + 1 : Nat) : Int) > 0) = true := decide_eq_true (by omega)
    rw [L_sfr_2_eq]
    simp only [h.ok, k1, hid, bneD, d1, d2, d3, d4, d5, d6, d7, decide_true, Bool.not_true, Bool.and_self, cond_true, cond_false, Int.toNat_natCast]
    rw [i64_id (n := ran.getD k 0 + 1) (by omega) (by omega), i64_id (n := ((r + 1 : Nat) : Int) - 1) (by omega) (by omega), show ((r + 1 : Nat) : Int) - 1 = ((r : Nat) : Int) by omega]
    exact hf
theorem add_be {s : SSd} (hv : valS s = true) {id w : Int} (h0 : 0 ≤ id) (h1 : id < 32) (hw : 1 ≤ w) (hw2 : w ≤ 10) :
    addS (s, id, w, 0, 0) = bif s.2.2.any (fun d => decide (d.1 = id)) then (zSs, 56) else ((s.1, s.2.1, insL (newDs s id w 0 0) s.2.2), 0) := by
  have V := (valS_iff s).1 hv
  have hr := V.rng
  simp only [rngB, Bool.and_eq_true, decide_eq_true_eq] at hr
  have hw0 : decide (w = 0) = false := decide_eq_false (by omega)
  have hvd : vdiS (newDs s id w 0 0, s.1, s.2.1) = true := by
    simp only [vdiS, upB, corB, beB, newDs, hw0, dId, dW, dPer, dBud, dBlk, dDis, dRem, dDl, dLft, dPas, ups, cond_false, Bool.false_and]
    simp; omega
  have hsh : shD (newDs s id w 0 0) = 0 := by
    unfold shD newDs
    simp only [dW, hw0, cond_false]
  have hu := V.ut
  unfold addS
  simp only [hv, hvd, Bool.not_true, cond_false, utS_ins, hsh]
  rw [decide_eq_false (show ¬ utS s.2.2 + 0 > 1024 by omega), cond_false]
theorem sfr_0 (ws : List Int) (hm : 1 ≤ ws.length ∧ ws.length ≤ 10) (n p b : Int) (rt : SDs) (hrt : rt.1 = 31) (hrq : pq rt = (31, 0, false, false, 0)) : ∀ (r i : Nat) (s : SSd), i + r = ws.length → Sc s 0 → s.2.1 = 0 →
    s.2.2 = (List.range i).map (fun j => (((j : Nat) : Int), wtF ws j, 0, 0, false, false, false, 0, 0, 0, [])) ++ [rt] → ∃ f, L_sfr_0 f (ws, n, s, ((i : Nat) : Int)) = some true
  | 0, i, s, hi, h, hz, hs => by
    obtain ⟨n1, n2⟩ := plc_rng n (n := 400) (by omega)
    obtain ⟨m, hm2⟩ : ∃ m : Nat, plc (n, 400) = ((m : Nat) : Int) := ⟨(plc (n, 400)).toNat, by omega⟩
    have hz32 : ∀ j, (List.replicate 32 (0 : Int)).getD j 0 = 0 := fun j => by
      rw [List.getD_eq_getElem?_getD, List.getElem?_replicate]; split <;> rfl
    obtain ⟨f, hf⟩ := sfr_2 ws hm m s (List.replicate 32 0) 0 (by omega) h (by simp) (fun j => by rw [hz32 j]; omega) (by
      rw [hs, List.map_append, List.map_map]
      unfold QQ
      rw [show i = ws.length by omega]
      congr 1
      · refine List.map_congr_left fun j _ => ?_
        show pq _ = qBE _ _ _
        unfold qBE
        rw [hz32, Int.zero_mul]; rfl
      · rw [List.map_cons, hrq]; rfl)
    refine ⟨f + 1, ?_⟩
    rw [L_sfr_0_eq, decide_eq_false (show ¬ ((i : Nat) : Int) < ((ws.length : Nat) : Int) by omega), cond_false, hm2]
    exact hf
  | r + 1, i, s, hi, h, hz, hs => by
    have bw := wtF_rng ws i
    have hadd := add_be h.val (id := ((i : Nat) : Int)) (w := wtF ws i) (by omega) (by omega) bw.1 bw.2
    have hw0 : decide (wtF ws i = 0) = false := decide_eq_false (by omega)
    have hnew : newDs s ((i : Nat) : Int) (wtF ws i) 0 0 = (((i : Nat) : Int), wtF ws i, 0, 0, false, false, false, 0, 0, 0, []) := by
      unfold newDs
      simp only [hw0, Bool.false_and, cond_false, hz]
    have hany : s.2.2.any (fun d => decide (d.1 = ((i : Nat) : Int))) = false := by
      rw [hs, List.any_eq_false]
      intro d hd
      rcases List.mem_append.1 hd with hd | hd
      · obtain ⟨j, hj, rfl⟩ := List.mem_map.1 hd
        have := List.mem_range.1 hj
        simp; omega
      · rw [List.mem_singleton.1 hd, hrt]
        simp; omega
    have hins : insL (newDs s ((i : Nat) : Int) (wtF ws i) 0 0) s.2.2 = (List.range (i + 1)).map (fun j => (((j : Nat) : Int), wtF ws j, 0, 0, false, false, false, 0, 0, 0, [])) ++ [rt] := by
      rw [hs, hnew, insL_app (fun e he => by
        obtain ⟨j, hj, rfl⟩ := List.mem_map.1 he
        have := List.mem_range.1 hj
        show ((j : Nat) : Int) < ((i : Nat) : Int); omega), List.range_succ, List.map_append]
      have : insL ((((i : Nat) : Int), wtF ws i, 0, 0, false, false, false, 0, 0, 0, []) : SDs) [rt] = [(((i : Nat) : Int), wtF ws i, 0, 0, false, false, false, 0, 0, 0, []), rt] := by
        unfold insL
        rw [decide_eq_false (by rw [hrt]; show ¬ (31 : Int) < ((i : Nat) : Int); omega), cond_false]
      rw [this, List.append_assoc]; rfl
    rw [hany, cond_false, hins] at hadd
    have hok : (addS (s, ((i : Nat) : Int), wtF ws i, 0, 0)).2 = 0 := by rw [hadd]
    obtain ⟨a1, a2, a3⟩ := add_val _ hok
    obtain ⟨f, hf⟩ := sfr_0 ws hm n p b rt hrt hrq r (i + 1) (addS (s, ((i : Nat) : Int), wtF ws i, 0, 0)).1 (by omega) ⟨a1, by rw [a2]; exact h.now, by rw [a3]; exact h.vir⟩ (by rw [a3]; exact hz) (by rw [hadd])
    refine ⟨f + 1, ?_⟩
    have d1 : decide (((i : Nat) : Int) < ((ws.length : Nat) : Int)) = true := decide_eq_true (by omega)
    have d2 : decide ((0 : Int) ≤ ((i : Nat) : Int)) = true := decide_eq_true (by omega)
    rw [L_sfr_0_eq]
    simp only [d1, d2, h.ok, Int.toNat_natCast, wrapW, hok, bneD, decide_true, Bool.not_true, Bool.and_self, cond_true, cond_false]
    rw [i64_id (n := ((i : Nat) : Int) + 1) (by omega) (by omega)]
    exact hf
theorem sfr_true : ∀ a : List Int × Int × Int × Int, ∃ f, M_sfr f a = some true := fun (ws, period, budget, n) => by
  by_cases h1 : ws.length < 1
  · refine ⟨1, ?_⟩
    rw [M_sfr_eq, decide_eq_true (show ((ws.length : Nat) : Int) < 1 by omega)]; rfl
  by_cases h2 : ws.length > 10
  · refine ⟨1, ?_⟩
    rw [M_sfr_eq, decide_eq_false (show ¬ ((ws.length : Nat) : Int) < 1 by omega), decide_eq_true (show ((ws.length : Nat) : Int) > 10 by omega)]; rfl
  obtain ⟨s1, s2, s3, s4⟩ := shB_ok period
  have r3 := plc_rng budget (n := shB period) (by omega)
  have fold : IntKind.i64.wrap (1 * 2 ^ min (IntKind.u64.wrap (plc (period, 6))).toNat IntKind.i64.bits) = shB period := rfl
  have e3 : IntKind.i64.wrap (1 + plc (budget, shB period)) = 1 + plc (budget, shB period) := i64_id (by omega) (by omega)
  have hp : plcPre (budget, shB period) = true := by
    unfold plcPre
    rw [decide_eq_true (show 0 < (budget, shB period).2 by show 0 < shB period; omega), decide_eq_true (show (budget, shB period).2 ≤ 4611686018427387904 by show shB period ≤ _; omega)]; rfl
  obtain ⟨a1, a2, a3⟩ := add_rt (s := (0, 0, [])) (by decide +kernel) (by show (0 : Int) ≤ _; omega) (id := 31) (by omega) (by omega) s1 (b := 1 + plc (budget, shB period)) (by omega) (by omega)
  have hsh := (shD_rng (vdi_rt a1)).2
  rw [a2] at hsh
  have hu : decide (utS ((0, 0, []) : SSd).2.2 + (1 + plc (budget, shB period)) * (1024 / shB period) > 1024) = false := decide_eq_false (by show ¬ (0 : Int) + _ > 1024; omega)
  have hany : ((0, 0, []) : SSd).2.2.any (fun d => decide (d.1 = 31)) = false := rfl
  rw [hany, hu, cond_false, cond_false] at a3
  have hok : (addS ((0, 0, []), 31, 0, shB period, 1 + plc (budget, shB period))).2 = 0 := by rw [a3]
  obtain ⟨v1, v2, v3⟩ := add_val _ hok
  obtain ⟨f, hf⟩ := sfr_0 ws ⟨by omega, by omega⟩ n 0 0 (newDs (0, 0, []) 31 0 (shB period) (1 + plc (budget, shB period))) rfl rfl ws.length 0 (addS ((0, 0, []), 31, 0, shB period, 1 + plc (budget, shB period))).1 (by omega) ⟨v1, by rw [v2]; exact Int.le_refl _, by rw [v3]; exact Int.le_refl _⟩ (by rw [v3]) (by rw [a3]; rfl)
  refine ⟨f + 1, ?_⟩
  rw [M_sfr_eq, decide_eq_false (show ¬ ((ws.length : Nat) : Int) < 1 by omega), decide_eq_false (show ¬ ((ws.length : Nat) : Int) > 10 by omega)]
  simp only [fold, e3, hp, s2, hok, bneD, decide_true, Bool.not_true, cond_true, cond_false]
  exact hf
end Go.AL
