/-
  The stable sort at entries: walks. By an AI agent.
-/
import Derived.Test.YtjlcdgjcbienbaaG2
import Derived.Test.YtjlcdgjcbienbaaAxLrun
import Derived.Test.YtjlcdgjcbienbaaAxStable
namespace Go.AL
open Go.Proofs
set_option linter.unusedVariables false
set_option linter.unusedSimpArgs false
noncomputable def C_cent : Cfg := ⟨Try.prog, [E_ncmp], pmT [], 12, [], []⟩
theorem es_cent : EsOk Try.prog [E_ncmp] [] := es_cons E_ncmp_ok (es_nil)
def Lt_cent : Nat → LD := ldT []
noncomputable def M_cent (f : Nat) (a : SEn × SEn) : Option (Int) := (runX (C_cent) Lt_cent (Kret Try.prog [.tmp 4] [.v (.int .i64)]) f [.code (bodyOf Try.f64)] (initX [.g tSEn, .g tSEn] a) : Option (ResT [.v (.int .i64)]))
theorem M_cent_eq (f : Nat) (a : SEn) (b : SEn) : M_cent (f + 1) (a, b) =
    some (cmpId ((a.2.2.1, a.2.2.2.1, a.2.2.2.2.1), b.2.2.1, b.2.2.2.1, b.2.2.2.2.1)) := by kernel_rfl
noncomputable def F_cent : (SEn × SEn) → Int
  | (a, b) => cmpId ((a.2.2.1, a.2.2.2.1, a.2.2.2.2.1), b.2.2.1, b.2.2.2.1, b.2.2.2.2.1)
noncomputable def P_cent : (SEn × SEn) → Bool
  | (a, b) => true
theorem cent_auto : ∀ a : SEn × SEn, Rns (fun f => M_cent f a) (P_cent a) (F_cent a)
  | (a, b) => ev_step (fun f => M_cent_eq f _ _) ev_some
def eidS (e : SEn) : SId := (e.2.2.1, e.2.2.2.1, e.2.2.2.2.1)
def centS (a : SEn × SEn) : Int := cmpId (eidS a.1, eidS a.2)
theorem cent_P : ∀ a, (fun _ => true) a = true → P_cent a = true := fun _ _ => rfl
theorem cent_F : ∀ a, (fun _ => true) a = true → F_cent a = centS a := fun _ _ => rfl
theorem cent_run : ∀ a, (fun _ => true : SEn × SEn → Bool) a = true → ∃ f, M_cent f a = some ((centS : SEn × SEn → Int) a) := fun a h => by have h1 := cent_auto a (cent_P a h); rw [cent_F a h] at h1; exact h1
noncomputable def E_cent : Ent := ⟨64, [.g tSEn, .g tSEn], [.v (.int .i64)], fun a => (fun _ => true : SEn × SEn → Bool) a, fun a => (centS : SEn × SEn → Int) a⟩
theorem E_cent_ok : E_cent.Ok Try.prog := fun a hp vs hv => (cent_run a hp).elim fun f h => fnX_ok (C := C_cent) (Lt := Lt_cent) (fn := Try.f64) (rs := [.tmp 4]) [.g tSEn, .g tSEn] [.v (.int .i64)] mixed es_cent Try.func64 rfl rfl rfl (by kernel_rfl) (by kernel_rfl) f h vs hv
/-! ### What the order is -/
def ltE (a b : SEn) : Bool := decide (centS (a, b) < 0)
theorem ltE_iff (a b : SEn) : ltE a b = true ↔ (eidS a).1 < (eidS b).1 ∨ ((eidS a).1 = (eidS b).1 ∧ ((eidS a).2.1 < (eidS b).2.1 ∨ ((eidS a).2.1 = (eidS b).2.1 ∧ (eidS a).2.2 < (eidS b).2.2))) := by
  simp only [ltE, centS, cmpId, cmpI, decide_eq_true_eq]
  by_cases h1 : (eidS a).1 < (eidS b).1
  · simp [h1]
  by_cases h2 : (eidS a).1 > (eidS b).1
  · simp [h1, h2] <;> omega
  by_cases h3 : (eidS a).2.1 < (eidS b).2.1
  · simp [h1, h2, h3] <;> omega
  by_cases h4 : (eidS a).2.1 > (eidS b).2.1
  · simp [h1, h2, h3, h4] <;> omega
  by_cases h5 : (eidS a).2.2 < (eidS b).2.2
  · simp [h1, h2, h3, h4, h5] <;> omega
  by_cases h6 : (eidS a).2.2 > (eidS b).2.2
  · simp [h1, h2, h3, h4, h5, h6] <;> omega
  · simp [h1, h2, h3, h4, h5, h6]
theorem ordE : OrdB ltE := by
  have F : ∀ a b, ltE a b = false ↔ ¬ (ltE a b = true) := fun a b => by cases ltE a b <;> simp
  refine ⟨fun a b h => ?_, fun a b c h1 h2 => ?_⟩
  · rw [F]; rw [ltE_iff] at *; omega
  · rw [F] at *; rw [ltE_iff] at *; omega
def zE : SEn := (0, 0, 0, 0, 0, [], 0, 0, 0, 0, 0, 0, false)
def mid {α : Type} (l : List α) (i j : Int) : List α := (l.drop i.toNat).take (j - i).toNat
theorem cut3 {α : Type} {x u y : List α} {a b : Int} (ha : a = (x.length : Nat)) (hb : b = ((x.length + u.length : Nat) : Int)) : (x ++ (u ++ y)).take a.toNat = x ∧ mid (x ++ (u ++ y)) a b = u ∧ (x ++ (u ++ y)).drop b.toNat = y := by
  subst ha hb
  refine ⟨by simp, ?_, ?_⟩
  · unfold mid
    rw [Int.toNat_natCast, List.drop_left, show (((x.length + u.length : Nat) : Int) - (x.length : Nat)).toNat = u.length by omega, List.take_left]
  · rw [Int.toNat_natCast, ← List.append_assoc, ← List.length_append, List.drop_left]
theorem cut3_ex {α : Type} {l : List α} {a b : Int} (h0 : 0 ≤ a) (h1 : a ≤ b) (h2 : b ≤ (l.length : Nat)) : l = l.take a.toNat ++ (mid l a b ++ l.drop b.toNat) ∧ a = ((l.take a.toNat).length : Nat) ∧ b = (((l.take a.toNat).length + (mid l a b).length : Nat) : Int) := by
  have e1 : (l.take a.toNat).length = a.toNat := by rw [List.length_take]; omega
  have e2 : (mid l a b).length = (b - a).toNat := by unfold mid; rw [List.length_take, List.length_drop]; omega
  refine ⟨?_, by omega, by omega⟩
  unfold mid
  have : l.drop b.toNat = (l.drop a.toNat).drop (b - a).toNat := by rw [List.drop_drop]; congr 1; omega
  rw [this, List.take_append_drop, List.take_append_drop]
def isoS (a : List SEn × Int × Int × Unit) : Unit × List SEn := ((), a.1.take a.2.1.toNat ++ (srtB ltE (mid a.1 a.2.1 a.2.2.1) ++ a.1.drop a.2.2.1.toNat))
def segP {α : Type} (l : List α) (a b : Int) : Bool := decide (0 ≤ a) && (decide (a ≤ b) && (decide (b ≤ (l.length : Nat)) && decide (l.length ≤ 1099511627776)))
theorem segP_iff {α : Type} {l : List α} {a b : Int} : segP l a b = true ↔ 0 ≤ a ∧ a ≤ b ∧ b ≤ (l.length : Nat) ∧ l.length ≤ 1099511627776 := by simp [segP]
def swrS (a : List SEn × Int × Int × Int × Unit) : Unit × List SEn := ((), a.1.take a.2.1.toNat ++ (mid a.1 a.2.2.1 (a.2.2.1 + a.2.2.2.1) ++ (mid a.1 (a.2.1 + a.2.2.2.1) a.2.2.1 ++ (mid a.1 a.2.1 (a.2.1 + a.2.2.2.1) ++ a.1.drop (a.2.2.1 + a.2.2.2.1).toNat))))
def swrP (a : List SEn × Int × Int × Int × Unit) : Bool := decide (0 ≤ a.2.1) && (decide (0 ≤ a.2.2.2.1) && (decide (a.2.1 + a.2.2.2.1 ≤ a.2.2.1) && (decide (a.2.2.1 + a.2.2.2.1 ≤ (a.1.length : Nat)) && decide (a.1.length ≤ 1099511627776))))
noncomputable def C_swr : Cfg := ⟨Try.prog, [], pmT [(3, ([(0, []), (1, []), (2, []), (3, []), (4, []), (5, []), (6, []), (7, []), (8, []), (9, []), (10, []), (11, []), (12, []), (13, []), (14, []), (15, []), (16, []), (17, []), (18, []), (19, []), (20, []), (21, []), (22, []), (23, [])], [(16, 37)]))], 38, [], []⟩
theorem es_swr : EsOk Try.prog [] [] := es_nil
def Lt_swr : Nat → LD := ldTL 1 [(0, ⟨[.list 0 500 74 13 tSEn, .c 1 (.int .i64), .c 2 (.int .i64), .c 3 (.int .i64), .c 10 (.int .i64)], [], 1⟩)]
noncomputable def M_swr (f : Nat) (a : (List (SEn)) × Int × Int × Int × Unit) : Option (Unit × (List (SEn))) := (runX (C_swr) Lt_swr (KretI Try.prog 74 13 tSEn [] []) f [.code (bodyOf Try.f109)] (initXL false 74 13 tSEn [.c (.int .i64), .c (.int .i64), .c (.int .i64), .fn 64 []] a.1 [] (a.2.1, a.2.2.1, a.2.2.2.1, a.2.2.2.2)) : Option ((ResT [] × List (RowT tSEn))))
noncomputable def L_swr_0 (f : Nat) (x : (List (SEn)) × Int × Int × Int × Int) : Option (Unit × (List (SEn))) := (runX (C_swr) Lt_swr (KretI Try.prog 74 13 tSEn [] []) f (headOf Try.f109 0) ((Lt_swr 0).mk' x) : Option ((ResT [] × List (RowT tSEn))))
theorem M_swr_eq (f : Nat) (data : List (SEn)) (a : Int) (b : Int) (n : Int) (cmp : Unit) : M_swr (f + 1) (data, a, b, n, cmp) =
    L_swr_0 f (data, a, b, n, 0) := by kernel_rfl
theorem L_swr_0_eq (f : Nat) (data : List (SEn)) (a : Int) (b : Int) (n : Int) (i : Int) : L_swr_0 (f + 1) (data, a, b, n, i) =
    bif decide (i < n) then bif decide (0 ≤ IntKind.i64.wrap (b + i)) && decide (IntKind.i64.wrap (b + i) < (↑data.length : Int)) then bif decide (0 ≤ IntKind.i64.wrap (a + i)) && decide (IntKind.i64.wrap (a + i) < (↑data.length : Int)) then bif decide (0 ≤ IntKind.i64.wrap (a + i)) && decide (IntKind.i64.wrap (a + i) < (↑data.length : Int)) then bif decide (0 ≤ IntKind.i64.wrap (b + i)) && decide (IntKind.i64.wrap (b + i) < (↑(data.set (IntKind.i64.wrap (a + i)).toNat (data.getD (IntKind.i64.wrap (b + i)).toNat (0, 0, 0, 0, 0, [], 0, 0, 0, 0, 0, 0, false))).length : Int)) then L_swr_0 f ((data.set (IntKind.i64.wrap (a + i)).toNat (data.getD (IntKind.i64.wrap (b + i)).toNat (0, 0, 0, 0, 0, [], 0, 0, 0, 0, 0, 0, false))).set (IntKind.i64.wrap (b + i)).toNat (data.getD (IntKind.i64.wrap (a + i)).toNat (0, 0, 0, 0, 0, [], 0, 0, 0, 0, 0, 0, false)), a, b, n, IntKind.i64.wrap (i + 1)) else none else none else none else none else some ((), data) := by kernel_rfl
theorem swr_0 : ∀ (P R x q y : List SEn) (a b n : Int) (i : Nat), P.length = R.length → a + i = x.length → b + i = ((x.length + P.length + q.length : Nat) : Int) → n = ((i + P.length : Nat) : Int) → (x ++ (P ++ (q ++ (R ++ y)))).length ≤ 1099511627776 → i + P.length ≤ 1099511627776 →
    ∃ f, L_swr_0 f (x ++ (P ++ (q ++ (R ++ y))), a, b, n, ((i : Nat) : Int)) = some ((), x ++ (R ++ (q ++ (P ++ y))))
  | [], [], x, q, y, a, b, n, i, _, _, _, hn, _, _ => ⟨1, (L_swr_0_eq 0 _ _ _ _ _).trans (by rw [decide_eq_false (by simp at hn; omega)]; rfl)⟩
  | [], r :: R, _, _, _, _, _, _, _, h, _, _, _, _, _ => by simp at h
  | p :: P, [], _, _, _, _, _, _, _, h, _, _, _, _, _ => by simp at h
  | p :: P, r :: R, x, q, y, a, b, n, i, h, ha, hb, hn, hl, hi => by
    simp only [List.length_cons, List.length_append] at h hb hn hl hi
    have hA : IntKind.i64.wrap (a + (i : Nat)) = ((x.length : Nat) : Int) := by rw [ha, i64_id (by omega) (by omega)]
    have hB : IntKind.i64.wrap (b + (i : Nat)) = ((x.length + 1 + (P ++ q).length : Nat) : Int) := by rw [hb, i64_id (by omega) (by omega)]; simp only [List.length_append]; omega
    have e1 : IntKind.i64.wrap (((i : Nat) : Int) + 1) = ((i + 1 : Nat) : Int) := by rw [i64_id (by omega) (by omega)]; rfl
    obtain ⟨f, hf⟩ := swr_0 P R (x ++ [r]) (q ++ [p]) y a b n (i + 1) (by omega) (by simp only [List.length_append, List.length_singleton]; omega) (by simp only [List.length_append, List.length_singleton]; omega) (by omega) (by simp only [List.length_append, List.length_singleton]; omega) (by omega)
    refine ⟨f + 1, (L_swr_0_eq f _ _ _ _ _).trans ?_⟩
    have eD : x ++ (p :: P ++ (q ++ (r :: R ++ y))) = x ++ p :: ((P ++ q) ++ r :: (R ++ y)) := by simp
    rw [hA, hB, e1, eD]
    have g1 := getD_one (x := x) (q := []) (r := p) (y := (P ++ q) ++ r :: (R ++ y)) (p := p) (z := zE) rfl
    have g2 := getD_two (x := x) (q := P ++ q) (y := R ++ y) (p := p) (r := r) (z := zE) rfl
    simp only [zE] at g1 g2
    rw [Int.toNat_natCast, Int.toNat_natCast, g1, g2, set_two rfl rfl, decide_eq_true (show ((i : Nat) : Int) < n by omega), ge0, ge0, decide_eq_true (show ((x.length : Nat) : Int) < ((x ++ p :: ((P ++ q) ++ r :: (R ++ y))).length : Nat) by simp only [List.length_append, List.length_cons]; omega),
      decide_eq_true (show ((x.length + 1 + (P ++ q).length : Nat) : Int) < ((x ++ p :: ((P ++ q) ++ r :: (R ++ y))).length : Nat) by simp only [List.length_append, List.length_cons]; omega), List.length_set,
      decide_eq_true (show ((x.length + 1 + (P ++ q).length : Nat) : Int) < ((x ++ p :: ((P ++ q) ++ r :: (R ++ y))).length : Nat) by simp only [List.length_append, List.length_cons]; omega)]
    simp only [Bool.and_self, cond_true]
    have e2 : x ++ r :: ((P ++ q) ++ p :: (R ++ y)) = (x ++ [r]) ++ (P ++ ((q ++ [p]) ++ (R ++ y))) := by simp
    rw [e2, hf]
    simp
theorem swr_dec {x P q R y : List SEn} {a b n : Int} {u : Unit} (h : P.length = R.length) (ha : a = (x.length : Nat)) (hb : b = ((x.length + P.length + q.length : Nat) : Int)) (hn : n = (P.length : Nat)) : swrS (x ++ (P ++ (q ++ (R ++ y))), a, b, n, u) = ((), x ++ (R ++ (q ++ (P ++ y)))) := by
  unfold swrS
  simp only
  obtain ⟨c1, c2, _⟩ := cut3 (x := x) (u := P) (y := q ++ (R ++ y)) (a := a) (b := a + n) ha (by omega)
  obtain ⟨_, c4, c5⟩ := cut3 (x := x ++ (P ++ q)) (u := R) (y := y) (a := b) (b := b + n) (by simp only [List.length_append]; omega) (by simp only [List.length_append]; omega)
  obtain ⟨_, c6, _⟩ := cut3 (x := x ++ P) (u := q) (y := R ++ y) (a := a + n) (b := b) (by simp only [List.length_append]; omega) (by simp only [List.length_append]; omega)
  simp only [List.append_assoc] at c4 c5 c6
  rw [c1, c2, c4, c5, c6]
theorem swr_ex {l : List SEn} {a b n : Int} (h0 : 0 ≤ a) (h1 : 0 ≤ n) (h2 : a + n ≤ b) (h3 : b + n ≤ (l.length : Nat)) : ∃ x P q R y, l = x ++ (P ++ (q ++ (R ++ y))) ∧ P.length = R.length ∧ a = (x.length : Nat) ∧ b = ((x.length + P.length + q.length : Nat) : Int) ∧ n = (P.length : Nat) := by
  obtain ⟨d1, d2, d3⟩ := cut3_ex (l := l) (a := a) (b := a + n) h0 (by omega) (by omega)
  obtain ⟨f1, f2, f3⟩ := cut3_ex (l := l.drop (a + n).toNat) (a := b - (a + n)) (b := b - (a + n) + n) (by omega) (by omega) (by rw [List.length_drop]; omega)
  refine ⟨_, mid l a (a + n), (l.drop (a + n).toNat).take (b - (a + n)).toNat, mid (l.drop (a + n).toNat) (b - (a + n)) (b - (a + n) + n), (l.drop (a + n).toNat).drop (b - (a + n) + n).toNat, ?_, ?_, d2, ?_, ?_⟩
  · rw [← f1]; exact d1
  · omega
  · omega
  · omega
theorem swr_run : ∀ a, swrP a = true → ∃ f, M_swr f a = some (swrS a) := by
  rintro ⟨l, a, b, n, u⟩ h
  simp only [swrP, Bool.and_eq_true, decide_eq_true_eq] at h
  obtain ⟨h0, h1, h2, h3, h4⟩ := h
  obtain ⟨x, P, q, R, y, rfl, e1, e2, e3, e4⟩ := swr_ex h0 h1 h2 h3
  obtain ⟨f, hf⟩ := swr_0 P R x q y a b n 0 e1 (by omega) (by omega) (by omega) h4 (by simp only [List.length_append] at h4; omega)
  exact ⟨f + 1, (M_swr_eq f _ _ _ _ _).trans (by rw [swr_dec e1 e2 e3 e4]; exact hf)⟩
theorem swr_len : ∀ a, swrP a = true → (swrS a).2.length = a.1.length := by
  rintro ⟨l, a, b, n, u⟩ h
  simp only [swrP, Bool.and_eq_true, decide_eq_true_eq] at h
  obtain ⟨h0, h1, h2, h3, h4⟩ := h
  obtain ⟨x, P, q, R, y, rfl, e1, e2, e3, e4⟩ := swr_ex h0 h1 h2 h3
  rw [swr_dec e1 e2 e3 e4]
  simp only [List.length_append]; omega
noncomputable def E_swr : EntL := ⟨109, false, false, 74, 13, tSEn, [.c (.int .i64), .c (.int .i64), .c (.int .i64), .fn 64 []], [], fun l l2 a => (swrP : (List (SEn)) × Int × Int × Int × Unit → Bool) (l, a.1, a.2.1, a.2.2.1, a.2.2.2), fun l l2 a => (swrS : (List (SEn)) × Int × Int × Int × Unit → Unit × (List (SEn))) (l, a.1, a.2.1, a.2.2.1, a.2.2.2)⟩
theorem E_swr_ok : E_swr.Ok Try.prog := entL_io (C := C_swr) (Lt := Lt_swr) (fn := Try.f109) (rs := []) E_swr Try.prog rfl rfl rfl mixed es_swr rfl (ldTL_ln (by decide +kernel)) Try.func109 rfl rfl rfl (by decide) (by kernel_rfl) (by kernel_rfl) (by decide) fun l a hp => ⟨swr_len (l, a.1, a.2.1, a.2.2.1, a.2.2.2) hp, swr_run (l, a.1, a.2.1, a.2.2.1, a.2.2.2) hp⟩
noncomputable def C_iso : Cfg := ⟨Try.prog, [E_cent], pmT [(4, ([(0, []), (1, []), (2, []), (3, []), (4, []), (5, []), (6, []), (7, []), (8, []), (9, []), (10, []), (11, []), (12, []), (13, []), (14, []), (15, []), (16, [])], [(18, 34)])), (6, ([(0, []), (1, []), (2, []), (3, []), (4, []), (5, []), (6, []), (7, []), (8, []), (9, []), (10, []), (11, []), (12, []), (13, []), (14, []), (15, []), (16, []), (17, [])], [(37, 52)]))], 53, [], []⟩
theorem es_iso : EsOk Try.prog [E_cent] [] := es_cons E_cent_ok (es_nil)
def Lt_iso : Nat → LD := ldTL 1 [(0, ⟨[.list 0 500 74 13 tSEn, .c 1 (.int .i64), .c 2 (.int .i64), .fn 3 64 [], .c 8 (.int .i64)], [], 1⟩), (2, ⟨[.list 0 500 74 13 tSEn, .c 1 (.int .i64), .c 2 (.int .i64), .fn 3 64 [], .c 8 (.int .i64), .c 9 (.int .i64)], [], 1⟩)]
noncomputable def M_iso (f : Nat) (a : (List (SEn)) × Int × Int × Unit) : Option (Unit × (List (SEn))) := (runX (C_iso) Lt_iso (KretI Try.prog 74 13 tSEn [] []) f [.code (bodyOf Try.f101)] (initXL false 74 13 tSEn [.c (.int .i64), .c (.int .i64), .fn 64 []] a.1 [] (a.2.1, a.2.2.1, a.2.2.2)) : Option ((ResT [] × List (RowT tSEn))))
noncomputable def L_iso_0 (f : Nat) (x : (List (SEn)) × Int × Int × Unit × Int) : Option (Unit × (List (SEn))) := (runX (C_iso) Lt_iso (KretI Try.prog 74 13 tSEn [] []) f (headOf Try.f101 0) ((Lt_iso 0).mk' x) : Option ((ResT [] × List (RowT tSEn))))
noncomputable def L_iso_2 (f : Nat) (x : (List (SEn)) × Int × Int × Unit × Int × Int) : Option (Unit × (List (SEn))) := (runX (C_iso) Lt_iso (KretI Try.prog 74 13 tSEn [] []) f (headOf Try.f101 2) ((Lt_iso 2).mk' x) : Option ((ResT [] × List (RowT tSEn))))
theorem M_iso_eq (f : Nat) (data : List (SEn)) (a : Int) (b : Int) (cmp : Unit) : M_iso (f + 1) (data, a, b, cmp) =
    L_iso_0 f (data, a, b, (), IntKind.i64.wrap (a + 1)) := by kernel_rfl
theorem L_iso_0_eq (f : Nat) (data : List (SEn)) (a : Int) (b : Int) (cmp : Unit) (i : Int) : L_iso_0 (f + 1) (data, a, b, cmp, i) =
    bif decide (i < b) then L_iso_2 f (data, a, b, (), i, i) else some ((), data) := by kernel_rfl
theorem L_iso_2_eq (f : Nat) (data : List (SEn)) (a : Int) (b : Int) (cmp : Unit) (i : Int) (j : Int) : L_iso_2 (f + 1) (data, a, b, cmp, i, j) =
    bif decide (j > a) then bif decide (0 ≤ j) && decide (j < (↑data.length : Int)) then bif decide (0 ≤ IntKind.i64.wrap (j - 1)) && decide (IntKind.i64.wrap (j - 1) < (↑data.length : Int)) then bif decide (centS (data.getD j.toNat (0, 0, 0, 0, 0, [], 0, 0, 0, 0, 0, 0, false), data.getD (IntKind.i64.wrap (j - 1)).toNat (0, 0, 0, 0, 0, [], 0, 0, 0, 0, 0, 0, false)) < 0) then bif decide (0 ≤ IntKind.i64.wrap (j - 1)) && decide (IntKind.i64.wrap (j - 1) < (↑data.length : Int)) then bif decide (0 ≤ j) && decide (j < (↑data.length : Int)) then bif decide (0 ≤ j) && decide (j < (↑data.length : Int)) then bif decide (0 ≤ IntKind.i64.wrap (j - 1)) && decide (IntKind.i64.wrap (j - 1) < (↑(data.set j.toNat (data.getD (IntKind.i64.wrap (j - 1)).toNat (0, 0, 0, 0, 0, [], 0, 0, 0, 0, 0, 0, false))).length : Int)) then L_iso_2 f ((data.set j.toNat (data.getD (IntKind.i64.wrap (j - 1)).toNat (0, 0, 0, 0, 0, [], 0, 0, 0, 0, 0, 0, false))).set (IntKind.i64.wrap (j - 1)).toNat (data.getD j.toNat (0, 0, 0, 0, 0, [], 0, 0, 0, 0, 0, 0, false)), a, b, (), i, IntKind.i64.wrap (j - 1)) else none else none else none else none else L_iso_0 f (data, a, b, (), IntKind.i64.wrap (i + 1)) else none else none else L_iso_0 f (data, a, b, (), IntKind.i64.wrap (i + 1)) := by kernel_rfl
theorem insB_snoc {α : Type} {lt : α → α → Bool} (O : OrdB lt) {x : α} : ∀ {s : List α}, (∀ y ∈ s, lt x y = false) → insB lt x s = s ++ [x]
  | [], _ => rfl
  | y :: s, h => by
    have h1 := h y (List.mem_cons_self ..)
    simp only [insB, h1, cond_false, insB_snoc O (fun z hz => h z (List.mem_cons_of_mem _ hz)), List.cons_append]
theorem insB_front {α : Type} {lt : α → α → Bool} (O : OrdB lt) {x y : α} : ∀ {s t : List α}, SrtB lt (s ++ [y]) → lt x y = true → insB lt x (s ++ y :: t) = insB lt x s ++ y :: t
  | [], t, _, h => by simp [insB, h]
  | z :: s, t, hs, h => by
    simp only [List.cons_append, insB]
    cases lt x z
    · simp only [cond_false, List.cons_append, insB_front O (List.pairwise_cons.1 hs).2 h]
    · rfl
theorem iso_2 : ∀ (n : Nat) (s x t y : List SEn) (e : SEn) (a b i : Int) (G : List SEn → Prop) (K : Unit × List SEn), s.length = n → SrtB ltE (s ++ t) → (∀ z ∈ t, ltE e z = true) → a = (x.length : Nat) → (x ++ (s ++ (e :: (t ++ y)))).length ≤ 1099511627776 →
    (∃ f, L_iso_0 f (x ++ (insB ltE e (s ++ t) ++ y), a, b, (), IntKind.i64.wrap (i + 1)) = some K) → ∃ f, L_iso_2 f (x ++ (s ++ (e :: (t ++ y))), a, b, (), i, ((x.length + s.length : Nat) : Int)) = some K
  | 0, s, x, t, y, e, a, b, i, _, K, hn, hs, ht, ha, hl, ⟨f, hf⟩ => by
    obtain rfl := List.eq_nil_of_length_eq_zero hn
    refine ⟨f + 1, (L_iso_2_eq f _ _ _ _ _ _).trans ?_⟩
    rw [decide_eq_false (show ¬ (((x.length + ([] : List SEn).length : Nat) : Int) > a) by simp; omega), cond_false]
    have e1 : insB ltE e ([] ++ t) = e :: t := by
      cases t with
      | nil => rfl
      | cons z t => simp only [List.nil_append, insB, ht z (List.mem_cons_self ..), cond_true]
    rw [e1] at hf
    simpa using hf
  | n + 1, s, x, t, y, e, a, b, i, _, K, hn, hs, ht, ha, hl, hf => by
    obtain ⟨s, p, rfl⟩ : ∃ s' p, s = s' ++ [p] := ⟨s.dropLast, s.getLast (by intro h; rw [h] at hn; cases hn), (List.dropLast_concat_getLast _).symm⟩
    have hsn : s.length = n := by rw [List.length_append, List.length_singleton] at hn; exact Nat.succ.inj hn
    simp only [List.length_append, List.length_singleton, List.length_cons] at hl
    have hJ : ((x.length + (s ++ [p]).length : Nat) : Int) = (((x ++ s).length + 1 + ([] : List SEn).length : Nat) : Int) := by simp; omega
    have hJ1 : IntKind.i64.wrap (((x.length + (s ++ [p]).length : Nat) : Int) - 1) = (((x ++ s).length : Nat) : Int) := by
      rw [i64_id (by simp; omega) (by simp; omega)]; simp only [List.length_append, List.length_singleton]; omega
    have eD : x ++ (s ++ [p] ++ (e :: (t ++ y))) = (x ++ s) ++ p :: ([] ++ e :: (t ++ y)) := by simp
    have g1 := getD_one (x := x ++ s) (q := []) (r := p) (y := [] ++ e :: (t ++ y)) (p := p) (z := zE) rfl
    have g2 := getD_two (x := x ++ s) (q := []) (y := t ++ y) (p := p) (r := e) (z := zE) rfl
    simp only [zE] at g1 g2
    have hL : (((x ++ s) ++ p :: ([] ++ e :: (t ++ y))).length : Nat) = x.length + s.length + 2 + t.length + y.length := by simp; omega
    have d1 : decide ((((x ++ s).length : Nat) : Int) < ((((x ++ s) ++ p :: ([] ++ e :: (t ++ y))).length : Nat) : Int)) = true := decide_eq_true (by rw [hL]; simp only [List.length_append]; omega)
    have d2 : decide ((((x ++ s).length + 1 + ([] : List SEn).length : Nat) : Int) < ((((x ++ s) ++ p :: ([] ++ e :: (t ++ y))).length : Nat) : Int)) = true := decide_eq_true (by rw [hL]; simp only [List.length_append, List.length_nil]; omega)
    have hgt : decide ((((x ++ s).length + 1 + ([] : List SEn).length : Nat) : Int) > a) = true := decide_eq_true (by simp only [List.length_append, List.length_nil]; omega)
    have hsp : SrtB ltE (s ++ (p :: t)) := by simpa using hs
    cases hc : ltE e p
    · -- here it stays
      obtain ⟨f, hf⟩ := hf
      refine ⟨f + 1, (L_iso_2_eq f _ _ _ _ _ _).trans ?_⟩
      rw [hJ1, eD, hJ]
      have hc' : decide (centS (e, p) < 0) = false := hc
      simp only [Int.toNat_natCast, g1, g2, d1, d2, ge0, hgt, hc', Bool.and_self, cond_true, cond_false]
      have e1 : insB ltE e (s ++ [p] ++ t) = s ++ [p] ++ (e :: t) := by
        have hp : ∀ z ∈ s ++ [p], ltE e z = false := fun z hz => by
          rcases List.mem_append.1 hz with hz | hz
          · exact ordE.ntrans z p e ((List.pairwise_append.1 hsp).2.2 z hz p (List.mem_cons_self ..)) hc
          · rw [List.mem_singleton.1 hz]; exact hc
        cases t with
        | nil => rw [List.append_nil, insB_snoc ordE hp]
        | cons z t =>
          rw [insB_front ordE (s := s ++ [p]) ?_ (ht z (List.mem_cons_self ..)), insB_snoc ordE hp]
          · simp
          · have : (s ++ [p] ++ [z]).Sublist (s ++ [p] ++ z :: t) := List.Sublist.append_left (by simp) _
            exact hs.sublist this
      rw [e1] at hf
      simpa using hf
    · obtain ⟨f, hf⟩ := iso_2 n s x (p :: t) y e a b i (fun _ => True) K hsn hsp (fun z hz => by
        rcases List.mem_cons.1 hz with rfl | hz
        · exact hc
        · exact ht z hz) ha (by simp only [List.length_append, List.length_cons]; omega) (by simpa using hf)
      refine ⟨f + 1, (L_iso_2_eq f _ _ _ _ _ _).trans ?_⟩
      rw [hJ1, eD, hJ]
      have hc' : decide (centS (e, p) < 0) = true := hc
      have s2 := set_two' (x := x ++ s) (q := []) (y := t ++ y) (p := p) (r := e) rfl rfl
      simp only [Int.toNat_natCast, g1, g2, s2, d1, d2, ge0, hgt, hc', Bool.and_self, cond_true, cond_false, List.length_set]
      rw [show (x ++ s) ++ e :: ([] ++ p :: (t ++ y)) = x ++ (s ++ (e :: (p :: t ++ y))) by simp, show (((x ++ s).length : Nat) : Int) = ((x.length + s.length : Nat) : Int) by simp]
      exact hf
theorem iso_0 : ∀ (r s x y : List SEn) (a b : Int), a = (x.length : Nat) → b = ((x.length + s.length + r.length : Nat) : Int) → SrtB ltE s → (x ++ (s ++ (r ++ y))).length ≤ 1099511627776 →
    ∃ f, L_iso_0 f (x ++ (s ++ (r ++ y)), a, b, (), ((x.length + s.length : Nat) : Int)) = some ((), x ++ (r.foldl (fun s x => insB ltE x s) s ++ y))
  | [], s, x, y, a, b, ha, hb, hs, hl => ⟨1, (L_iso_0_eq 0 _ _ _ _ _).trans (by rw [decide_eq_false (by simp at hb; omega)]; rfl)⟩
  | e :: r, s, x, y, a, b, ha, hb, hs, hl => by
    simp only [List.length_cons, List.length_append] at hb hl
    have hle := len_insB (lt := ltE) e s
    obtain ⟨f, hf⟩ := iso_0 r (insB ltE e s) x y a b ha (by omega) (srt_insB ordE hs) (by simp only [List.length_append, hle]; omega)
    have e1 : IntKind.i64.wrap (((x.length + s.length : Nat) : Int) + 1) = ((x.length + (insB ltE e s).length : Nat) : Int) := by rw [hle, i64_id (by omega) (by omega)]; omega
    obtain ⟨g, hg⟩ := iso_2 s.length s x [] (r ++ y) e a b ((x.length + s.length : Nat) : Int) (fun _ => True) _ rfl (by simpa using hs) (fun z hz => by cases hz) ha (by simp only [List.length_append, List.length_cons, List.length_nil]; omega) ⟨f, by rw [e1, List.append_nil]; exact hf⟩
    refine ⟨g + 1, (L_iso_0_eq g _ _ _ _ _).trans ?_⟩
    rw [decide_eq_true (show ((x.length + s.length : Nat) : Int) < b by omega), cond_true]
    exact hg
theorem isoS_dec {x s y : List SEn} {a b : Int} {u : Unit} (ha : a = (x.length : Nat)) (hb : b = ((x.length + s.length : Nat) : Int)) : isoS (x ++ (s ++ y), a, b, u) = ((), x ++ (srtB ltE s ++ y)) := by
  obtain ⟨c1, c2, c3⟩ := cut3 (x := x) (u := s) (y := y) ha hb
  simp only [isoS, c1, c2, c3]
theorem iso_run : ∀ a, (fun a : List SEn × Int × Int × Unit => segP a.1 a.2.1 a.2.2.1) a = true → ∃ f, M_iso f a = some (isoS a) := by
  rintro ⟨l, a, b, u⟩ h
  have h : segP l a b = true := h
  obtain ⟨h0, h1, h2, h3⟩ := segP_iff.1 h
  obtain ⟨e1, e2, e3⟩ := cut3_ex h0 h1 h2
  generalize l.take a.toNat = x at e1 e2 e3
  generalize mid l a b = s at e1 e2 e3
  generalize l.drop b.toNat = y at e1
  subst e1
  cases s with
  | nil =>
    refine ⟨2, (M_iso_eq 1 _ _ _ _).trans ?_⟩
    have hw : IntKind.i64.wrap (a + 1) = a + 1 := i64_id (by omega) (by simp only [List.length_append] at h3; omega)
    refine (L_iso_0_eq 0 _ _ _ _ _).trans ?_
    rw [hw, decide_eq_false (by simp at e3; omega), isoS_dec e2 e3]
    rfl
  | cons e s =>
    simp only [List.length_append, List.length_cons] at h3 e3
    obtain ⟨f, hf⟩ := iso_0 s [e] x y a b e2 (by simp only [List.length_singleton]; omega) (by simp [SrtB]) (by simp only [List.length_append, List.length_singleton]; omega)
    have hw : IntKind.i64.wrap (a + 1) = ((x.length + [e].length : Nat) : Int) := by rw [e2, i64_id (by omega) (by omega)]; rfl
    refine ⟨f + 1, (M_iso_eq f _ _ _ _).trans ?_⟩
    rw [hw, isoS_dec e2 (by simp only [List.length_cons]; omega)]
    exact hf
theorem iso_len : ∀ a, (fun a : List SEn × Int × Int × Unit => segP a.1 a.2.1 a.2.2.1) a = true → (isoS a).2.length = a.1.length := by
  rintro ⟨l, a, b, u⟩ h
  have h : segP l a b = true := h
  obtain ⟨h0, h1, h2, h3⟩ := segP_iff.1 h
  obtain ⟨e1, e2, e3⟩ := cut3_ex h0 h1 h2
  simp only [isoS, List.length_append, len_srtB]
  have := congrArg List.length e1
  simp only [List.length_append] at this
  omega
noncomputable def E_iso : EntL := ⟨101, false, false, 74, 13, tSEn, [.c (.int .i64), .c (.int .i64), .fn 64 []], [], fun l l2 a => (fun a => segP a.1 a.2.1 a.2.2.1 : (List (SEn)) × Int × Int × Unit → Bool) (l, a.1, a.2.1, a.2.2), fun l l2 a => (isoS : (List (SEn)) × Int × Int × Unit → Unit × (List (SEn))) (l, a.1, a.2.1, a.2.2)⟩
theorem E_iso_ok : E_iso.Ok Try.prog := entL_io (C := C_iso) (Lt := Lt_iso) (fn := Try.f101) (rs := []) E_iso Try.prog rfl rfl rfl mixed es_iso rfl (ldTL_ln (by decide +kernel)) Try.func101 rfl rfl rfl (by decide) (by kernel_rfl) (by kernel_rfl) (by decide) fun l a hp => ⟨iso_len (l, a.1, a.2.1, a.2.2) hp, iso_run (l, a.1, a.2.1, a.2.2) hp⟩
noncomputable def C_rot : Cfg := ⟨Try.prog, [], pmT [], 58, [E_swr], []⟩
theorem es_rot : EsOk Try.prog [] [E_swr] := el_cons E_swr_ok (es_nil)
def Lt_rot : Nat → LD := ldTL 1 [(0, ⟨[.list 0 500 74 13 tSEn, .c 2 (.int .i64), .fn 4 64 [], .c 10 (.int .i64), .c 11 (.int .i64)], [], 1⟩)]
noncomputable def M_rot (f : Nat) (a : (List (SEn)) × Int × Int × Int × Unit) : Option (Unit × (List (SEn))) := (runX (C_rot) Lt_rot (KretI Try.prog 74 13 tSEn [] []) f [.code (bodyOf Try.f108)] (initXL false 74 13 tSEn [.c (.int .i64), .c (.int .i64), .c (.int .i64), .fn 64 []] a.1 [] (a.2.1, a.2.2.1, a.2.2.2.1, a.2.2.2.2)) : Option ((ResT [] × List (RowT tSEn))))
noncomputable def L_rot_0 (f : Nat) (x : (List (SEn)) × Int × Unit × Int × Int) : Option (Unit × (List (SEn))) := (runX (C_rot) Lt_rot (KretI Try.prog 74 13 tSEn [] []) f (headOf Try.f108 0) ((Lt_rot 0).mk' x) : Option ((ResT [] × List (RowT tSEn))))
theorem M_rot_eq (f : Nat) (data : List (SEn)) (a : Int) (m : Int) (b : Int) (cmp : Unit) : M_rot (f + 1) (data, a, m, b, cmp) =
    L_rot_0 f (data, m, (), IntKind.i64.wrap (m - a), IntKind.i64.wrap (b - m)) := by kernel_rfl
theorem L_rot_0_eq (f : Nat) (data : List (SEn)) (m : Int) (cmp : Unit) (i : Int) (j : Int) : L_rot_0 (f + 1) (data, m, cmp, i, j) =
    bif i != j then bif decide (i > j) then bif swrP (data, IntKind.i64.wrap (m - i), m, j, ()) then L_rot_0 f ((swrS (data, IntKind.i64.wrap (m - i), m, j, ())).2, m, (), IntKind.i64.wrap (i - j), j) else none else bif swrP (data, IntKind.i64.wrap (m - i), IntKind.i64.wrap (IntKind.i64.wrap (m + j) - i), i, ()) then L_rot_0 f ((swrS (data, IntKind.i64.wrap (m - i), IntKind.i64.wrap (IntKind.i64.wrap (m + j) - i), i, ())).2, m, (), i, IntKind.i64.wrap (j - i)) else none else bif swrP (data, IntKind.i64.wrap (m - i), m, i, ()) then some ((), (swrS (data, IntKind.i64.wrap (m - i), m, i, ())).2) else none := by kernel_rfl
def rotS (a : List SEn × Int × Int × Int × Unit) : Unit × List SEn := ((), a.1.take a.2.1.toNat ++ (mid a.1 a.2.2.1 a.2.2.2.1 ++ (mid a.1 a.2.1 a.2.2.1 ++ a.1.drop a.2.2.2.1.toNat)))
def seg3 {α : Type} (l : List α) (a m b : Int) : Bool := decide (0 ≤ a) && (decide (a < m) && (decide (m < b) && (decide (b ≤ (l.length : Nat)) && decide (l.length ≤ 1099511627776))))
theorem seg3_iff {α : Type} {l : List α} {a m b : Int} : seg3 l a m b = true ↔ 0 ≤ a ∧ a < m ∧ m < b ∧ b ≤ (l.length : Nat) ∧ l.length ≤ 1099511627776 := by simp [seg3]
theorem cut4 {α : Type} {x u v y : List α} {a m b : Int} (ha : a = (x.length : Nat)) (hm : m = ((x.length + u.length : Nat) : Int)) (hb : b = ((x.length + u.length + v.length : Nat) : Int)) :
    (x ++ (u ++ (v ++ y))).take a.toNat = x ∧ mid (x ++ (u ++ (v ++ y))) a m = u ∧ mid (x ++ (u ++ (v ++ y))) m b = v ∧ (x ++ (u ++ (v ++ y))).drop b.toNat = y := by
  obtain ⟨c1, c2, _⟩ := cut3 (x := x) (u := u) (y := v ++ y) ha hm
  obtain ⟨_, c4, c5⟩ := cut3 (x := x ++ u) (u := v) (y := y) (a := m) (b := b) (by simp only [List.length_append]; exact hm) (by simp only [List.length_append]; exact hb)
  simp only [List.append_assoc] at c4 c5
  exact ⟨c1, c2, c4, c5⟩
theorem cut4_ex {α : Type} {l : List α} {a m b : Int} (h0 : 0 ≤ a) (h1 : a ≤ m) (h2 : m ≤ b) (h3 : b ≤ (l.length : Nat)) : ∃ x u v y, l = x ++ (u ++ (v ++ y)) ∧ a = (x.length : Nat) ∧ m = ((x.length + u.length : Nat) : Int) ∧ b = ((x.length + u.length + v.length : Nat) : Int) := by
  obtain ⟨d1, d2, d3⟩ := cut3_ex (l := l) (a := a) (b := m) h0 h1 (by omega)
  obtain ⟨f1, f2, f3⟩ := cut3_ex (l := l.drop m.toNat) (a := 0) (b := b - m) (by omega) (by omega) (by rw [List.length_drop]; omega)
  refine ⟨_, _, mid (l.drop m.toNat) 0 (b - m), (l.drop m.toNat).drop (b - m).toNat, ?_, d2, d3, ?_⟩
  · rw [show mid (l.drop m.toNat) 0 (b - m) ++ (l.drop m.toNat).drop (b - m).toNat = l.drop m.toNat by
      rw [show (0 : Int).toNat = 0 from rfl, List.take_zero, List.nil_append] at f1; exact f1.symm]
    exact d1
  · rw [show (0 : Int).toNat = 0 from rfl, List.take_zero, List.length_nil] at f3; omega
theorem rotS_dec {x u v y : List SEn} {a m b : Int} {c : Unit} (ha : a = (x.length : Nat)) (hm : m = ((x.length + u.length : Nat) : Int)) (hb : b = ((x.length + u.length + v.length : Nat) : Int)) : rotS (x ++ (u ++ (v ++ y)), a, m, b, c) = ((), x ++ (v ++ (u ++ y))) := by
  obtain ⟨c1, c2, c3, c4⟩ := cut4 (y := y) ha hm hb
  simp only [rotS, c1, c2, c3, c4]
theorem rot_0 : ∀ (k : Nat) (L R x y : List SEn) (m i j : Int), L.length + R.length = k → 0 < L.length → 0 < R.length → i = (L.length : Nat) → j = (R.length : Nat) → m = ((x.length + L.length : Nat) : Int) → (x ++ (L ++ (R ++ y))).length ≤ 1099511627776 →
    ∃ f, L_rot_0 f (x ++ (L ++ (R ++ y)), m, (), i, j) = some ((), x ++ (R ++ (L ++ y))) := by
  intro k
  induction k using Nat.strongRecOn with
  | _ k ih =>
  intro L R x y m i j hk hL hR hi hj hm hl
  simp only [List.length_append] at hl
  have w1 : IntKind.i64.wrap (m - i) = m - i := i64_id (by omega) (by omega)
  have w2 : IntKind.i64.wrap (m + j) = m + j := i64_id (by omega) (by omega)
  have w3 : IntKind.i64.wrap (m + j - i) = m + j - i := i64_id (by omega) (by omega)
  have w4 : IntKind.i64.wrap (i - j) = i - j := i64_id (by omega) (by omega)
  have w5 : IntKind.i64.wrap (j - i) = j - i := i64_id (by omega) (by omega)
  have hp : ∀ a b n : Int, 0 ≤ a → 0 ≤ n → a + n ≤ b → b + n ≤ ((x ++ (L ++ (R ++ y))).length : Nat) → swrP (x ++ (L ++ (R ++ y)), a, b, n, ()) = true := fun a b n q1 q2 q3 q4 => by
    simp only [swrP, Bool.and_eq_true, decide_eq_true_eq]
    exact ⟨q1, q2, q3, q4, by simp only [List.length_append]; omega⟩
  by_cases hij : i = j
  · refine ⟨1, (L_rot_0_eq 0 _ _ _ _ _).trans ?_⟩
    have e := swr_dec (x := x) (P := L) (q := []) (R := R) (y := y) (a := m - i) (b := m) (n := i) (u := ()) (by omega) (by omega) (by simp; omega) hi
    rw [List.nil_append, List.nil_append] at e
    have eb : (i != j) = false := by rw [hij]; simp
    rw [eb, w1, hp (m - i) m i (by omega) (by omega) (by omega) (by simp only [List.length_append]; omega), e]
    rfl
  have eb : (i != j) = true := by simpa using hij
  by_cases hgt : i > j
  · obtain ⟨L1, L2, rfl, h1⟩ : ∃ L1 L2, L = L1 ++ L2 ∧ L1.length = R.length := ⟨L.take R.length, L.drop R.length, (List.take_append_drop _ _).symm, by rw [List.length_take]; omega⟩
    simp only [List.length_append] at hk hL hi hm hl
    obtain ⟨f, hf⟩ := ih (L2.length + L1.length) (by omega) L2 L1 (x ++ R) y m (i - j) j rfl (by omega) (by omega) (by omega) (by omega) (by simp only [List.length_append]; omega) (by simp only [List.length_append]; omega)
    refine ⟨f + 1, (L_rot_0_eq f _ _ _ _ _).trans ?_⟩
    have e := swr_dec (x := x) (P := L1) (q := L2) (R := R) (y := y) (a := m - i) (b := m) (n := j) (u := ()) h1 (by omega) (by omega) (by omega)
    rw [eb, decide_eq_true hgt, w1, hp (m - i) m j (by omega) (by omega) (by omega) (by simp only [List.length_append]; omega), w4]
    simp only [cond_true, List.append_assoc, e]
    simpa using hf
  · obtain ⟨R1, R2, rfl, h1⟩ : ∃ R1 R2, R = R1 ++ R2 ∧ R2.length = L.length := ⟨R.take (R.length - L.length), R.drop (R.length - L.length), (List.take_append_drop _ _).symm, by rw [List.length_drop]; omega⟩
    simp only [List.length_append] at hk hR hj hl
    obtain ⟨f, hf⟩ := ih (R2.length + R1.length) (by omega) R2 R1 x (L ++ y) m i (j - i) rfl (by omega) (by omega) (by omega) (by omega) (by omega) (by simp only [List.length_append]; omega)
    refine ⟨f + 1, (L_rot_0_eq f _ _ _ _ _).trans ?_⟩
    have e := swr_dec (x := x) (P := L) (q := R1) (R := R2) (y := y) (a := m - i) (b := m + j - i) (n := i) (u := ()) h1.symm (by omega) (by omega) hi
    rw [eb, decide_eq_false hgt, w1, w2, w3, hp (m - i) (m + j - i) i (by omega) (by omega) (by omega) (by simp only [List.length_append]; omega), w5]
    simp only [cond_true, cond_false, List.append_assoc, e]
    simpa using hf
theorem rot_run : ∀ a, (fun a : List SEn × Int × Int × Int × Unit => seg3 a.1 a.2.1 a.2.2.1 a.2.2.2.1) a = true → ∃ f, M_rot f a = some (rotS a) := by
  rintro ⟨l, a, m, b, u⟩ h
  have h : seg3 l a m b = true := h
  obtain ⟨h0, h1, h2, h3, h4⟩ := seg3_iff.1 h
  obtain ⟨x, L, R, y, rfl, e1, e2, e3⟩ := cut4_ex h0 (Int.le_of_lt h1) (Int.le_of_lt h2) h3
  have hl := h4
  simp only [List.length_append] at hl
  have w1 : IntKind.i64.wrap (m - a) = m - a := i64_id (by omega) (by omega)
  have w2 : IntKind.i64.wrap (b - m) = b - m := i64_id (by omega) (by omega)
  obtain ⟨f, hf⟩ := rot_0 _ L R x y m (m - a) (b - m) rfl (by omega) (by omega) (by omega) (by omega) e2 h4
  exact ⟨f + 1, (M_rot_eq f _ _ _ _ _).trans (by rw [w1, w2, rotS_dec e1 e2 e3]; exact hf)⟩
theorem rot_len : ∀ a, (fun a : List SEn × Int × Int × Int × Unit => seg3 a.1 a.2.1 a.2.2.1 a.2.2.2.1) a = true → (rotS a).2.length = a.1.length := by
  rintro ⟨l, a, m, b, u⟩ h
  have h : seg3 l a m b = true := h
  obtain ⟨h0, h1, h2, h3, h4⟩ := seg3_iff.1 h
  obtain ⟨x, L, R, y, rfl, e1, e2, e3⟩ := cut4_ex h0 (Int.le_of_lt h1) (Int.le_of_lt h2) h3
  rw [rotS_dec e1 e2 e3]
  simp only [List.length_append]; omega
noncomputable def E_rot : EntL := ⟨108, false, false, 74, 13, tSEn, [.c (.int .i64), .c (.int .i64), .c (.int .i64), .fn 64 []], [], fun l l2 a => (fun a => seg3 a.1 a.2.1 a.2.2.1 a.2.2.2.1 : (List (SEn)) × Int × Int × Int × Unit → Bool) (l, a.1, a.2.1, a.2.2.1, a.2.2.2), fun l l2 a => (rotS : (List (SEn)) × Int × Int × Int × Unit → Unit × (List (SEn))) (l, a.1, a.2.1, a.2.2.1, a.2.2.2)⟩
theorem E_rot_ok : E_rot.Ok Try.prog := entL_io (C := C_rot) (Lt := Lt_rot) (fn := Try.f108) (rs := []) E_rot Try.prog rfl rfl rfl mixed es_rot rfl (ldTL_ln (by decide +kernel)) Try.func108 rfl rfl rfl (by decide) (by kernel_rfl) (by kernel_rfl) (by decide) fun l a hp => ⟨rot_len (l, a.1, a.2.1, a.2.2.1, a.2.2.2) hp, rot_run (l, a.1, a.2.1, a.2.2.1, a.2.2.2) hp⟩
end Go.AL
