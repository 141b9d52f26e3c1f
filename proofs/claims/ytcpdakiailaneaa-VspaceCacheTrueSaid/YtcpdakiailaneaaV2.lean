/-
  Layer 16: lists of tables; search; checks. By an AI agent.
-/
import Derived.Test.YtcpdakiailaneaaV1
namespace Go.AL
open Go.Proofs
set_option linter.unusedVariables false
set_option linter.unusedSimpArgs false
def zPT : SPT := (0, 0, 0, [])
theorem lastAt {α : Type} {z : α} {p : List α} (r : List α) (hp : p ≠ []) (hl : p.length ≤ 1099511627776) : (p ++ r).getD (IntKind.i64.wrap (((p.length : Nat) : Int) - 1)).toNat z = p.getLastD z ∧ decide (0 ≤ IntKind.i64.wrap (((p.length : Nat) : Int) - 1)) = true ∧ decide (IntKind.i64.wrap (((p.length : Nat) : Int) - 1) < (((p ++ r).length : Nat) : Int)) = true := by
  obtain ⟨q, y, rfl⟩ : ∃ q y, p = q ++ [y] := ⟨p.dropLast, p.getLast hp, (List.dropLast_concat_getLast hp).symm⟩
  have e : IntKind.i64.wrap ((((q ++ [y]).length : Nat) : Int) - 1) = ((q.length : Nat) : Int) := by
    rw [i64_id (by omega) (by omega)]; simp
  rw [e]
  refine ⟨?_, decide_eq_true (by omega), decide_eq_true (by simp; omega)⟩
  rw [Int.toNat_natCast]; simp
def tsL : List SPT → List SPT → Bool
  | _, [] => true
  | p, u :: r => tabB u && ((bif p.isEmpty then true else decide ((p.getLastD zPT).1 < u.1)) && tsL (p ++ [u]) r)
def tabsB (ts : List SPT) : Bool := tsL [] ts
def okM (l : List SPT) : Bool := len40n l && l.all fun t => len40n t.2.2.2
theorem okM_len {l : List SPT} (h : okM l = true) : l.length ≤ 1099511627776 := of_decide_eq_true (Bool.and_eq_true_iff.1 h).1
theorem okM_mem {l : List SPT} (h : okM l = true) {t : SPT} (ht : t ∈ l) : len40n t.2.2.2 = true := List.all_eq_true.1 (Bool.and_eq_true_iff.1 h).2 t ht
noncomputable def C_vval : Cfg := ⟨Try.prog, [E_ptv], pmT [(4, ([(0, []), (1, []), (2, []), (3, []), (4, []), (5, []), (6, []), (7, []), (8, []), (9, []), (10, []), (11, []), (12, []), (13, []), (14, []), (15, []), (16, []), (17, [])], [(12, 29)]))], 31, [], []⟩
theorem es_vval : EsOk Try.prog [E_ptv] [] := es_cons E_ptv_ok (es_nil)
def Lt_vval : Nat → LD := ldT [(0, ⟨[.rd 0 tSPT, .rd 5 tSPT, .c 6 (.int .i64), .c 7 (.int .i64)], [], 0⟩)]
noncomputable def M_vval (f : Nat) (a : (List (SPT))) : Option (Bool) := (runX (C_vval) Lt_vval (Kret Try.prog [.tmp 2] [.v (.bool)]) f [.code (bodyOf Try.f34)] (initX [.rd tSPT] a) : Option (ResT [.v (.bool)]))
noncomputable def L_vval_0 (f : Nat) (x : (List (SPT)) × (List (SPT)) × Int × Int) : Option (Bool) := (runX (C_vval) Lt_vval (Kret Try.prog [.tmp 2] [.v (.bool)]) f (headOf Try.f34 0) ((Lt_vval 0).mk' x) : Option (ResT [.v (.bool)]))
theorem M_vval_eq (f : Nat) (ts : List (SPT)) : M_vval (f + 1) ts =
    L_vval_0 f (ts, ts, (↑ts.length : Int), 0) := by kernel_rfl
theorem L_vval_0_eq (f : Nat) (ts : List (SPT)) (x5 : List (SPT)) (x6 : Int) (x7 : Int) : L_vval_0 (f + 1) (ts, x5, x6, x7) =
    bif decide (x7 < x6) then bif decide (0 ≤ x7) && decide (x7 < (↑x5.length : Int)) then bif len40n (x5.getD x7.toNat (0, 0, 0, [])).2.2.2 then bif !tabB (x5.getD x7.toNat (0, 0, 0, [])) then some false else bif decide (x7 > 0) then bif decide (0 ≤ IntKind.i64.wrap (x7 - 1)) && decide (IntKind.i64.wrap (x7 - 1) < (↑ts.length : Int)) then bif decide ((ts.getD (IntKind.i64.wrap (x7 - 1)).toNat (0, 0, 0, [])).1 ≥ (x5.getD x7.toNat (0, 0, 0, [])).1) then some false else L_vval_0 f (ts, x5, x6, IntKind.i64.wrap (x7 + 1)) else none else L_vval_0 f (ts, x5, x6, IntKind.i64.wrap (x7 + 1)) else none else none else some true := by kernel_rfl
noncomputable def F_vval_0 : List (SPT) → ((List (SPT)) × (List (SPT)) × Int × Nat) → Bool
  | [], (ts, x5, x6, x7) => true
  | uu :: rest, (ts, x5, x6, x7) => bif !tabB uu then false else bif decide ((↑x7 : Int) > 0) then bif decide ((ts.getD (IntKind.i64.wrap ((↑x7 : Int) - 1)).toNat (0, 0, 0, [])).1 ≥ uu.1) then false else F_vval_0 rest (ts, x5, x6, x7 + 1) else F_vval_0 rest (ts, x5, x6, x7 + 1)
noncomputable def P_vval_0 : List (SPT) → ((List (SPT)) × (List (SPT)) × Int × Nat) → Bool
  | [], (ts, x5, x6, x7) => true
  | uu :: rest, (ts, x5, x6, x7) => len40n uu.2.2.2 && bif !tabB uu then true else bif decide ((↑x7 : Int) > 0) then decide (0 ≤ IntKind.i64.wrap ((↑x7 : Int) - 1)) && decide (IntKind.i64.wrap ((↑x7 : Int) - 1) < (↑ts.length : Int)) && bif decide ((ts.getD (IntKind.i64.wrap ((↑x7 : Int) - 1)).toNat (0, 0, 0, [])).1 ≥ uu.1) then true else P_vval_0 rest (ts, x5, x6, x7 + 1) else P_vval_0 rest (ts, x5, x6, x7 + 1)
theorem A_vval_0 : ∀ (rest : List (SPT)) (ts : List (SPT)) (x5 : List (SPT)) (x6 : Int) (x7 : Nat) (hd : x5.drop x7 = rest) (hn : x6 = ((x5.length : Nat) : Int)) (hl : x5.length ≤ 1099511627776), Rns (fun f => L_vval_0 f (ts, x5, x6, ((x7 : Nat) : Int))) (P_vval_0 rest (ts, x5, x6, x7)) (F_vval_0 rest (ts, x5, x6, x7))
  | [], ts, x5, x6, x7, hd, hn, hl => ev_step (T := fun f => some true) (fun f => (L_vval_0_eq f _ _ _ _).trans (by simp only [ge_decn hn (drop_ge hd), ge0, Bool.and_self, Bool.true_and, cond_true, cond_false, List.length_set] <;> rfl)) ev_some
  | uu :: rest, ts, x5, x6, x7, hd, hn, hl => ev_step (T := fun f => bif len40n uu.2.2.2 then bif !tabB uu then some false else bif decide ((↑x7 : Int) > 0) then bif decide (0 ≤ IntKind.i64.wrap ((↑x7 : Int) - 1)) && decide (IntKind.i64.wrap ((↑x7 : Int) - 1) < (↑ts.length : Int)) then bif decide ((ts.getD (IntKind.i64.wrap ((↑x7 : Int) - 1)).toNat (0, 0, 0, [])).1 ≥ uu.1) then some false else L_vval_0 f (ts, x5, x6, (↑(x7 + 1) : Int)) else none else L_vval_0 f (ts, x5, x6, (↑(x7 + 1) : Int)) else none) (fun f => (L_vval_0_eq f _ _ _ _).trans (by simp only [lt_decn hn (drop_lt hd), lt_dec (drop_lt hd), drop_get hd, wrap_succ (drop_lt hd) hl, getD_set (drop_lt hd), ge0, Bool.and_self, Bool.true_and, cond_true, cond_false, List.length_set] <;> rfl)) (ev_chk (ev_bif ev_some (ev_bif (ev_chk (ev_bif ev_some (A_vval_0 rest _ _ _ _ (by first | exact drop_succ hd | exact drop_set hd | exact drop_setS (drop_set hd)) (by first | exact hn | simpa using hn) (by first | exact hl | simpa using hl)))) (A_vval_0 rest _ _ _ _ (by first | exact drop_succ hd | exact drop_set hd | exact drop_setS (drop_set hd)) (by first | exact hn | simpa using hn) (by first | exact hl | simpa using hl)))))
noncomputable def F_vval : (List (SPT)) → Bool
  | ts => F_vval_0 ts (ts, ts, (↑ts.length : Int), 0)
noncomputable def P_vval : (List (SPT)) → Bool
  | ts => decide (ts.length ≤ 1099511627776) && P_vval_0 ts (ts, ts, (↑ts.length : Int), 0)
theorem vval_auto : ∀ a : (List (SPT)), Rns (fun f => M_vval f a) (P_vval a) (F_vval a)
  | ts => ev_step (fun f => M_vval_eq f _) (ev_and fun hh => A_vval_0 _ _ _ _ _ rfl (by first | rfl | simp) (of_decide_eq_true hh))
theorem vval_0 (x6 : Int) : ∀ (r p : List SPT), okM (p ++ r) = true → F_vval_0 r (p ++ r, p ++ r, x6, p.length) = tsL p r ∧ P_vval_0 r (p ++ r, p ++ r, x6, p.length) = true
  | [], p, h => ⟨rfl, rfl⟩
  | u :: r, p, h => by
    have hl := okM_len h
    have hu := okM_mem h (show u ∈ p ++ u :: r by simp)
    have e9 : p ++ u :: r = (p ++ [u]) ++ r := by simp
    obtain ⟨i1, i2⟩ := vval_0 x6 r (p ++ [u]) (by rw [← e9]; exact h)
    rw [← e9, show (p ++ [u]).length = p.length + 1 by simp] at i1 i2
    have ez : ((0, 0, 0, []) : SPT) = zPT := rfl
    simp only [F_vval_0, P_vval_0, tsL, hu, i1, i2, ez, Bool.true_and]
    by_cases hne : p = []
    · subst hne
      cases tabB u <;> exact ⟨rfl, rfl⟩
    · obtain ⟨a1, a2, a3⟩ := lastAt (z := zPT) (u :: r) hne (by simp at hl; omega)
      have h0 : 0 < p.length := List.length_pos_iff.2 hne
      rw [a1, a2, a3, show decide (((p.length : Nat) : Int) > 0) = true from decide_eq_true (by omega)]
      have e1 : p.isEmpty = false := by cases p with
        | nil => exact absurd rfl hne
        | cons a t => rfl
      have e2 : decide ((p.getLastD zPT).1 ≥ u.1) = !decide ((p.getLastD zPT).1 < u.1) := by rw [← decide_not]; exact decide_eq_decide.2 (by omega)
      rw [e1, e2]
      cases tabB u <;> cases decide ((p.getLastD zPT).1 < u.1) <;> exact ⟨rfl, rfl⟩
theorem vval_P : ∀ a : List SPT, okM a = true → P_vval a = true := fun a h => by
  have := (vval_0 ((a.length : Nat) : Int) a [] h).2
  simp only [P_vval, decide_eq_true (okM_len h), Bool.true_and]; exact this
theorem vval_F : ∀ a : List SPT, okM a = true → F_vval a = tabsB a := fun a h => by
  have := (vval_0 ((a.length : Nat) : Int) a [] h).1
  simp only [F_vval]; exact this
theorem vval_run : ∀ a, (okM : (List (SPT)) → Bool) a = true → ∃ f, M_vval f a = some ((tabsB : (List (SPT)) → Bool) a) := fun a h => by have h1 := vval_auto a (vval_P a h); rw [vval_F a h] at h1; exact h1
noncomputable def E_vval : Ent := ⟨34, [.rd tSPT], [.v (.bool)], fun a => (okM : (List (SPT)) → Bool) a, fun a => (tabsB : (List (SPT)) → Bool) a⟩
theorem E_vval_ok : E_vval.Ok Try.prog := fun a hp vs hv => (vval_run a hp).elim fun f h => fnX_ok (C := C_vval) (Lt := Lt_vval) (fn := Try.f34) (rs := [.tmp 2]) [.rd tSPT] [.v (.bool)] mixed es_vval Try.func34 rfl rfl rfl (by kernel_rfl) (by kernel_rfl) f h vs hv
noncomputable def C_ixf : Cfg := ⟨Try.prog, [E_ff1], pmT [], 19, [], []⟩
theorem es_ixf : EsOk Try.prog [E_ff1] [] := es_cons E_ff1_ok (es_nil)
def Lt_ixf : Nat → LD := ldT [(0, ⟨[.rd 0 tSPT, .fn 1 95 [[.int .i64]], .c 7 (.int .i64), .c 8 (.int .i64)], [], 0⟩)]
noncomputable def M_ixf (f : Nat) (a : (List (SPT)) × Int) : Option (Int) := (runX (C_ixf) Lt_ixf (Kret Try.prog [.tmp 4] [.v (.int .i64)]) f [.code (bodyOf Try.f58)] (initX [.rd tSPT, .fn 95 [[.int .i64]]] a) : Option (ResT [.v (.int .i64)]))
noncomputable def L_ixf_0 (f : Nat) (x : (List (SPT)) × Int × Int × Int) : Option (Int) := (runX (C_ixf) Lt_ixf (Kret Try.prog [.tmp 4] [.v (.int .i64)]) f (headOf Try.f58 0) ((Lt_ixf 0).mk' x) : Option (ResT [.v (.int .i64)]))
theorem M_ixf_eq (f : Nat) (s : List (SPT)) (pf : Int) : M_ixf (f + 1) (s, pf) =
    L_ixf_0 f (s, pf, (↑s.length : Int), 0) := by kernel_rfl
theorem L_ixf_0_eq (f : Nat) (s : List (SPT)) (f0 : Int) (x7 : Int) (x8 : Int) : L_ixf_0 (f + 1) (s, f0, x7, x8) =
    bif decide (x8 < x7) then bif decide (0 ≤ x8) && decide (x8 < (↑s.length : Int)) then bif decide ((s.getD x8.toNat (0, 0, 0, [])).1 = f0) then some x8 else L_ixf_0 f (s, f0, x7, IntKind.i64.wrap (x8 + 1)) else none else some (-1) := by kernel_rfl
noncomputable def F_ixf_0 : List (SPT) → ((List (SPT)) × Int × Int × Nat) → Int
  | [], (s, f0, x7, x8) => -1
  | uu :: rest, (s, f0, x7, x8) => bif decide (uu.1 = f0) then (↑x8 : Int) else F_ixf_0 rest (s, f0, x7, x8 + 1)
noncomputable def P_ixf_0 : List (SPT) → ((List (SPT)) × Int × Int × Nat) → Bool
  | [], (s, f0, x7, x8) => true
  | uu :: rest, (s, f0, x7, x8) => bif decide (uu.1 = f0) then true else P_ixf_0 rest (s, f0, x7, x8 + 1)
theorem A_ixf_0 : ∀ (rest : List (SPT)) (s : List (SPT)) (f0 : Int) (x7 : Int) (x8 : Nat) (hd : s.drop x8 = rest) (hn : x7 = ((s.length : Nat) : Int)) (hl : s.length ≤ 1099511627776), Rns (fun f => L_ixf_0 f (s, f0, x7, ((x8 : Nat) : Int))) (P_ixf_0 rest (s, f0, x7, x8)) (F_ixf_0 rest (s, f0, x7, x8))
  | [], s, f0, x7, x8, hd, hn, hl => ev_step (T := fun f => some (-1)) (fun f => (L_ixf_0_eq f _ _ _ _).trans (by simp only [ge_decn hn (drop_ge hd), ge0, Bool.and_self, Bool.true_and, cond_true, cond_false, List.length_set] <;> rfl)) ev_some
  | uu :: rest, s, f0, x7, x8, hd, hn, hl => ev_step (T := fun f => bif decide (uu.1 = f0) then some (↑x8 : Int) else L_ixf_0 f (s, f0, x7, (↑(x8 + 1) : Int))) (fun f => (L_ixf_0_eq f _ _ _ _).trans (by simp only [lt_decn hn (drop_lt hd), lt_dec (drop_lt hd), drop_get hd, wrap_succ (drop_lt hd) hl, getD_set (drop_lt hd), ge0, Bool.and_self, Bool.true_and, cond_true, cond_false, List.length_set] <;> rfl)) (ev_bif ev_some (A_ixf_0 rest _ _ _ _ (by first | exact drop_succ hd | exact drop_set hd | exact drop_setS (drop_set hd)) (by first | exact hn | simpa using hn) (by first | exact hl | simpa using hl)))
noncomputable def F_ixf : ((List (SPT)) × Int) → Int
  | (s, pf) => F_ixf_0 s (s, pf, (↑s.length : Int), 0)
noncomputable def P_ixf : ((List (SPT)) × Int) → Bool
  | (s, pf) => decide (s.length ≤ 1099511627776) && P_ixf_0 s (s, pf, (↑s.length : Int), 0)
theorem ixf_auto : ∀ a : (List (SPT)) × Int, Rns (fun f => M_ixf f a) (P_ixf a) (F_ixf a)
  | (s, pf) => ev_step (fun f => M_ixf_eq f _ _) (ev_and fun hh => A_ixf_0 _ _ _ _ _ rfl (by first | rfl | simp) (of_decide_eq_true hh))
theorem ixf_0 (l : List SPT) (b x : Int) : ∀ (r : List SPT) (k : Nat), F_ixf_0 r (l, b, x, k) = findI (fun t => decide (t.1 = b)) r k ∧ P_ixf_0 r (l, b, x, k) = true
  | [], k => ⟨rfl, rfl⟩
  | u :: r, k => by
    obtain ⟨i1, i2⟩ := ixf_0 l b x r (k + 1)
    simp only [F_ixf_0, P_ixf_0, findI, i1, i2]
    exact ⟨rfl, by cases decide (u.1 = b) <;> rfl⟩
theorem ixf_P : ∀ a : List SPT × Int, len40n a.1 = true → P_ixf a = true := fun a h => by simp only [P_ixf, (ixf_0 _ _ _ _ _).2, Bool.and_true]; exact h
theorem ixf_F : ∀ a : List SPT × Int, len40n a.1 = true → F_ixf a = ftS a.1 a.2 := fun a h => by simp only [F_ixf, (ixf_0 _ _ _ _ _).1]; rfl
theorem ixf_run : ∀ a, (fun a => len40n a.1 : (List (SPT)) × Int → Bool) a = true → ∃ f, M_ixf f a = some ((fun a => ftS a.1 a.2 : (List (SPT)) × Int → Int) a) := fun a h => by have h1 := ixf_auto a (ixf_P a h); rw [ixf_F a h] at h1; exact h1
noncomputable def E_ixf : Ent := ⟨58, [.rd tSPT, .fn 95 [[.int .i64]]], [.v (.int .i64)], fun a => (fun a => len40n a.1 : (List (SPT)) × Int → Bool) a, fun a => (fun a => ftS a.1 a.2 : (List (SPT)) × Int → Int) a⟩
theorem E_ixf_ok : E_ixf.Ok Try.prog := fun a hp vs hv => (ixf_run a hp).elim fun f h => fnX_ok (C := C_ixf) (Lt := Lt_ixf) (fn := Try.f58) (rs := [.tmp 4]) [.rd tSPT, .fn 95 [[.int .i64]]] [.v (.int .i64)] mixed es_ixf Try.func58 rfl rfl rfl (by kernel_rfl) (by kernel_rfl) f h vs hv
noncomputable def C_ixm : Cfg := ⟨Try.prog, [E_fm1], pmT [], 19, [], []⟩
theorem es_ixm : EsOk Try.prog [E_fm1] [] := es_cons E_fm1_ok (es_nil)
def Lt_ixm : Nat → LD := ldT [(0, ⟨[.rd 0 tSMp, .fn 1 105 [[.int .i64]], .c 7 (.int .i64), .c 8 (.int .i64)], [], 0⟩)]
noncomputable def M_ixm (f : Nat) (a : (List (SMp)) × Int) : Option (Int) := (runX (C_ixm) Lt_ixm (Kret Try.prog [.tmp 4] [.v (.int .i64)]) f [.code (bodyOf Try.f104)] (initX [.rd tSMp, .fn 105 [[.int .i64]]] a) : Option (ResT [.v (.int .i64)]))
noncomputable def L_ixm_0 (f : Nat) (x : (List (SMp)) × Int × Int × Int) : Option (Int) := (runX (C_ixm) Lt_ixm (Kret Try.prog [.tmp 4] [.v (.int .i64)]) f (headOf Try.f104 0) ((Lt_ixm 0).mk' x) : Option (ResT [.v (.int .i64)]))
theorem M_ixm_eq (f : Nat) (s : List (SMp)) (pf : Int) : M_ixm (f + 1) (s, pf) =
    L_ixm_0 f (s, pf, (↑s.length : Int), 0) := by kernel_rfl
theorem L_ixm_0_eq (f : Nat) (s : List (SMp)) (f0 : Int) (x7 : Int) (x8 : Int) : L_ixm_0 (f + 1) (s, f0, x7, x8) =
    bif decide (x8 < x7) then bif decide (0 ≤ x8) && decide (x8 < (↑s.length : Int)) then bif decide ((s.getD x8.toNat (0, 0, 0, 0, 0, 0)).1 = f0) then some x8 else L_ixm_0 f (s, f0, x7, IntKind.i64.wrap (x8 + 1)) else none else some (-1) := by kernel_rfl
noncomputable def F_ixm_0 : List (SMp) → ((List (SMp)) × Int × Int × Nat) → Int
  | [], (s, f0, x7, x8) => -1
  | uu :: rest, (s, f0, x7, x8) => bif decide (uu.1 = f0) then (↑x8 : Int) else F_ixm_0 rest (s, f0, x7, x8 + 1)
noncomputable def P_ixm_0 : List (SMp) → ((List (SMp)) × Int × Int × Nat) → Bool
  | [], (s, f0, x7, x8) => true
  | uu :: rest, (s, f0, x7, x8) => bif decide (uu.1 = f0) then true else P_ixm_0 rest (s, f0, x7, x8 + 1)
theorem A_ixm_0 : ∀ (rest : List (SMp)) (s : List (SMp)) (f0 : Int) (x7 : Int) (x8 : Nat) (hd : s.drop x8 = rest) (hn : x7 = ((s.length : Nat) : Int)) (hl : s.length ≤ 1099511627776), Rns (fun f => L_ixm_0 f (s, f0, x7, ((x8 : Nat) : Int))) (P_ixm_0 rest (s, f0, x7, x8)) (F_ixm_0 rest (s, f0, x7, x8))
  | [], s, f0, x7, x8, hd, hn, hl => ev_step (T := fun f => some (-1)) (fun f => (L_ixm_0_eq f _ _ _ _).trans (by simp only [ge_decn hn (drop_ge hd), ge0, Bool.and_self, Bool.true_and, cond_true, cond_false, List.length_set] <;> rfl)) ev_some
  | uu :: rest, s, f0, x7, x8, hd, hn, hl => ev_step (T := fun f => bif decide (uu.1 = f0) then some (↑x8 : Int) else L_ixm_0 f (s, f0, x7, (↑(x8 + 1) : Int))) (fun f => (L_ixm_0_eq f _ _ _ _).trans (by simp only [lt_decn hn (drop_lt hd), lt_dec (drop_lt hd), drop_get hd, wrap_succ (drop_lt hd) hl, getD_set (drop_lt hd), ge0, Bool.and_self, Bool.true_and, cond_true, cond_false, List.length_set] <;> rfl)) (ev_bif ev_some (A_ixm_0 rest _ _ _ _ (by first | exact drop_succ hd | exact drop_set hd | exact drop_setS (drop_set hd)) (by first | exact hn | simpa using hn) (by first | exact hl | simpa using hl)))
noncomputable def F_ixm : ((List (SMp)) × Int) → Int
  | (s, pf) => F_ixm_0 s (s, pf, (↑s.length : Int), 0)
noncomputable def P_ixm : ((List (SMp)) × Int) → Bool
  | (s, pf) => decide (s.length ≤ 1099511627776) && P_ixm_0 s (s, pf, (↑s.length : Int), 0)
theorem ixm_auto : ∀ a : (List (SMp)) × Int, Rns (fun f => M_ixm f a) (P_ixm a) (F_ixm a)
  | (s, pf) => ev_step (fun f => M_ixm_eq f _ _) (ev_and fun hh => A_ixm_0 _ _ _ _ _ rfl (by first | rfl | simp) (of_decide_eq_true hh))
theorem ixm_0 (l : List SMp) (b x : Int) : ∀ (r : List SMp) (k : Nat), F_ixm_0 r (l, b, x, k) = findI (fun t => decide (t.1 = b)) r k ∧ P_ixm_0 r (l, b, x, k) = true
  | [], k => ⟨rfl, rfl⟩
  | u :: r, k => by
    obtain ⟨i1, i2⟩ := ixm_0 l b x r (k + 1)
    simp only [F_ixm_0, P_ixm_0, findI, i1, i2]
    exact ⟨rfl, by cases decide (u.1 = b) <;> rfl⟩
theorem ixm_P : ∀ a : List SMp × Int, len40n a.1 = true → P_ixm a = true := fun a h => by simp only [P_ixm, (ixm_0 _ _ _ _ _).2, Bool.and_true]; exact h
theorem ixm_F : ∀ a : List SMp × Int, len40n a.1 = true → F_ixm a = fmS a.1 a.2 := fun a h => by simp only [F_ixm, (ixm_0 _ _ _ _ _).1]; rfl
theorem ixm_run : ∀ a, (fun a => len40n a.1 : (List (SMp)) × Int → Bool) a = true → ∃ f, M_ixm f a = some ((fun a => fmS a.1 a.2 : (List (SMp)) × Int → Int) a) := fun a h => by have h1 := ixm_auto a (ixm_P a h); rw [ixm_F a h] at h1; exact h1
noncomputable def E_ixm : Ent := ⟨104, [.rd tSMp, .fn 105 [[.int .i64]]], [.v (.int .i64)], fun a => (fun a => len40n a.1 : (List (SMp)) × Int → Bool) a, fun a => (fun a => fmS a.1 a.2 : (List (SMp)) × Int → Int) a⟩
theorem E_ixm_ok : E_ixm.Ok Try.prog := fun a hp vs hv => (ixm_run a hp).elim fun f h => fnX_ok (C := C_ixm) (Lt := Lt_ixm) (fn := Try.f104) (rs := [.tmp 4]) [.rd tSMp, .fn 105 [[.int .i64]]] [.v (.int .i64)] mixed es_ixm Try.func104 rfl rfl rfl (by kernel_rfl) (by kernel_rfl) f h vs hv
noncomputable def C_find : Cfg := ⟨Try.prog, [E_ff1, E_ixf], pmT [], 13, [], []⟩
theorem es_find : EsOk Try.prog [E_ff1, E_ixf] [] := es_cons E_ff1_ok (es_cons E_ixf_ok (es_nil))
def Lt_find : Nat → LD := ldT []
noncomputable def M_find (f : Nat) (a : (List (SPT)) × Int) : Option (Int × Bool) := (runX (C_find) Lt_find (Kret Try.prog [.tmp 4, .tmp 5] [.v (.int .i64), .v (.bool)]) f [.code (bodyOf Try.f57)] (initX [.rd tSPT, .c (.int .i64)] a) : Option (ResT [.v (.int .i64), .v (.bool)]))
theorem M_find_eq (f : Nat) (ts : List (SPT)) (base : Int) : M_find (f + 1) (ts, base) =
    bif len40n ts then some (ftS ts base, decide (ftS ts base ≥ 0)) else none := by kernel_rfl
noncomputable def F_find : ((List (SPT)) × Int) → Int × Bool
  | (ts, base) => (ftS ts base, decide (ftS ts base ≥ 0))
noncomputable def P_find : ((List (SPT)) × Int) → Bool
  | (ts, base) => len40n ts
theorem find_auto : ∀ a : (List (SPT)) × Int, Rns (fun f => M_find f a) (P_find a) (F_find a)
  | (ts, base) => ev_step (fun f => M_find_eq f _ _) (ev_chk1 ev_some)
theorem find_P : ∀ a : List SPT × Int, len40n a.1 = true → P_find a = true := fun a h => h
theorem find_F : ∀ a : List SPT × Int, len40n a.1 = true → F_find a = (fun a : List SPT × Int => (ftS a.1 a.2, decide (ftS a.1 a.2 ≥ 0))) a := fun a h => rfl
theorem find_run : ∀ a, (fun a => len40n a.1 : (List (SPT)) × Int → Bool) a = true → ∃ f, M_find f a = some ((fun a => (ftS a.1 a.2, decide (ftS a.1 a.2 ≥ 0)) : (List (SPT)) × Int → Int × Bool) a) := fun a h => by have h1 := find_auto a (find_P a h); rw [find_F a h] at h1; exact h1
noncomputable def E_find : Ent := ⟨57, [.rd tSPT, .c (.int .i64)], [.v (.int .i64), .v (.bool)], fun a => (fun a => len40n a.1 : (List (SPT)) × Int → Bool) a, fun a => (fun a => (ftS a.1 a.2, decide (ftS a.1 a.2 ≥ 0)) : (List (SPT)) × Int → Int × Bool) a⟩
theorem E_find_ok : E_find.Ok Try.prog := fun a hp vs hv => (find_run a hp).elim fun f h => fnX_ok (C := C_find) (Lt := Lt_find) (fn := Try.f57) (rs := [.tmp 4, .tmp 5]) [.rd tSPT, .c (.int .i64)] [.v (.int .i64), .v (.bool)] mixed es_find Try.func57 rfl rfl rfl (by kernel_rfl) (by kernel_rfl) f h vs hv
noncomputable def C_mapg : Cfg := ⟨Try.prog, [E_fm1, E_ixm], pmT [], 14, [], []⟩
theorem es_mapg : EsOk Try.prog [E_fm1, E_ixm] [] := es_cons E_fm1_ok (es_cons E_ixm_ok (es_nil))
def Lt_mapg : Nat → LD := ldT []
noncomputable def M_mapg (f : Nat) (a : SPT × Int) : Option (Int × Bool) := (runX (C_mapg) Lt_mapg (Kret Try.prog [.tmp 4, .tmp 5] [.v (.int .i64), .v (.bool)]) f [.code (bodyOf Try.f65)] (initX [.g tSPT, .c (.int .i64)] a) : Option (ResT [.v (.int .i64), .v (.bool)]))
theorem M_mapg_eq (f : Nat) (t : SPT) (index : Int) : M_mapg (f + 1) (t, index) =
    bif len40n t.2.2.2 then some (fmS t.2.2.2 index, decide (fmS t.2.2.2 index ≥ 0)) else none := by kernel_rfl
noncomputable def F_mapg : (SPT × Int) → Int × Bool
  | (t, index) => (fmS t.2.2.2 index, decide (fmS t.2.2.2 index ≥ 0))
noncomputable def P_mapg : (SPT × Int) → Bool
  | (t, index) => len40n t.2.2.2
theorem mapg_auto : ∀ a : SPT × Int, Rns (fun f => M_mapg f a) (P_mapg a) (F_mapg a)
  | (t, index) => ev_step (fun f => M_mapg_eq f _ _) (ev_chk1 ev_some)
theorem mapg_P : ∀ a : SPT × Int, len40n a.1.2.2.2 = true → P_mapg a = true := fun a h => h
theorem mapg_F : ∀ a : SPT × Int, len40n a.1.2.2.2 = true → F_mapg a = (fun a : SPT × Int => (fmS a.1.2.2.2 a.2, decide (fmS a.1.2.2.2 a.2 ≥ 0))) a := fun a h => rfl
theorem mapg_run : ∀ a, (fun a => len40n a.1.2.2.2 : SPT × Int → Bool) a = true → ∃ f, M_mapg f a = some ((fun a => (fmS a.1.2.2.2 a.2, decide (fmS a.1.2.2.2 a.2 ≥ 0)) : SPT × Int → Int × Bool) a) := fun a h => by have h1 := mapg_auto a (mapg_P a h); rw [mapg_F a h] at h1; exact h1
noncomputable def E_mapg : Ent := ⟨65, [.g tSPT, .c (.int .i64)], [.v (.int .i64), .v (.bool)], fun a => (fun a => len40n a.1.2.2.2 : SPT × Int → Bool) a, fun a => (fun a => (fmS a.1.2.2.2 a.2, decide (fmS a.1.2.2.2 a.2 ≥ 0)) : SPT × Int → Int × Bool) a⟩
theorem E_mapg_ok : E_mapg.Ok Try.prog := fun a hp vs hv => (mapg_run a hp).elim fun f h => fnX_ok (C := C_mapg) (Lt := Lt_mapg) (fn := Try.f65) (rs := [.tmp 4, .tmp 5]) [.g tSPT, .c (.int .i64)] [.v (.int .i64), .v (.bool)] mixed es_mapg Try.func65 rfl rfl rfl (by kernel_rfl) (by kernel_rfl) f h vs hv
noncomputable def C_cidx : Cfg := ⟨Try.prog, [E_geom], pmT [], 25, [], []⟩
theorem es_cidx : EsOk Try.prog [E_geom] [] := es_cons E_geom_ok (es_nil)
def Lt_cidx : Nat → LD := ldT []
noncomputable def M_cidx (f : Nat) (a : SCp × Int) : Option (Int) := (runX (C_cidx) Lt_cidx (Kret Try.prog [.tmp 4] [.v (.int .i64)]) f [.code (bodyOf Try.f55)] (initX [.g tSCp, .c (.int .i64)] a) : Option (ResT [.v (.int .i64)]))
theorem M_cidx_eq (f : Nat) (table : SCp) (index : Int) : M_cidx (f + 1) (table, index) =
    bif decide (index < 0) then some 6 else bif decide (0 ≤ (geoS table.2.2.2.2.1).2.1) then bif decide (index ≥ IntKind.i64.wrap (1 * 2 ^ min (Int.toNat (geoS table.2.2.2.2.1).2.1) IntKind.i64.bits)) then some 6 else some 0 else none := by kernel_rfl
noncomputable def F_cidx : (SCp × Int) → Int
  | (table, index) => bif decide (index < 0) then 6 else bif decide (index ≥ IntKind.i64.wrap (1 * 2 ^ min (Int.toNat (geoS table.2.2.2.2.1).2.1) IntKind.i64.bits)) then 6 else 0
noncomputable def P_cidx : (SCp × Int) → Bool
  | (table, index) => bif decide (index < 0) then true else decide (0 ≤ (geoS table.2.2.2.2.1).2.1)
theorem cidx_auto : ∀ a : SCp × Int, Rns (fun f => M_cidx f a) (P_cidx a) (F_cidx a)
  | (table, index) => ev_step (fun f => M_cidx_eq f _ _) (ev_bif ev_some (ev_chk1 (ev_bift ev_some ev_some)))
def cidxS (a : SCp × Int) : Int := bif decide (a.2 < 0) || decide (a.2 ≥ lim a.1.2.2.2.2.1) then 6 else 0
theorem cidx_both : ∀ a : SCp × Int, P_cidx a = true ∧ F_cidx a = cidxS a := by
  rintro ⟨t, i⟩
  simp only [P_cidx, F_cidx, cidxS, lim_p, geo_nn]
  cases decide (i < 0) <;> cases decide (i ≥ lim t.2.2.2.2.1) <;> exact ⟨rfl, rfl⟩
theorem cidx_P : ∀ a : SCp × Int, (fun _ => true) a = true → P_cidx a = true := fun a _ => (cidx_both a).1
theorem cidx_F : ∀ a : SCp × Int, (fun _ => true) a = true → F_cidx a = cidxS a := fun a _ => (cidx_both a).2
theorem cidx_run : ∀ a, (fun _ => true : SCp × Int → Bool) a = true → ∃ f, M_cidx f a = some ((cidxS : SCp × Int → Int) a) := fun a h => by have h1 := cidx_auto a (cidx_P a h); rw [cidx_F a h] at h1; exact h1
noncomputable def E_cidx : Ent := ⟨55, [.g tSCp, .c (.int .i64)], [.v (.int .i64)], fun a => (fun _ => true : SCp × Int → Bool) a, fun a => (cidxS : SCp × Int → Int) a⟩
theorem E_cidx_ok : E_cidx.Ok Try.prog := fun a hp vs hv => (cidx_run a hp).elim fun f h => fnX_ok (C := C_cidx) (Lt := Lt_cidx) (fn := Try.f55) (rs := [.tmp 4]) [.g tSCp, .c (.int .i64)] [.v (.int .i64)] mixed es_cidx Try.func55 rfl rfl rfl (by kernel_rfl) (by kernel_rfl) f h vs hv
end Go.AL
