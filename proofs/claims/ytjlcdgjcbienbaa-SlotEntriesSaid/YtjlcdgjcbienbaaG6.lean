/-
  Capability spaces: Valid, Reserve, and how capability spaces are made. By an AI agent.
-/
import Derived.Test.YtjlcdgjcbienbaaG5
namespace Go.AL
open Go.Proofs
set_option linter.unusedVariables false
set_option linter.unusedSimpArgs false
def vsloB (s : SSl) : Bool := decide (0 ≤ sop s) && (decide (sop s ≤ 1073741824) && bif empB s then decide (snd s = zNdl) && decide (slk s = (0, 0, 0)) else vnodB (snd s) && (decide (slk s = (0, 0, 0)) || (vidB (slk s) && decide ((slk s).2.2 = 0))))
noncomputable def C_vslo : Cfg := ⟨Try.prog, [E_emp, E_neq, E_nval, E_vid], pmT [], 43, [], []⟩
theorem es_vslo : EsOk Try.prog [E_emp, E_neq, E_nval, E_vid] [] := es_cons E_emp_ok (es_cons E_neq_ok (es_cons E_nval_ok (es_cons E_vid_ok (es_nil))))
def Lt_vslo : Nat → LD := ldT []
noncomputable def M_vslo (f : Nat) (a : SSl) : Option (Bool) := (runX (C_vslo) Lt_vslo (Kret Try.prog [.tmp 2] [.v (.bool)]) f [.code (bodyOf Try.f54)] (initX [.g tSSl] a) : Option (ResT [.v (.bool)]))
theorem M_vslo_eq (f : Nat) (s : SSl) : M_vslo (f + 1) s =
    bif decide (s.2.2.2.2.2.2.2.2.2.2.2.1 < 0) then some false else bif decide (s.2.2.2.2.2.2.2.2.2.2.2.1 > 1073741824) then some false else bif empB s then bif len40n s.2.2.2.1 then bif decide ((s.1, s.2.1, s.2.2.1, s.2.2.2.1, s.2.2.2.2.1, s.2.2.2.2.2.1, s.2.2.2.2.2.2.1, s.2.2.2.2.2.2.2.1, s.2.2.2.2.2.2.2.2.1, s.2.2.2.2.2.2.2.2.2.1, s.2.2.2.2.2.2.2.2.2.2.1) = (0, 0, 0, [], 0, 0, 0, 0, 0, 0, false)) then some (s.2.2.2.2.2.2.2.2.2.2.2.2.1 == 0 && (s.2.2.2.2.2.2.2.2.2.2.2.2.2.1 == 0 && (s.2.2.2.2.2.2.2.2.2.2.2.2.2.2 == 0 && true))) else some false else none else bif vnodB (s.1, s.2.1, s.2.2.1, s.2.2.2.1, s.2.2.2.2.1, s.2.2.2.2.2.1, s.2.2.2.2.2.2.1, s.2.2.2.2.2.2.2.1, s.2.2.2.2.2.2.2.2.1, s.2.2.2.2.2.2.2.2.2.1, s.2.2.2.2.2.2.2.2.2.2.1) then bif s.2.2.2.2.2.2.2.2.2.2.2.2.1 == 0 && (s.2.2.2.2.2.2.2.2.2.2.2.2.2.1 == 0 && (s.2.2.2.2.2.2.2.2.2.2.2.2.2.2 == 0 && true)) then some true else bif vidB s.2.2.2.2.2.2.2.2.2.2.2.2 then some (s.2.2.2.2.2.2.2.2.2.2.2.2.2.2 == 0) else some false else some false := by kernel_rfl
noncomputable def F_vslo : SSl → Bool
  | s => bif decide (s.2.2.2.2.2.2.2.2.2.2.2.1 < 0) then false else bif decide (s.2.2.2.2.2.2.2.2.2.2.2.1 > 1073741824) then false else bif empB s then bif decide ((s.1, s.2.1, s.2.2.1, s.2.2.2.1, s.2.2.2.2.1, s.2.2.2.2.2.1, s.2.2.2.2.2.2.1, s.2.2.2.2.2.2.2.1, s.2.2.2.2.2.2.2.2.1, s.2.2.2.2.2.2.2.2.2.1, s.2.2.2.2.2.2.2.2.2.2.1) = (0, 0, 0, [], 0, 0, 0, 0, 0, 0, false)) then s.2.2.2.2.2.2.2.2.2.2.2.2.1 == 0 && (s.2.2.2.2.2.2.2.2.2.2.2.2.2.1 == 0 && (s.2.2.2.2.2.2.2.2.2.2.2.2.2.2 == 0 && true)) else false else bif vnodB (s.1, s.2.1, s.2.2.1, s.2.2.2.1, s.2.2.2.2.1, s.2.2.2.2.2.1, s.2.2.2.2.2.2.1, s.2.2.2.2.2.2.2.1, s.2.2.2.2.2.2.2.2.1, s.2.2.2.2.2.2.2.2.2.1, s.2.2.2.2.2.2.2.2.2.2.1) then bif s.2.2.2.2.2.2.2.2.2.2.2.2.1 == 0 && (s.2.2.2.2.2.2.2.2.2.2.2.2.2.1 == 0 && (s.2.2.2.2.2.2.2.2.2.2.2.2.2.2 == 0 && true)) then true else bif vidB s.2.2.2.2.2.2.2.2.2.2.2.2 then s.2.2.2.2.2.2.2.2.2.2.2.2.2.2 == 0 else false else false
noncomputable def P_vslo : SSl → Bool
  | s => bif decide (s.2.2.2.2.2.2.2.2.2.2.2.1 < 0) then true else bif decide (s.2.2.2.2.2.2.2.2.2.2.2.1 > 1073741824) then true else bif empB s then len40n s.2.2.2.1 else true
theorem vslo_auto : ∀ a : SSl, Rns (fun f => M_vslo f a) (P_vslo a) (F_vslo a)
  | s => ev_step (fun f => M_vslo_eq f _) (ev_bif ev_some (ev_bif ev_some (ev_bif (ev_chk1 (ev_bift ev_some ev_some)) (ev_bift (ev_bift ev_some (ev_bift ev_some ev_some)) ev_some))))
theorem slk0_eq (u : SSl) : (u.2.2.2.2.2.2.2.2.2.2.2.2.1 == 0 && (u.2.2.2.2.2.2.2.2.2.2.2.2.2.1 == 0 && (u.2.2.2.2.2.2.2.2.2.2.2.2.2.2 == 0 && true))) = decide (slk u = (0, 0, 0)) := id_eq (slk u) (0, 0, 0)
theorem ge_not (a b : Int) : decide (a ≤ b) = !decide (b < a) := by rw [← decide_not]; exact decide_eq_decide.2 (by omega)
theorem vslo_P : ∀ a : SSl, len40n a.2.2.2.1 = true → P_vslo a = true := fun a h => by simp only [P_vslo, h]; simp
theorem vslo_F : ∀ a : SSl, len40n a.2.2.2.1 = true → F_vslo a = vsloB a := fun s h => by
  simp only [F_vslo, vsloB, slk0_eq, ge_not]
  have e : ((slk s).2.2 == 0) = decide ((slk s).2.2 = 0) := beqI _ _
  show (bif decide (sop s < 0) then false else bif decide (1073741824 < sop s) then false else bif empB s then bif decide (snd s = zNdl) then decide (slk s = (0, 0, 0)) else false else bif vnodB (snd s) then bif decide (slk s = (0, 0, 0)) then true else bif vidB (slk s) then (slk s).2.2 == 0 else false else false) = _
  rw [e]
  cases decide (sop s < 0) <;> cases decide (1073741824 < sop s) <;> cases empB s <;> cases decide (snd s = zNdl) <;> cases vnodB (snd s) <;> cases decide (slk s = (0, 0, 0)) <;> cases vidB (slk s) <;> rfl
theorem vslo_run : ∀ a, (fun a => len40n a.2.2.2.1 : SSl → Bool) a = true → ∃ f, M_vslo f a = some ((vsloB : SSl → Bool) a) := fun a h => by have h1 := vslo_auto a (vslo_P a h); rw [vslo_F a h] at h1; exact h1
noncomputable def E_vslo : Ent := ⟨54, [.g tSSl], [.v (.bool)], fun a => (fun a => len40n a.2.2.2.1 : SSl → Bool) a, fun a => (vsloB : SSl → Bool) a⟩
theorem E_vslo_ok : E_vslo.Ok Try.prog := fun a hp vs hv => (vslo_run a hp).elim fun f h => fnX_ok (C := C_vslo) (Lt := Lt_vslo) (fn := Try.f54) (rs := [.tmp 2]) [.g tSSl] [.v (.bool)] mixed es_vslo Try.func54 rfl rfl rfl (by kernel_rfl) (by kernel_rfl) f h vs hv
def goodS : List SSl → List SSl → Bool
  | _, [] => true
  | pre, u :: r => vsloB u && (!pre.any (hasS (sid u)) && goodS (pre ++ [u]) r)
def cvalS (l : List SSl) : Bool := decide (l.length ≤ 64) && goodS [] l
theorem findI_any {α : Type} {p : α → Bool} (l : List α) : decide (findI p l 0 ≥ 0) = l.any p := by
  cases h : l.any p
  · have := (findI_none (p := p) (l := l) (k := 0) (by omega)).1 (any_false h)
    rw [this]; rfl
  · rcases findI_ge (p := p) (l := l) (k := 0) (by omega) with h1 | h1
    · exact decide_eq_true h1
    · obtain ⟨x, hx, hp⟩ := List.any_eq_true.1 h
      have := (findI_none (p := p) (l := l) (k := 0) (by omega)).2 h1 x hx
      rw [hp] at this; cases this
theorem len64 (n : Nat) : decide (((n : Nat) : Int) > 64) = !decide (n ≤ 64) := by rw [← decide_not]; exact decide_eq_decide.2 (by omega)
theorem emp_sid {s : SSl} (h : empB s = true) : sid s = (0, 0, 0) := of_decide_eq_true h
noncomputable def C_cval : Cfg := ⟨Try.prog, [E_vslo, E_find], pmT [(8, ([(0, []), (1, []), (2, []), (3, []), (4, []), (5, []), (6, []), (7, []), (8, []), (9, []), (10, []), (11, [])], [(5, 6), (20, 29)]))], 32, [], []⟩
theorem es_cval : EsOk Try.prog [E_vslo, E_find] [] := es_cons E_vslo_ok (es_cons E_find_ok (es_nil))
def Lt_cval : Nat → LD := ldT [(0, ⟨[.rd 0 tSSl, .rd 10 tSSl, .c 11 (.int .i64), .c 12 (.int .i64)], [], 0⟩)]
noncomputable def M_cval (f : Nat) (a : (List (SSl))) : Option (Bool) := (runX (C_cval) Lt_cval (Kret Try.prog [.tmp 2] [.v (.bool)]) f [.code (bodyOf Try.f15)] (initX [.rd tSSl] a) : Option (ResT [.v (.bool)]))
noncomputable def L_cval_0 (f : Nat) (x : (List (SSl)) × (List (SSl)) × Int × Int) : Option (Bool) := (runX (C_cval) Lt_cval (Kret Try.prog [.tmp 2] [.v (.bool)]) f (headOf Try.f15 0) ((Lt_cval 0).mk' x) : Option (ResT [.v (.bool)]))
theorem M_cval_eq (f : Nat) (l : List (SSl)) : M_cval (f + 1) l =
    bif decide ((↑l.length : Int) > 64) then some false else L_cval_0 f (l, l, (↑l.length : Int), 0) := by kernel_rfl
theorem L_cval_0_eq (f : Nat) (l : List (SSl)) (x10 : List (SSl)) (x11 : Int) (x12 : Int) : L_cval_0 (f + 1) (l, x10, x11, x12) =
    bif decide (x12 < x11) then bif decide (0 ≤ x12) && decide (x12 < (↑x10.length : Int)) then bif len40n (x10.getD x12.toNat (0, 0, 0, [], 0, 0, 0, 0, 0, 0, false, 0, 0, 0, 0)).2.2.2.1 then bif !vsloB (x10.getD x12.toNat (0, 0, 0, [], 0, 0, 0, 0, 0, 0, false, 0, 0, 0, 0)) then some false else bif decide (0 ≤ x12) && decide (x12 ≤ (↑l.length : Int)) then bif len40n (List.take x12.toNat l) then bif (findS (List.take x12.toNat l, (x10.getD x12.toNat (0, 0, 0, [], 0, 0, 0, 0, 0, 0, false, 0, 0, 0, 0)).1, (x10.getD x12.toNat (0, 0, 0, [], 0, 0, 0, 0, 0, 0, false, 0, 0, 0, 0)).2.1, (x10.getD x12.toNat (0, 0, 0, [], 0, 0, 0, 0, 0, 0, false, 0, 0, 0, 0)).2.2.1)).2 then some false else L_cval_0 f (l, x10, x11, IntKind.i64.wrap (x12 + 1)) else none else none else none else none else some true := by kernel_rfl
noncomputable def F_cval_0 : List (SSl) → ((List (SSl)) × (List (SSl)) × Int × Nat) → Bool
  | [], (l, x10, x11, x12) => true
  | uu :: rest, (l, x10, x11, x12) => bif !vsloB uu then false else bif (findS (List.take (↑x12 : Int).toNat l, uu.1, uu.2.1, uu.2.2.1)).2 then false else F_cval_0 rest (l, x10, x11, x12 + 1)
noncomputable def P_cval_0 : List (SSl) → ((List (SSl)) × (List (SSl)) × Int × Nat) → Bool
  | [], (l, x10, x11, x12) => true
  | uu :: rest, (l, x10, x11, x12) => len40n uu.2.2.2.1 && bif !vsloB uu then true else decide ((↑x12 : Int) ≤ (↑l.length : Int)) && (len40n (List.take (↑x12 : Int).toNat l) && bif (findS (List.take (↑x12 : Int).toNat l, uu.1, uu.2.1, uu.2.2.1)).2 then true else P_cval_0 rest (l, x10, x11, x12 + 1))
theorem A_cval_0 : ∀ (rest : List (SSl)) (l : List (SSl)) (x10 : List (SSl)) (x11 : Int) (x12 : Nat) (hd : x10.drop x12 = rest) (hn : x11 = ((x10.length : Nat) : Int)) (hl : x10.length ≤ 1099511627776), Rns (fun f => L_cval_0 f (l, x10, x11, ((x12 : Nat) : Int))) (P_cval_0 rest (l, x10, x11, x12)) (F_cval_0 rest (l, x10, x11, x12))
  | [], l, x10, x11, x12, hd, hn, hl => ev_step (T := fun f => some true) (fun f => (L_cval_0_eq f _ _ _ _).trans (by simp only [ge_decn hn (drop_ge hd), ge0, Bool.and_self, Bool.true_and, cond_true, cond_false, List.length_set] <;> rfl)) ev_some
  | uu :: rest, l, x10, x11, x12, hd, hn, hl => ev_step (T := fun f => bif len40n uu.2.2.2.1 then bif !vsloB uu then some false else bif decide ((↑x12 : Int) ≤ (↑l.length : Int)) then bif len40n (List.take (↑x12 : Int).toNat l) then bif (findS (List.take (↑x12 : Int).toNat l, uu.1, uu.2.1, uu.2.2.1)).2 then some false else L_cval_0 f (l, x10, x11, (↑(x12 + 1) : Int)) else none else none else none) (fun f => (L_cval_0_eq f _ _ _ _).trans (by simp only [lt_decn hn (drop_lt hd), lt_dec (drop_lt hd), drop_get hd, wrap_succ (drop_lt hd) hl, getD_set (drop_lt hd), ge0, Bool.and_self, Bool.true_and, cond_true, cond_false, List.length_set] <;> rfl)) (ev_chk (ev_bif ev_some (ev_chk (ev_chk (ev_bif ev_some (A_cval_0 rest _ _ _ _ (by first | exact drop_succ hd | exact drop_set hd | exact drop_setS (drop_set hd)) (by first | exact hn | simpa using hn) (by first | exact hl | simpa using hl)))))))
noncomputable def F_cval : (List (SSl)) → Bool
  | l => bif decide ((↑l.length : Int) > 64) then false else F_cval_0 l (l, l, (↑l.length : Int), 0)
noncomputable def P_cval : (List (SSl)) → Bool
  | l => bif decide ((↑l.length : Int) > 64) then true else decide (l.length ≤ 1099511627776) && P_cval_0 l (l, l, (↑l.length : Int), 0)
theorem cval_auto : ∀ a : (List (SSl)), Rns (fun f => M_cval f a) (P_cval a) (F_cval a)
  | l => ev_step (fun f => M_cval_eq f _) (ev_bif ev_some (ev_and fun hh => A_cval_0 _ _ _ _ _ rfl (by first | rfl | simp) (of_decide_eq_true hh)))
theorem cval_0 (l : List SSl) (hl : okSl l = true) (l2 : List SSl) (n : Int) : ∀ (r : List SSl) (k : Nat), l.drop k = r → F_cval_0 r (l, l2, n, k) = goodS (l.take k) r ∧ P_cval_0 r (l, l2, n, k) = true
  | [], k, h => ⟨rfl, rfl⟩
  | u :: r, k, h => by
    obtain ⟨i1, i2⟩ := cval_0 l hl l2 n r (k + 1) (drop_succ h)
    have hu : len40n u.2.2.2.1 = true := okSl_mem hl (List.mem_of_getElem? (drop_get? h))
    have hkl := drop_lt h
    have hll : len40n (List.take (k : Int).toNat l) = true := decide_eq_true (by have := okSl_len hl; rw [List.length_take]; omega)
    have e1 : (findS (List.take (k : Int).toNat l, u.1, u.2.1, u.2.2.1)).2 = (l.take k).any (hasS (sid u)) := (findS_snd _ (sid u)).trans (findI_any _)
    simp only [F_cval_0, P_cval_0, i1, i2, e1, hu, hll, Bool.true_and, goodS, take_succ_drop h, decide_eq_true (show (k : Int) ≤ ((l.length : Nat) : Int) by omega)]
    constructor
    · cases vsloB u <;> cases (l.take k).any (hasS (sid u)) <;> rfl
    · simp
theorem cval_P : ∀ a : List SSl, okSl a = true → P_cval a = true := fun a h => by
  have := okSl_len h
  simp only [P_cval, (cval_0 a h _ _ a 0 rfl).2, decide_eq_true (show a.length ≤ 1099511627776 by omega)]; simp
theorem cval_F : ∀ a : List SSl, okSl a = true → F_cval a = cvalS a := fun a h => by
  simp only [F_cval, (cval_0 a h _ _ a 0 rfl).1, len64, cvalS]; cases decide (a.length ≤ 64) <;> rfl
theorem cval_run : ∀ a, (okSl : (List (SSl)) → Bool) a = true → ∃ f, M_cval f a = some ((cvalS : (List (SSl)) → Bool) a) := fun a h => by have h1 := cval_auto a (cval_P a h); rw [cval_F a h] at h1; exact h1
noncomputable def E_cval : Ent := ⟨15, [.rd tSSl], [.v (.bool)], fun a => (okSl : (List (SSl)) → Bool) a, fun a => (cvalS : (List (SSl)) → Bool) a⟩
theorem E_cval_ok : E_cval.Ok Try.prog := fun a hp vs hv => (cval_run a hp).elim fun f h => fnX_ok (C := C_cval) (Lt := Lt_cval) (fn := Try.f15) (rs := [.tmp 2]) [.rd tSSl] [.v (.bool)] mixed es_cval Try.func15 rfl rfl rfl (by kernel_rfl) (by kernel_rfl) f h vs hv
/-! ### Reserve -/
def badR (n : Int) : List Int → List Int → Bool
  | _, [] => false
  | pre, u :: r => decide (u < 0) || (decide (u ≥ n) || (memD u pre || badR n (pre ++ [u]) r))
def rsvL (l : List SSl) (op : Int) : List Int → List SSl → List SSl × Int
  | [], out => (out, 0)
  | u :: r, out => bif busB (l.getD u.toNat zSl) then ([], 4) else rsvL l op r (out.set u.toNat (setOp (out.getD u.toNat zSl) op))
def resS (a : List SSl × List Int × Int) : List SSl × Int := bif decide (a.2.2 < 1) || (decide (a.2.2 > 1073741824) || badR a.1.length [] a.2.1) then ([], 1) else rsvL a.1 a.2.2 a.2.1 a.1
theorem badR_in {n : Int} : ∀ {r pre : List Int}, badR n pre r = false → ∀ u ∈ r, 0 ≤ u ∧ u < n
  | [], pre, h, u, hu => by cases hu
  | v :: r, pre, h, u, hu => by
    simp only [badR, Bool.or_eq_false_iff, decide_eq_false_iff_not] at h
    rcases List.mem_cons.1 hu with rfl | hu
    · omega
    · exact badR_in h.2.2.2 u hu
def resPre (a : List SSl × List Int × Int) : Bool := okSl a.1 && len40n a.2.1
noncomputable def C_res : Cfg := ⟨Try.prog, [E_icon, E_cop, E_bus], pmT [], 62, [], []⟩
theorem es_res : EsOk Try.prog [E_icon, E_cop, E_bus] [] := es_cons E_icon_ok (es_cons E_cop_ok (es_cons E_bus_ok (es_nil)))
def Lt_res : Nat → LD := ldT [(0, ⟨[.rd 0 tSSl, .rd 1 [.int .i64], .c 2 (.int .i64), .rd 19 [.int .i64], .c 20 (.int .i64), .c 21 (.int .i64)], [], 0⟩), (2, ⟨[.rd 0 tSSl, .c 2 (.int .i64), .list 10 999 33 15 tSSl, .rd 44 [.int .i64], .c 45 (.int .i64), .c 46 (.int .i64)], [], 0⟩)]
noncomputable def M_res (f : Nat) (a : (List (SSl)) × (List (Int)) × Int) : Option ((List (SSl)) × Int) := (runX (C_res) Lt_res (Kret Try.prog [.tmp 6, .tmp 7] [.o 33 15 tSSl, .v (.int .i64)]) f [.code (bodyOf Try.f25)] (initX [.rd tSSl, .rd [.int .i64], .c (.int .i64)] a) : Option (ResT [.o 33 15 tSSl, .v (.int .i64)]))
noncomputable def L_res_0 (f : Nat) (x : (List (SSl)) × (List (Int)) × Int × (List (Int)) × Int × Int) : Option ((List (SSl)) × Int) := (runX (C_res) Lt_res (Kret Try.prog [.tmp 6, .tmp 7] [.o 33 15 tSSl, .v (.int .i64)]) f (headOf Try.f25 0) ((Lt_res 0).mk' x) : Option (ResT [.o 33 15 tSSl, .v (.int .i64)]))
noncomputable def L_res_2 (f : Nat) (x : (List (SSl)) × Int × (List (SSl)) × (List (Int)) × Int × Int) : Option ((List (SSl)) × Int) := (runX (C_res) Lt_res (Kret Try.prog [.tmp 6, .tmp 7] [.o 33 15 tSSl, .v (.int .i64)]) f (headOf Try.f25 2) ((Lt_res 2).mk' x) : Option (ResT [.o 33 15 tSSl, .v (.int .i64)]))
theorem M_res_eq (f : Nat) (l : List (SSl)) (slots : List (Int)) (op : Int) : M_res (f + 1) (l, slots, op) =
    bif decide (op < 1) then some ([], 1) else bif decide (op > 1073741824) then some ([], 1) else L_res_0 f (l, slots, op, slots, (↑slots.length : Int), 0) := by kernel_rfl
theorem L_res_0_eq (f : Nat) (l : List (SSl)) (slots : List (Int)) (op : Int) (x19 : List (Int)) (x20 : Int) (x21 : Int) : L_res_0 (f + 1) (l, slots, op, x19, x20, x21) =
    bif decide (x21 < x20) then bif decide (0 ≤ x21) && decide (x21 < (↑x19.length : Int)) then bif decide (x19.getD x21.toNat 0 < 0) then some ([], 1) else bif decide (x19.getD x21.toNat 0 ≥ (↑l.length : Int)) then some ([], 1) else bif decide (0 ≤ x21) && decide (x21 ≤ (↑slots.length : Int)) then bif len40n (List.take x21.toNat slots) then bif memD (x19.getD x21.toNat 0) (List.take x21.toNat slots) then some ([], 1) else L_res_0 f (l, slots, op, x19, x20, IntKind.i64.wrap (x21 + 1)) else none else none else none else bif okSl l then L_res_2 f (l, op, l, slots, (↑slots.length : Int), 0) else none := by kernel_rfl
theorem L_res_2_eq (f : Nat) (l : List (SSl)) (op : Int) (out : List (SSl)) (x44 : List (Int)) (x45 : Int) (x46 : Int) : L_res_2 (f + 1) (l, op, out, x44, x45, x46) =
    bif decide (x46 < x45) then bif decide (0 ≤ x46) && decide (x46 < (↑x44.length : Int)) then bif decide (0 ≤ x44.getD x46.toNat 0) && decide (x44.getD x46.toNat 0 < (↑l.length : Int)) then bif busB (l.getD (Int.toNat (x44.getD x46.toNat 0)) (0, 0, 0, [], 0, 0, 0, 0, 0, 0, false, 0, 0, 0, 0)) then some ([], 4) else bif decide (0 ≤ x44.getD x46.toNat 0) && decide (x44.getD x46.toNat 0 < (↑out.length : Int)) then L_res_2 f (l, op, out.set (Int.toNat (x44.getD x46.toNat 0)) ((out.getD (Int.toNat (x44.getD x46.toNat 0)) (0, 0, 0, [], 0, 0, 0, 0, 0, 0, false, 0, 0, 0, 0)).1, (out.getD (Int.toNat (x44.getD x46.toNat 0)) (0, 0, 0, [], 0, 0, 0, 0, 0, 0, false, 0, 0, 0, 0)).2.1, (out.getD (Int.toNat (x44.getD x46.toNat 0)) (0, 0, 0, [], 0, 0, 0, 0, 0, 0, false, 0, 0, 0, 0)).2.2.1, (out.getD (Int.toNat (x44.getD x46.toNat 0)) (0, 0, 0, [], 0, 0, 0, 0, 0, 0, false, 0, 0, 0, 0)).2.2.2.1, (out.getD (Int.toNat (x44.getD x46.toNat 0)) (0, 0, 0, [], 0, 0, 0, 0, 0, 0, false, 0, 0, 0, 0)).2.2.2.2.1, (out.getD (Int.toNat (x44.getD x46.toNat 0)) (0, 0, 0, [], 0, 0, 0, 0, 0, 0, false, 0, 0, 0, 0)).2.2.2.2.2.1, (out.getD (Int.toNat (x44.getD x46.toNat 0)) (0, 0, 0, [], 0, 0, 0, 0, 0, 0, false, 0, 0, 0, 0)).2.2.2.2.2.2.1, (out.getD (Int.toNat (x44.getD x46.toNat 0)) (0, 0, 0, [], 0, 0, 0, 0, 0, 0, false, 0, 0, 0, 0)).2.2.2.2.2.2.2.1, (out.getD (Int.toNat (x44.getD x46.toNat 0)) (0, 0, 0, [], 0, 0, 0, 0, 0, 0, false, 0, 0, 0, 0)).2.2.2.2.2.2.2.2.1, (out.getD (Int.toNat (x44.getD x46.toNat 0)) (0, 0, 0, [], 0, 0, 0, 0, 0, 0, false, 0, 0, 0, 0)).2.2.2.2.2.2.2.2.2.1, (out.getD (Int.toNat (x44.getD x46.toNat 0)) (0, 0, 0, [], 0, 0, 0, 0, 0, 0, false, 0, 0, 0, 0)).2.2.2.2.2.2.2.2.2.2.1, op, (out.getD (Int.toNat (x44.getD x46.toNat 0)) (0, 0, 0, [], 0, 0, 0, 0, 0, 0, false, 0, 0, 0, 0)).2.2.2.2.2.2.2.2.2.2.2.2), x44, x45, IntKind.i64.wrap (x46 + 1)) else none else none else none else some (out, 0) := by kernel_rfl
noncomputable def F_res_2 : List (Int) → ((List (SSl)) × Int × (List (SSl)) × (List (Int)) × Int × Nat) → (List (SSl)) × Int
  | [], (l, op, out, x44, x45, x46) => (out, 0)
  | uu :: rest, (l, op, out, x44, x45, x46) => bif busB (l.getD uu.toNat (0, 0, 0, [], 0, 0, 0, 0, 0, 0, false, 0, 0, 0, 0)) then ([], 4) else F_res_2 rest (l, op, out.set uu.toNat ((out.getD uu.toNat (0, 0, 0, [], 0, 0, 0, 0, 0, 0, false, 0, 0, 0, 0)).1, (out.getD uu.toNat (0, 0, 0, [], 0, 0, 0, 0, 0, 0, false, 0, 0, 0, 0)).2.1, (out.getD uu.toNat (0, 0, 0, [], 0, 0, 0, 0, 0, 0, false, 0, 0, 0, 0)).2.2.1, (out.getD uu.toNat (0, 0, 0, [], 0, 0, 0, 0, 0, 0, false, 0, 0, 0, 0)).2.2.2.1, (out.getD uu.toNat (0, 0, 0, [], 0, 0, 0, 0, 0, 0, false, 0, 0, 0, 0)).2.2.2.2.1, (out.getD uu.toNat (0, 0, 0, [], 0, 0, 0, 0, 0, 0, false, 0, 0, 0, 0)).2.2.2.2.2.1, (out.getD uu.toNat (0, 0, 0, [], 0, 0, 0, 0, 0, 0, false, 0, 0, 0, 0)).2.2.2.2.2.2.1, (out.getD uu.toNat (0, 0, 0, [], 0, 0, 0, 0, 0, 0, false, 0, 0, 0, 0)).2.2.2.2.2.2.2.1, (out.getD uu.toNat (0, 0, 0, [], 0, 0, 0, 0, 0, 0, false, 0, 0, 0, 0)).2.2.2.2.2.2.2.2.1, (out.getD uu.toNat (0, 0, 0, [], 0, 0, 0, 0, 0, 0, false, 0, 0, 0, 0)).2.2.2.2.2.2.2.2.2.1, (out.getD uu.toNat (0, 0, 0, [], 0, 0, 0, 0, 0, 0, false, 0, 0, 0, 0)).2.2.2.2.2.2.2.2.2.2.1, op, (out.getD uu.toNat (0, 0, 0, [], 0, 0, 0, 0, 0, 0, false, 0, 0, 0, 0)).2.2.2.2.2.2.2.2.2.2.2.2), x44, x45, x46 + 1)
noncomputable def P_res_2 : List (Int) → ((List (SSl)) × Int × (List (SSl)) × (List (Int)) × Int × Nat) → Bool
  | [], (l, op, out, x44, x45, x46) => true
  | uu :: rest, (l, op, out, x44, x45, x46) => decide (0 ≤ uu) && decide (uu < (↑l.length : Int)) && bif busB (l.getD uu.toNat (0, 0, 0, [], 0, 0, 0, 0, 0, 0, false, 0, 0, 0, 0)) then true else decide (0 ≤ uu) && decide (uu < (↑out.length : Int)) && P_res_2 rest (l, op, out.set uu.toNat ((out.getD uu.toNat (0, 0, 0, [], 0, 0, 0, 0, 0, 0, false, 0, 0, 0, 0)).1, (out.getD uu.toNat (0, 0, 0, [], 0, 0, 0, 0, 0, 0, false, 0, 0, 0, 0)).2.1, (out.getD uu.toNat (0, 0, 0, [], 0, 0, 0, 0, 0, 0, false, 0, 0, 0, 0)).2.2.1, (out.getD uu.toNat (0, 0, 0, [], 0, 0, 0, 0, 0, 0, false, 0, 0, 0, 0)).2.2.2.1, (out.getD uu.toNat (0, 0, 0, [], 0, 0, 0, 0, 0, 0, false, 0, 0, 0, 0)).2.2.2.2.1, (out.getD uu.toNat (0, 0, 0, [], 0, 0, 0, 0, 0, 0, false, 0, 0, 0, 0)).2.2.2.2.2.1, (out.getD uu.toNat (0, 0, 0, [], 0, 0, 0, 0, 0, 0, false, 0, 0, 0, 0)).2.2.2.2.2.2.1, (out.getD uu.toNat (0, 0, 0, [], 0, 0, 0, 0, 0, 0, false, 0, 0, 0, 0)).2.2.2.2.2.2.2.1, (out.getD uu.toNat (0, 0, 0, [], 0, 0, 0, 0, 0, 0, false, 0, 0, 0, 0)).2.2.2.2.2.2.2.2.1, (out.getD uu.toNat (0, 0, 0, [], 0, 0, 0, 0, 0, 0, false, 0, 0, 0, 0)).2.2.2.2.2.2.2.2.2.1, (out.getD uu.toNat (0, 0, 0, [], 0, 0, 0, 0, 0, 0, false, 0, 0, 0, 0)).2.2.2.2.2.2.2.2.2.2.1, op, (out.getD uu.toNat (0, 0, 0, [], 0, 0, 0, 0, 0, 0, false, 0, 0, 0, 0)).2.2.2.2.2.2.2.2.2.2.2.2), x44, x45, x46 + 1)
theorem A_res_2 : ∀ (rest : List (Int)) (l : List (SSl)) (op : Int) (out : List (SSl)) (x44 : List (Int)) (x45 : Int) (x46 : Nat) (hd : x44.drop x46 = rest) (hn : x45 = ((x44.length : Nat) : Int)) (hl : x44.length ≤ 1099511627776), Rns (fun f => L_res_2 f (l, op, out, x44, x45, ((x46 : Nat) : Int))) (P_res_2 rest (l, op, out, x44, x45, x46)) (F_res_2 rest (l, op, out, x44, x45, x46))
  | [], l, op, out, x44, x45, x46, hd, hn, hl => ev_step (T := fun f => some (out, 0)) (fun f => (L_res_2_eq f _ _ _ _ _ _).trans (by simp only [ge_decn hn (drop_ge hd), ge0, Bool.and_self, Bool.true_and, cond_true, cond_false, List.length_set] <;> rfl)) ev_some
  | uu :: rest, l, op, out, x44, x45, x46, hd, hn, hl => ev_step (T := fun f => bif decide (0 ≤ uu) && decide (uu < (↑l.length : Int)) then bif busB (l.getD uu.toNat (0, 0, 0, [], 0, 0, 0, 0, 0, 0, false, 0, 0, 0, 0)) then some ([], 4) else bif decide (0 ≤ uu) && decide (uu < (↑out.length : Int)) then L_res_2 f (l, op, out.set uu.toNat ((out.getD uu.toNat (0, 0, 0, [], 0, 0, 0, 0, 0, 0, false, 0, 0, 0, 0)).1, (out.getD uu.toNat (0, 0, 0, [], 0, 0, 0, 0, 0, 0, false, 0, 0, 0, 0)).2.1, (out.getD uu.toNat (0, 0, 0, [], 0, 0, 0, 0, 0, 0, false, 0, 0, 0, 0)).2.2.1, (out.getD uu.toNat (0, 0, 0, [], 0, 0, 0, 0, 0, 0, false, 0, 0, 0, 0)).2.2.2.1, (out.getD uu.toNat (0, 0, 0, [], 0, 0, 0, 0, 0, 0, false, 0, 0, 0, 0)).2.2.2.2.1, (out.getD uu.toNat (0, 0, 0, [], 0, 0, 0, 0, 0, 0, false, 0, 0, 0, 0)).2.2.2.2.2.1, (out.getD uu.toNat (0, 0, 0, [], 0, 0, 0, 0, 0, 0, false, 0, 0, 0, 0)).2.2.2.2.2.2.1, (out.getD uu.toNat (0, 0, 0, [], 0, 0, 0, 0, 0, 0, false, 0, 0, 0, 0)).2.2.2.2.2.2.2.1, (out.getD uu.toNat (0, 0, 0, [], 0, 0, 0, 0, 0, 0, false, 0, 0, 0, 0)).2.2.2.2.2.2.2.2.1, (out.getD uu.toNat (0, 0, 0, [], 0, 0, 0, 0, 0, 0, false, 0, 0, 0, 0)).2.2.2.2.2.2.2.2.2.1, (out.getD uu.toNat (0, 0, 0, [], 0, 0, 0, 0, 0, 0, false, 0, 0, 0, 0)).2.2.2.2.2.2.2.2.2.2.1, op, (out.getD uu.toNat (0, 0, 0, [], 0, 0, 0, 0, 0, 0, false, 0, 0, 0, 0)).2.2.2.2.2.2.2.2.2.2.2.2), x44, x45, (↑(x46 + 1) : Int)) else none else none) (fun f => (L_res_2_eq f _ _ _ _ _ _).trans (by simp only [lt_decn hn (drop_lt hd), lt_dec (drop_lt hd), drop_get hd, wrap_succ (drop_lt hd) hl, getD_set (drop_lt hd), ge0, Bool.and_self, Bool.true_and, cond_true, cond_false, List.length_set] <;> rfl)) (ev_chk (ev_bif ev_some (ev_chk (A_res_2 rest _ _ _ _ _ _ (by first | exact drop_succ hd | exact drop_set hd | exact drop_setS (drop_set hd)) (by first | exact hn | simpa using hn) (by first | exact hl | simpa using hl)))))
noncomputable def F_res_0 : List (Int) → ((List (SSl)) × (List (Int)) × Int × (List (Int)) × Int × Nat) → (List (SSl)) × Int
  | [], (l, slots, op, x19, x20, x21) => F_res_2 slots (l, op, l, slots, (↑slots.length : Int), 0)
  | uu :: rest, (l, slots, op, x19, x20, x21) => bif decide (uu < 0) then ([], 1) else bif decide (uu ≥ (↑l.length : Int)) then ([], 1) else bif memD uu (List.take (↑x21 : Int).toNat slots) then ([], 1) else F_res_0 rest (l, slots, op, x19, x20, x21 + 1)
noncomputable def P_res_0 : List (Int) → ((List (SSl)) × (List (Int)) × Int × (List (Int)) × Int × Nat) → Bool
  | [], (l, slots, op, x19, x20, x21) => okSl l && (decide (slots.length ≤ 1099511627776) && P_res_2 slots (l, op, l, slots, (↑slots.length : Int), 0))
  | uu :: rest, (l, slots, op, x19, x20, x21) => bif decide (uu < 0) then true else bif decide (uu ≥ (↑l.length : Int)) then true else decide ((↑x21 : Int) ≤ (↑slots.length : Int)) && (len40n (List.take (↑x21 : Int).toNat slots) && bif memD uu (List.take (↑x21 : Int).toNat slots) then true else P_res_0 rest (l, slots, op, x19, x20, x21 + 1))
theorem A_res_0 : ∀ (rest : List (Int)) (l : List (SSl)) (slots : List (Int)) (op : Int) (x19 : List (Int)) (x20 : Int) (x21 : Nat) (hd : x19.drop x21 = rest) (hn : x20 = ((x19.length : Nat) : Int)) (hl : x19.length ≤ 1099511627776), Rns (fun f => L_res_0 f (l, slots, op, x19, x20, ((x21 : Nat) : Int))) (P_res_0 rest (l, slots, op, x19, x20, x21)) (F_res_0 rest (l, slots, op, x19, x20, x21))
  | [], l, slots, op, x19, x20, x21, hd, hn, hl => ev_step (T := fun f => bif okSl l then L_res_2 f (l, op, l, slots, (↑slots.length : Int), 0) else none) (fun f => (L_res_0_eq f _ _ _ _ _ _).trans (by simp only [ge_decn hn (drop_ge hd), ge0, Bool.and_self, Bool.true_and, cond_true, cond_false, List.length_set] <;> rfl)) (ev_chk (ev_and fun hh => A_res_2 _ _ _ _ _ _ _ rfl (by first | rfl | simp) (of_decide_eq_true hh)))
  | uu :: rest, l, slots, op, x19, x20, x21, hd, hn, hl => ev_step (T := fun f => bif decide (uu < 0) then some ([], 1) else bif decide (uu ≥ (↑l.length : Int)) then some ([], 1) else bif decide ((↑x21 : Int) ≤ (↑slots.length : Int)) then bif len40n (List.take (↑x21 : Int).toNat slots) then bif memD uu (List.take (↑x21 : Int).toNat slots) then some ([], 1) else L_res_0 f (l, slots, op, x19, x20, (↑(x21 + 1) : Int)) else none else none) (fun f => (L_res_0_eq f _ _ _ _ _ _).trans (by simp only [lt_decn hn (drop_lt hd), lt_dec (drop_lt hd), drop_get hd, wrap_succ (drop_lt hd) hl, getD_set (drop_lt hd), ge0, Bool.and_self, Bool.true_and, cond_true, cond_false, List.length_set] <;> rfl)) (ev_bif ev_some (ev_bif ev_some (ev_chk (ev_chk (ev_bif ev_some (A_res_0 rest _ _ _ _ _ _ (by first | exact drop_succ hd | exact drop_set hd | exact drop_setS (drop_set hd)) (by first | exact hn | simpa using hn) (by first | exact hl | simpa using hl)))))))
noncomputable def F_res : ((List (SSl)) × (List (Int)) × Int) → (List (SSl)) × Int
  | (l, slots, op) => bif decide (op < 1) then ([], 1) else bif decide (op > 1073741824) then ([], 1) else F_res_0 slots (l, slots, op, slots, (↑slots.length : Int), 0)
noncomputable def P_res : ((List (SSl)) × (List (Int)) × Int) → Bool
  | (l, slots, op) => bif decide (op < 1) then true else bif decide (op > 1073741824) then true else decide (slots.length ≤ 1099511627776) && P_res_0 slots (l, slots, op, slots, (↑slots.length : Int), 0)
theorem res_auto : ∀ a : (List (SSl)) × (List (Int)) × Int, Rns (fun f => M_res f a) (P_res a) (F_res a)
  | (l, slots, op) => ev_step (fun f => M_res_eq f _ _ _) (ev_bif ev_some (ev_bif ev_some (ev_and fun hh => A_res_0 _ _ _ _ _ _ _ rfl (by first | rfl | simp) (of_decide_eq_true hh))))
theorem res_2 (l : List SSl) (op : Int) (s2 : List Int) (n : Int) : ∀ (r : List Int) (out : List SSl) (k : Nat), out.length = l.length → (∀ u ∈ r, 0 ≤ u ∧ u < ((l.length : Nat) : Int)) → F_res_2 r (l, op, out, s2, n, k) = rsvL l op r out ∧ P_res_2 r (l, op, out, s2, n, k) = true
  | [], out, k, ho, hr => ⟨rfl, rfl⟩
  | u :: r, out, k, ho, hr => by
    obtain ⟨i1, i2⟩ := res_2 l op s2 n r (out.set u.toNat (setOp (out.getD u.toNat zSl) op)) (k + 1) (by simp [ho]) (fun v hv => hr v (List.mem_cons_of_mem _ hv))
    obtain ⟨h1, h2⟩ := hr u (List.mem_cons_self ..)
    constructor
    · show (bif busB (l.getD u.toNat zSl) then ([], 4) else F_res_2 r (l, op, out.set u.toNat (setOp (out.getD u.toNat zSl) op), s2, n, k + 1)) = _
      rw [i1]; rfl
    · show (decide (0 ≤ u) && decide (u < ((l.length : Nat) : Int)) && bif busB (l.getD u.toNat zSl) then true else decide (0 ≤ u) && decide (u < ((out.length : Nat) : Int)) && P_res_2 r (l, op, out.set u.toNat (setOp (out.getD u.toNat zSl) op), s2, n, k + 1)) = true
      rw [i2, ho, decide_eq_true h1, decide_eq_true h2]; simp
theorem res_0 (l : List SSl) (hl : okSl l = true) (slots s2 : List Int) (n : Int) (hs : slots.length ≤ 1099511627776) (op : Int) : ∀ (r : List Int) (k : Nat), slots.drop k = r → badR l.length [] slots = badR l.length (slots.take k) r → F_res_0 r (l, slots, op, s2, n, k) = (bif badR l.length [] slots then ([], 1) else rsvL l op slots l) ∧ P_res_0 r (l, slots, op, s2, n, k) = true
  | [], k, h, hb => by
    have hb : badR l.length [] slots = false := hb
    obtain ⟨i1, i2⟩ := res_2 l op slots (((slots.length : Nat) : Int)) slots l 0 rfl (badR_in hb)
    simp only [F_res_0, P_res_0, i1, i2, hl, hb, decide_eq_true hs]
    exact ⟨rfl, rfl⟩
  | u :: r, k, h, hb => by
    have hkl := drop_lt h
    have hll : len40n (List.take k slots) = true := decide_eq_true (by rw [List.length_take]; omega)
    simp only [F_res_0, P_res_0, Int.toNat_natCast, hll, Bool.true_and, decide_eq_true (show (k : Int) ≤ ((slots.length : Nat) : Int) by omega)]
    rw [hb, badR]
    cases h1 : decide (u < 0)
    case true => exact ⟨rfl, rfl⟩
    cases h2 : decide (u ≥ ((l.length : Nat) : Int))
    case true => exact ⟨rfl, rfl⟩
    cases h3 : memD u (slots.take k)
    case true => exact ⟨rfl, rfl⟩
    obtain ⟨i1, i2⟩ := res_0 l hl slots s2 n hs op r (k + 1) (drop_succ h) (by rw [hb, badR, h1, h2, h3, take_succ_drop h]; rfl)
    rw [i1, i2, hb, badR, h1, h2, h3]
    exact ⟨rfl, rfl⟩
theorem res_P : ∀ a, resPre a = true → P_res a = true := by
  rintro ⟨l, slots, op⟩ h
  simp only [resPre, Bool.and_eq_true] at h
  simp only [P_res, (res_0 l h.1 slots _ _ (of_decide_eq_true h.2) op slots 0 rfl rfl).2, decide_eq_true (show slots.length ≤ 1099511627776 from of_decide_eq_true h.2)]; simp
theorem res_F : ∀ a, resPre a = true → F_res a = resS a := by
  rintro ⟨l, slots, op⟩ h
  simp only [resPre, Bool.and_eq_true] at h
  simp only [F_res, (res_0 l h.1 slots _ _ (of_decide_eq_true h.2) op slots 0 rfl rfl).1, resS]
  cases decide (op < 1) <;> cases decide (op > 1073741824) <;> rfl
theorem res_run : ∀ a, (resPre : (List (SSl)) × (List (Int)) × Int → Bool) a = true → ∃ f, M_res f a = some ((resS : (List (SSl)) × (List (Int)) × Int → (List (SSl)) × Int) a) := fun a h => by have h1 := res_auto a (res_P a h); rw [res_F a h] at h1; exact h1
noncomputable def E_res : Ent := ⟨25, [.rd tSSl, .rd [.int .i64], .c (.int .i64)], [.o 33 15 tSSl, .v (.int .i64)], fun a => (resPre : (List (SSl)) × (List (Int)) × Int → Bool) a, fun a => (resS : (List (SSl)) × (List (Int)) × Int → (List (SSl)) × Int) a⟩
theorem E_res_ok : E_res.Ok Try.prog := fun a hp vs hv => (res_run a hp).elim fun f h => fnX_ok (C := C_res) (Lt := Lt_res) (fn := Try.f25) (rs := [.tmp 6, .tmp 7]) [.rd tSSl, .rd [.int .i64], .c (.int .i64)] [.o 33 15 tSSl, .v (.int .i64)] mixed es_res Try.func25 rfl rfl rfl (by kernel_rfl) (by kernel_rfl) f h vs hv
end Go.AL
