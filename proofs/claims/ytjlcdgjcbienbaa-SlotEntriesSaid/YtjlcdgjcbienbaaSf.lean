/-
  The reference's ValidForest, for the entries of a capability space. By an AI agent.
-/
import Derived.Test.YtjlcdgjcbienbaaSe
namespace Go.AL
open Go.Proofs
set_option linter.unusedVariables false
set_option linter.unusedSimpArgs false
def okF (l : List SEn) : Bool := len36n l && okE l
theorem okF_E {l : List SEn} (h : okF l = true) : okE l = true := (Bool.and_eq_true_iff.1 h).2
theorem findE_lt (l : List SEn) (id : SId) : findE l id < l.length := by have := findI_lt (fun e : SEn => decide (eid e = id)) l 0 (by omega); unfold findE; omega
noncomputable def C_fabv : Cfg := ⟨Try.prog, [E_sids, E_rrng, E_rcont, E_rsob], pmT [(1, ([(0, []), (1, []), (2, []), (3, []), (4, []), (5, []), (6, []), (7, []), (8, []), (9, []), (11, []), (12, []), (10, []), (13, []), (14, []), (15, []), (16, []), (17, []), (18, []), (19, []), (20, []), (21, []), (22, []), (23, []), (24, []), (25, []), (26, []), (27, []), (28, []), (29, [])], [(6, 35)]))], 36, [], []⟩
theorem es_fabv : EsOk Try.prog [E_sids, E_rrng, E_rcont, E_rsob] [] := es_cons E_sids_ok (es_cons E_rrng_ok (es_cons E_rcont_ok (es_cons E_rsob_ok (es_nil))))
def Lt_fabv : Nat → LD := ldT []
noncomputable def M_fabv (f : Nat) (a : SNd × SNd × Int) : Option (Bool) := (runX (C_fabv) Lt_fabv (Kret Try.prog [.tmp 6] [.v (.bool)]) f [.code (bodyOf Try.f70)] (initX [.g tSNd, .g tSNd, .c (.int .i64)] a) : Option (ResT [.v (.bool)]))
theorem M_fabv_eq (f : Nat) (p : SNd) (n : SNd) (k : Int) : M_fabv (f + 1) (p, n, k) =
    bif decide (0 ≤ k) && decide (k ≤ (↑(List.length n.2.2.2.1) : Int)) then bif len40n p.2.2.2.1 then bif decide (p.2.2.2.1 = List.take k.toNat n.2.2.2.1) then bif contains ((p.2.2.2.2.2.1, p.2.2.2.2.2.2.1), n.2.2.2.2.2.1, n.2.2.2.2.2.2.1) then bif p.2.2.2.2.1 == 1 then some true else some (sobB (p.2.2.2.2, n.2.2.2.2)) else some false else some false else none else none := by kernel_rfl
noncomputable def F_fabv : (SNd × SNd × Int) → Bool
  | (p, n, k) => bif decide (p.2.2.2.1 = List.take k.toNat n.2.2.2.1) then bif contains ((p.2.2.2.2.2.1, p.2.2.2.2.2.2.1), n.2.2.2.2.2.1, n.2.2.2.2.2.2.1) then bif p.2.2.2.2.1 == 1 then true else sobB (p.2.2.2.2, n.2.2.2.2) else false else false
noncomputable def P_fabv : (SNd × SNd × Int) → Bool
  | (p, n, k) => decide (0 ≤ k) && decide (k ≤ (↑(List.length n.2.2.2.1) : Int)) && len40n p.2.2.2.1
theorem fabv_auto : ∀ a : SNd × SNd × Int, Rns (fun f => M_fabv f a) (P_fabv a) (F_fabv a)
  | (p, n, k) => ev_step (fun f => M_fabv_eq f _ _ _) (ev_chk (ev_chk1 (ev_bift (ev_bift (ev_bift ev_some ev_some) ev_some) ev_some)))
def abvPre (a : SNd × SNd × Int) : Bool := decide (0 ≤ a.2.2) && decide (a.2.2 ≤ (((npath a.2.1).length : Nat) : Int)) && len40n (npath a.1)
theorem fabv_P : ∀ a, abvPre a = true → P_fabv a = true := fun a h => h
theorem fabv_F : ∀ a, abvPre a = true → F_fabv a = F_fabv a := fun _ _ => rfl
theorem fabv_run : ∀ a, (abvPre : SNd × SNd × Int → Bool) a = true → ∃ f, M_fabv f a = some ((F_fabv : SNd × SNd × Int → Bool) a) := fun a h => by have h1 := fabv_auto a (fabv_P a h); rw [fabv_F a h] at h1; exact h1
noncomputable def E_fabv : Ent := ⟨70, [.g tSNd, .g tSNd, .c (.int .i64)], [.v (.bool)], fun a => (abvPre : SNd × SNd × Int → Bool) a, fun a => (F_fabv : SNd × SNd × Int → Bool) a⟩
theorem E_fabv_ok : E_fabv.Ok Try.prog := fun a hp vs hv => (fabv_run a hp).elim fun f h => fnX_ok (C := C_fabv) (Lt := Lt_fabv) (fn := Try.f70) (rs := [.tmp 6]) [.g tSNd, .g tSNd, .c (.int .i64)] [.v (.bool)] mixed es_fabv Try.func70 rfl rfl rfl (by kernel_rfl) (by kernel_rfl) f h vs hv
def csB (e : SEn) : Bool := decide (0 ≤ e.1) && (decide (e.1 < 32) && (decide (0 ≤ e.2.1) && decide (e.2.1 < 64)))
def lessLast (p : List SEn) (u : SEn) : Bool := bif p.isEmpty then true else lessI (eid (p.getLastD zE), eid u)
theorem last_at {p : List SEn} (r : List SEn) (hp : p ≠ []) (hl : p.length ≤ 1099511627776) : (p ++ r).getD (IntKind.i64.wrap (((p.length : Nat) : Int) - 1)).toNat zE = p.getLastD zE ∧ decide (0 ≤ IntKind.i64.wrap (((p.length : Nat) : Int) - 1)) = true ∧
    decide (IntKind.i64.wrap (((p.length : Nat) : Int) - 1) < (((p ++ r).length : Nat) : Int)) = true := by
  have h0 : 0 < p.length := List.length_pos_iff.2 hp
  rw [i64_id (by omega) (by omega)]
  refine ⟨?_, decide_eq_true (by omega), decide_eq_true (by simp; omega)⟩
  rw [show (((p.length : Nat) : Int) - 1).toNat = p.length - 1 by omega, List.getD_eq_getElem?_getD, List.getElem?_append_left (by omega), List.getLastD_eq_getLast?, List.getLast?_eq_getElem?]
theorem okF_path {l : List SEn} (h : okF l = true) : ∀ f ∈ l, len40n (epath f) = true := fun f hf => okE_mem (okF_E h) hf
def ancN (p n : SNd) : Prop := ∀ k, (npath n)[k]? = some (nid p) → F_fabv (p, n, ((k : Nat) : Int)) = true
theorem fabv_iff (p n : SNd) (k : Nat) : F_fabv (p, n, ((k : Nat) : Int)) = true ↔ npath p = (npath n).take k ∧ contains (rgC (ncap p), rgC (ncap n)) = true ∧ ((ncap p).1 = 1 ∨ sobB (ncap p, ncap n) = true) := by
  show (bif decide (npath p = List.take (Int.toNat ((k : Nat) : Int)) (npath n)) then bif contains (rgC (ncap p), rgC (ncap n)) then bif (ncap p).1 == 1 then true else sobB (ncap p, ncap n) else false else false) = true ↔ _
  rw [Int.toNat_natCast, beqI]
  by_cases h1 : npath p = (npath n).take k
  · cases h2 : contains (rgC (ncap p), rgC (ncap n)) <;> by_cases h3 : (ncap p).1 = 1 <;> simp [h1, h3]
  · simp [h1]
structure Vg (l : List SEn) : Prop where
  node : ∀ e ∈ l, vnodB e.2.2 = true
  cs : ∀ e ∈ l, csB e = true
  sorted : l.Pairwise (fun a b => lessI (eid a, eid b) = true)
  slots : l.Pairwise (fun a b => ¬ (a.1 = b.1 ∧ a.2.1 = b.2.1))
  coex : l.Pairwise (fun a b => coexB (ecap a, ecap b) = true)
  anc : ∀ p ∈ l, ∀ e ∈ l, ancN p.2.2 e.2.2
noncomputable def C_rvfo : Cfg := ⟨Try.prog, [E_rvnod, E_less, E_rat, E_rat, E_rcoe, E_rfent, E_fabv], pmT [(7, ([(0, []), (1, []), (2, []), (3, []), (4, []), (5, []), (6, []), (7, []), (8, []), (9, []), (10, []), (11, []), (12, []), (13, []), (14, []), (15, []), (16, []), (17, []), (18, []), (19, []), (20, []), (21, []), (23, []), (22, []), (24, []), (25, [])], [(44, 69)])), (12, ([(0, []), (1, []), (2, []), (3, []), (4, []), (5, []), (6, []), (7, []), (8, []), (9, []), (10, [])], [(75, 85)])), (22, ([(0, []), (1, []), (2, []), (3, []), (4, []), (5, []), (6, []), (7, []), (8, []), (9, []), (10, []), (11, []), (12, [])], [(111, 123)]))], 124, [], []⟩
theorem es_rvfo : EsOk Try.prog [E_rvnod, E_less, E_rat, E_rat, E_rcoe, E_rfent, E_fabv] [] := es_cons E_rvnod_ok (es_cons E_less_ok (es_cons E_rat_ok (es_cons E_rat_ok (es_cons E_rcoe_ok (es_cons E_rfent_ok (es_cons E_fabv_ok (es_nil)))))))
def Lt_rvfo : Nat → LD := ldT [(0, ⟨[.rd 0 tSEn, .c 3 (.int .i64)], [], 0⟩), (2, ⟨[.rd 0 tSEn, .c 3 (.int .i64), .box 4 4 74 13 tSEn, .c 5 (.int .i64)], [], 0⟩), (4, ⟨[.rd 0 tSEn, .c 6 (.int .i64)], [], 0⟩), (6, ⟨[.rd 0 tSEn, .c 6 (.int .i64), .box 7 7 31 11 tSNd, .c 8 (.int .i64)], [], 0⟩)]
noncomputable def M_rvfo (f : Nat) (a : (List (SEn))) : Option (Bool) := (runX (C_rvfo) Lt_rvfo (Kret Try.prog [.tmp 2] [.v (.bool)]) f [.code (bodyOf Try.f51)] (initX [.rd tSEn] a) : Option (ResT [.v (.bool)]))
noncomputable def L_rvfo_0 (f : Nat) (x : (List (SEn)) × Int) : Option (Bool) := (runX (C_rvfo) Lt_rvfo (Kret Try.prog [.tmp 2] [.v (.bool)]) f (headOf Try.f51 0) ((Lt_rvfo 0).mk' x) : Option (ResT [.v (.bool)]))
noncomputable def L_rvfo_2 (f : Nat) (x : (List (SEn)) × Int × SEn × Int) : Option (Bool) := (runX (C_rvfo) Lt_rvfo (Kret Try.prog [.tmp 2] [.v (.bool)]) f (headOf Try.f51 2) ((Lt_rvfo 2).mk' x) : Option (ResT [.v (.bool)]))
noncomputable def L_rvfo_4 (f : Nat) (x : (List (SEn)) × Int) : Option (Bool) := (runX (C_rvfo) Lt_rvfo (Kret Try.prog [.tmp 2] [.v (.bool)]) f (headOf Try.f51 4) ((Lt_rvfo 4).mk' x) : Option (ResT [.v (.bool)]))
noncomputable def L_rvfo_6 (f : Nat) (x : (List (SEn)) × Int × SNd × Int) : Option (Bool) := (runX (C_rvfo) Lt_rvfo (Kret Try.prog [.tmp 2] [.v (.bool)]) f (headOf Try.f51 6) ((Lt_rvfo 6).mk' x) : Option (ResT [.v (.bool)]))
theorem M_rvfo_eq (f : Nat) (l : List (SEn)) : M_rvfo (f + 1) l =
    L_rvfo_0 f (l, 0) := by kernel_rfl
theorem L_rvfo_0_eq (f : Nat) (l : List (SEn)) (i : Int) : L_rvfo_0 (f + 1) (l, i) =
    bif decide (i < (↑l.length : Int)) then bif decide (0 ≤ i) && decide (i < (↑l.length : Int)) then bif !vnodB (l.getD i.toNat (0, 0, 0, 0, 0, [], 0, 0, 0, 0, 0, 0, false)).2.2 then some false else bif decide ((l.getD i.toNat (0, 0, 0, 0, 0, [], 0, 0, 0, 0, 0, 0, false)).1 < 0) then some false else bif decide ((l.getD i.toNat (0, 0, 0, 0, 0, [], 0, 0, 0, 0, 0, 0, false)).1 ≥ 32) then some false else bif decide ((l.getD i.toNat (0, 0, 0, 0, 0, [], 0, 0, 0, 0, 0, 0, false)).2.1 < 0) then some false else bif decide ((l.getD i.toNat (0, 0, 0, 0, 0, [], 0, 0, 0, 0, 0, 0, false)).2.1 ≥ 64) then some false else bif decide (i > 0) then bif decide (0 ≤ IntKind.i64.wrap (i - 1)) && decide (IntKind.i64.wrap (i - 1) < (↑l.length : Int)) then bif !lessI (((l.getD (IntKind.i64.wrap (i - 1)).toNat (0, 0, 0, 0, 0, [], 0, 0, 0, 0, 0, 0, false)).2.2.1, (l.getD (IntKind.i64.wrap (i - 1)).toNat (0, 0, 0, 0, 0, [], 0, 0, 0, 0, 0, 0, false)).2.2.2.1, (l.getD (IntKind.i64.wrap (i - 1)).toNat (0, 0, 0, 0, 0, [], 0, 0, 0, 0, 0, 0, false)).2.2.2.2.1), (l.getD i.toNat (0, 0, 0, 0, 0, [], 0, 0, 0, 0, 0, 0, false)).2.2.1, (l.getD i.toNat (0, 0, 0, 0, 0, [], 0, 0, 0, 0, 0, 0, false)).2.2.2.1, (l.getD i.toNat (0, 0, 0, 0, 0, [], 0, 0, 0, 0, 0, 0, false)).2.2.2.2.1) then some false else bif len40n l then bif atE l (l.getD i.toNat (0, 0, 0, 0, 0, [], 0, 0, 0, 0, 0, 0, false)).1 (l.getD i.toNat (0, 0, 0, 0, 0, [], 0, 0, 0, 0, 0, 0, false)).2.1 != i then some false else L_rvfo_2 f (l, i, l.getD i.toNat (0, 0, 0, 0, 0, [], 0, 0, 0, 0, 0, 0, false), 0) else none else none else bif len40n l then bif atE l (l.getD i.toNat (0, 0, 0, 0, 0, [], 0, 0, 0, 0, 0, 0, false)).1 (l.getD i.toNat (0, 0, 0, 0, 0, [], 0, 0, 0, 0, 0, 0, false)).2.1 != i then some false else L_rvfo_2 f (l, i, l.getD i.toNat (0, 0, 0, 0, 0, [], 0, 0, 0, 0, 0, 0, false), 0) else none else none else L_rvfo_4 f (l, 0) := by kernel_rfl
theorem L_rvfo_2_eq (f : Nat) (l : List (SEn)) (i : Int) (e : SEn) (k : Int) : L_rvfo_2 (f + 1) (l, i, e, k) =
    bif decide (k < i) then bif decide (0 ≤ k) && decide (k < (↑l.length : Int)) then bif !coexB ((l.getD k.toNat (0, 0, 0, 0, 0, [], 0, 0, 0, 0, 0, 0, false)).2.2.2.2.2.2, e.2.2.2.2.2.2) then some false else L_rvfo_2 f (l, i, e, IntKind.i64.wrap (k + 1)) else none else L_rvfo_0 f (l, IntKind.i64.wrap (i + 1)) := by kernel_rfl
theorem L_rvfo_4_eq (f : Nat) (l : List (SEn)) (i : Int) : L_rvfo_4 (f + 1) (l, i) =
    bif decide (i < (↑l.length : Int)) then bif decide (0 ≤ i) && decide (i < (↑l.length : Int)) then L_rvfo_6 f (l, i, (l.getD i.toNat (0, 0, 0, 0, 0, [], 0, 0, 0, 0, 0, 0, false)).2.2, 0) else none else some true := by kernel_rfl
theorem L_rvfo_6_eq (f : Nat) (l : List (SEn)) (i : Int) (n : SNd) (k : Int) : L_rvfo_6 (f + 1) (l, i, n, k) =
    bif decide (k < (↑(List.length n.2.2.2.1) : Int)) then bif decide (0 ≤ k) && decide (k < (↑(List.length n.2.2.2.1) : Int)) then bif len40n l then bif decide (findE l (List.getD n.2.2.2.1 k.toNat (0, 0, 0)) ≥ 0) then bif decide (0 ≤ findE l (List.getD n.2.2.2.1 k.toNat (0, 0, 0))) && decide (findE l (List.getD n.2.2.2.1 k.toNat (0, 0, 0)) < (↑l.length : Int)) then bif abvPre ((l.getD (findE l (List.getD n.2.2.2.1 k.toNat (0, 0, 0))).toNat (0, 0, 0, 0, 0, [], 0, 0, 0, 0, 0, 0, false)).2.2, n, k) then bif !F_fabv ((l.getD (findE l (List.getD n.2.2.2.1 k.toNat (0, 0, 0))).toNat (0, 0, 0, 0, 0, [], 0, 0, 0, 0, 0, 0, false)).2.2, n, k) then some false else L_rvfo_6 f (l, i, n, IntKind.i64.wrap (k + 1)) else none else none else L_rvfo_6 f (l, i, n, IntKind.i64.wrap (k + 1)) else none else none else L_rvfo_4 f (l, IntKind.i64.wrap (i + 1)) := by kernel_rfl
noncomputable def F_rvfo_2 (K_0 : ((List (SEn)) × Nat) → Bool) : Nat → ((List (SEn)) × Nat × SEn × Nat) → Bool
  | 0, (l, i, e, k) => K_0 (l, i + 1)
  | rest + 1, (l, i, e, k) => bif !coexB ((l.getD (↑k : Int).toNat (0, 0, 0, 0, 0, [], 0, 0, 0, 0, 0, 0, false)).2.2.2.2.2.2, e.2.2.2.2.2.2) then false else F_rvfo_2 K_0 rest (l, i, e, k + 1)
noncomputable def P_rvfo_2 (KP_0 : ((List (SEn)) × Nat) → Bool) : Nat → ((List (SEn)) × Nat × SEn × Nat) → Bool
  | 0, (l, i, e, k) => KP_0 (l, i + 1)
  | rest + 1, (l, i, e, k) => decide ((↑k : Int) < (↑l.length : Int)) && bif !coexB ((l.getD (↑k : Int).toNat (0, 0, 0, 0, 0, [], 0, 0, 0, 0, 0, 0, false)).2.2.2.2.2.2, e.2.2.2.2.2.2) then true else P_rvfo_2 KP_0 rest (l, i, e, k + 1)
theorem A_rvfo_2 {K_0 : ((List (SEn)) × Nat) → Bool} {KP_0 : ((List (SEn)) × Nat) → Bool} {rest_0 : List (SEn)} (hK_0 : ∀ (l : List (SEn)) (i : Nat) (hd : l.drop i = rest_0) (hl : l.length ≤ 1099511627776), Rns (fun f => L_rvfo_0 f (l, ((i : Nat) : Int))) (KP_0 (l, i)) (K_0 (l, i))) : ∀ (rest : Nat) (l : List (SEn)) (i : Nat) (e : SEn) (k : Nat) (hd : ((i : Int) - ((k : Nat) : Int)).toNat = rest) (hl : (i : Int) ≤ 1099511627776) (hd_0 : l.drop (i + 1) = rest_0) (hl_0 : l.length ≤ 1099511627776) (ht_0 : i < l.length), Rns (fun f => L_rvfo_2 f (l, ((i : Nat) : Int), e, ((k : Nat) : Int))) (P_rvfo_2 KP_0 rest (l, i, e, k)) (F_rvfo_2 K_0 rest (l, i, e, k))
  | 0, l, i, e, k, hd, hl, hd_0, hl_0, ht_0 => ev_step (T := fun f => L_rvfo_0 f (l, (↑(i + 1) : Int))) (fun f => (L_rvfo_2_eq f _ _ _ _).trans (by simp only [cnt_ge hd, ge0, Bool.and_self, Bool.true_and, cond_true, cond_false, List.length_set, wrap_succ ht_0 hl_0, lt_dec ht_0, getD_set ht_0] <;> rfl)) (hK_0 _ _ (by first | exact hd_0 | exact drop_setS hd_0 | exact drop_setS (drop_setS hd_0)) (by first | exact hl_0 | simpa using hl_0))
  | rest + 1, l, i, e, k, hd, hl, hd_0, hl_0, ht_0 => ev_step (T := fun f => bif decide ((↑k : Int) < (↑l.length : Int)) then bif !coexB ((l.getD (↑k : Int).toNat (0, 0, 0, 0, 0, [], 0, 0, 0, 0, 0, 0, false)).2.2.2.2.2.2, e.2.2.2.2.2.2) then some false else L_rvfo_2 f (l, (↑i : Int), e, (↑(k + 1) : Int)) else none) (fun f => (L_rvfo_2_eq f _ _ _ _).trans (by simp only [cnt_lt hd, cnt_wrap hd hl, ge0, Bool.and_self, Bool.true_and, cond_true, cond_false, List.length_set, wrap_succ ht_0 hl_0, lt_dec ht_0, getD_set ht_0] <;> rfl)) (ev_chk (ev_bif ev_some (A_rvfo_2 hK_0 rest _ _ _ _ (cnt_succ hd) (by first | exact hl | simpa using hl) (by first | exact hd_0 | exact drop_setS hd_0 | exact drop_setS (drop_setS hd_0)) (by first | exact hl_0 | simpa using hl_0) (by first | exact ht_0 | simpa using ht_0))))
noncomputable def F_rvfo_6 (K_4 : ((List (SEn)) × Nat) → Bool) : List (Int × Int × Int) → ((List (SEn)) × Nat × SNd × Nat) → Bool
  | [], (l, i, n, k) => K_4 (l, i + 1)
  | uu :: rest, (l, i, n, k) => bif decide (findE l uu ≥ 0) then bif !F_fabv ((l.getD (findE l uu).toNat (0, 0, 0, 0, 0, [], 0, 0, 0, 0, 0, 0, false)).2.2, n, (↑k : Int)) then false else F_rvfo_6 K_4 rest (l, i, n, k + 1) else F_rvfo_6 K_4 rest (l, i, n, k + 1)
noncomputable def P_rvfo_6 (KP_4 : ((List (SEn)) × Nat) → Bool) : List (Int × Int × Int) → ((List (SEn)) × Nat × SNd × Nat) → Bool
  | [], (l, i, n, k) => KP_4 (l, i + 1)
  | uu :: rest, (l, i, n, k) => len40n l && bif decide (findE l uu ≥ 0) then decide (0 ≤ findE l uu) && decide (findE l uu < (↑l.length : Int)) && (abvPre ((l.getD (findE l uu).toNat (0, 0, 0, 0, 0, [], 0, 0, 0, 0, 0, 0, false)).2.2, n, (↑k : Int)) && bif !F_fabv ((l.getD (findE l uu).toNat (0, 0, 0, 0, 0, [], 0, 0, 0, 0, 0, 0, false)).2.2, n, (↑k : Int)) then true else P_rvfo_6 KP_4 rest (l, i, n, k + 1)) else P_rvfo_6 KP_4 rest (l, i, n, k + 1)
theorem A_rvfo_6 {K_4 : ((List (SEn)) × Nat) → Bool} {KP_4 : ((List (SEn)) × Nat) → Bool} {rest_4 : List (SEn)} (hK_4 : ∀ (l : List (SEn)) (i : Nat) (hd : l.drop i = rest_4) (hl : l.length ≤ 1099511627776), Rns (fun f => L_rvfo_4 f (l, ((i : Nat) : Int))) (KP_4 (l, i)) (K_4 (l, i))) : ∀ (rest : List (Int × Int × Int)) (l : List (SEn)) (i : Nat) (n : SNd) (k : Nat) (hd : n.snd.snd.snd.fst.drop k = rest) (hl : n.snd.snd.snd.fst.length ≤ 1099511627776) (hd_4 : l.drop (i + 1) = rest_4) (hl_4 : l.length ≤ 1099511627776) (ht_4 : i < l.length), Rns (fun f => L_rvfo_6 f (l, ((i : Nat) : Int), n, ((k : Nat) : Int))) (P_rvfo_6 KP_4 rest (l, i, n, k)) (F_rvfo_6 K_4 rest (l, i, n, k))
  | [], l, i, n, k, hd, hl, hd_4, hl_4, ht_4 => ev_step (T := fun f => L_rvfo_4 f (l, (↑(i + 1) : Int))) (fun f => (L_rvfo_6_eq f _ _ _ _).trans (by simp only [ge_dec (drop_ge hd), ge0, Bool.and_self, Bool.true_and, cond_true, cond_false, List.length_set, wrap_succ ht_4 hl_4, lt_dec ht_4, getD_set ht_4] <;> rfl)) (hK_4 _ _ (by first | exact hd_4 | exact drop_setS hd_4 | exact drop_setS (drop_setS hd_4)) (by first | exact hl_4 | simpa using hl_4))
  | uu :: rest, l, i, n, k, hd, hl, hd_4, hl_4, ht_4 => ev_step (T := fun f => bif len40n l then bif decide (findE l uu ≥ 0) then bif decide (0 ≤ findE l uu) && decide (findE l uu < (↑l.length : Int)) then bif abvPre ((l.getD (findE l uu).toNat (0, 0, 0, 0, 0, [], 0, 0, 0, 0, 0, 0, false)).2.2, n, (↑k : Int)) then bif !F_fabv ((l.getD (findE l uu).toNat (0, 0, 0, 0, 0, [], 0, 0, 0, 0, 0, 0, false)).2.2, n, (↑k : Int)) then some false else L_rvfo_6 f (l, (↑i : Int), n, (↑(k + 1) : Int)) else none else none else L_rvfo_6 f (l, (↑i : Int), n, (↑(k + 1) : Int)) else none) (fun f => (L_rvfo_6_eq f _ _ _ _).trans (by simp only [lt_dec (drop_lt hd), drop_get hd, wrap_succ (drop_lt hd) hl, getD_set (drop_lt hd), ge0, Bool.and_self, Bool.true_and, cond_true, cond_false, List.length_set, wrap_succ ht_4 hl_4, lt_dec ht_4, getD_set ht_4] <;> rfl)) (ev_chk (ev_bif (ev_chk (ev_chk (ev_bif ev_some (A_rvfo_6 hK_4 rest _ _ _ _ (by first | exact drop_succ hd | exact drop_set hd | exact drop_setS (drop_set hd)) (by first | exact hl | simpa using hl) (by first | exact hd_4 | exact drop_setS hd_4 | exact drop_setS (drop_setS hd_4)) (by first | exact hl_4 | simpa using hl_4) (by first | exact ht_4 | simpa using ht_4))))) (A_rvfo_6 hK_4 rest _ _ _ _ (by first | exact drop_succ hd | exact drop_set hd | exact drop_setS (drop_set hd)) (by first | exact hl | simpa using hl) (by first | exact hd_4 | exact drop_setS hd_4 | exact drop_setS (drop_setS hd_4)) (by first | exact hl_4 | simpa using hl_4) (by first | exact ht_4 | simpa using ht_4))))
noncomputable def F_rvfo_4 : List (SEn) → ((List (SEn)) × Nat) → Bool
  | [], (l, i) => true
  | uu :: rest, (l, i) => F_rvfo_6 (F_rvfo_4 rest) uu.2.2.2.2.2.1 (l, i, uu.2.2, 0)
noncomputable def P_rvfo_4 : List (SEn) → ((List (SEn)) × Nat) → Bool
  | [], (l, i) => true
  | uu :: rest, (l, i) => decide (List.length uu.2.2.2.2.2.1 ≤ 1099511627776) && P_rvfo_6 (P_rvfo_4 rest) uu.2.2.2.2.2.1 (l, i, uu.2.2, 0)
theorem A_rvfo_4 : ∀ (rest : List (SEn)) (l : List (SEn)) (i : Nat) (hd : l.drop i = rest) (hl : l.length ≤ 1099511627776), Rns (fun f => L_rvfo_4 f (l, ((i : Nat) : Int))) (P_rvfo_4 rest (l, i)) (F_rvfo_4 rest (l, i))
  | [], l, i, hd, hl => ev_step (T := fun f => some true) (fun f => (L_rvfo_4_eq f _ _).trans (by simp only [ge_dec (drop_ge hd), ge0, Bool.and_self, Bool.true_and, cond_true, cond_false, List.length_set] <;> rfl)) ev_some
  | uu :: rest, l, i, hd, hl => ev_step (T := fun f => L_rvfo_6 f (l, (↑i : Int), uu.2.2, 0)) (fun f => (L_rvfo_4_eq f _ _).trans (by simp only [lt_dec (drop_lt hd), drop_get hd, wrap_succ (drop_lt hd) hl, getD_set (drop_lt hd), ge0, Bool.and_self, Bool.true_and, cond_true, cond_false, List.length_set] <;> rfl)) (ev_and fun hh => A_rvfo_6 (A_rvfo_4 rest) _ _ _ _ _ rfl (of_decide_eq_true hh) (by first | exact drop_succ hd | exact drop_set hd | exact drop_setS (drop_set hd)) (by first | exact hl | simpa using hl) (by first | exact drop_lt hd | simpa using drop_lt hd))
noncomputable def F_rvfo_0 : List (SEn) → ((List (SEn)) × Nat) → Bool
  | [], (l, i) => F_rvfo_4 l (l, 0)
  | uu :: rest, (l, i) => bif !vnodB uu.2.2 then false else bif decide (uu.1 < 0) then false else bif decide (uu.1 ≥ 32) then false else bif decide (uu.2.1 < 0) then false else bif decide (uu.2.1 ≥ 64) then false else bif decide ((↑i : Int) > 0) then bif !lessI (((l.getD (IntKind.i64.wrap ((↑i : Int) - 1)).toNat (0, 0, 0, 0, 0, [], 0, 0, 0, 0, 0, 0, false)).2.2.1, (l.getD (IntKind.i64.wrap ((↑i : Int) - 1)).toNat (0, 0, 0, 0, 0, [], 0, 0, 0, 0, 0, 0, false)).2.2.2.1, (l.getD (IntKind.i64.wrap ((↑i : Int) - 1)).toNat (0, 0, 0, 0, 0, [], 0, 0, 0, 0, 0, 0, false)).2.2.2.2.1), uu.2.2.1, uu.2.2.2.1, uu.2.2.2.2.1) then false else bif atE l uu.1 uu.2.1 != (↑i : Int) then false else F_rvfo_2 (F_rvfo_0 rest) ((↑i : Int) - (↑0 : Int)).toNat (l, i, uu, 0) else bif atE l uu.1 uu.2.1 != (↑i : Int) then false else F_rvfo_2 (F_rvfo_0 rest) ((↑i : Int) - (↑0 : Int)).toNat (l, i, uu, 0)
noncomputable def P_rvfo_0 : List (SEn) → ((List (SEn)) × Nat) → Bool
  | [], (l, i) => decide (l.length ≤ 1099511627776) && P_rvfo_4 l (l, 0)
  | uu :: rest, (l, i) => bif !vnodB uu.2.2 then true else bif decide (uu.1 < 0) then true else bif decide (uu.1 ≥ 32) then true else bif decide (uu.2.1 < 0) then true else bif decide (uu.2.1 ≥ 64) then true else bif decide ((↑i : Int) > 0) then decide (0 ≤ IntKind.i64.wrap ((↑i : Int) - 1)) && decide (IntKind.i64.wrap ((↑i : Int) - 1) < (↑l.length : Int)) && bif !lessI (((l.getD (IntKind.i64.wrap ((↑i : Int) - 1)).toNat (0, 0, 0, 0, 0, [], 0, 0, 0, 0, 0, 0, false)).2.2.1, (l.getD (IntKind.i64.wrap ((↑i : Int) - 1)).toNat (0, 0, 0, 0, 0, [], 0, 0, 0, 0, 0, 0, false)).2.2.2.1, (l.getD (IntKind.i64.wrap ((↑i : Int) - 1)).toNat (0, 0, 0, 0, 0, [], 0, 0, 0, 0, 0, 0, false)).2.2.2.2.1), uu.2.2.1, uu.2.2.2.1, uu.2.2.2.2.1) then true else len40n l && bif atE l uu.1 uu.2.1 != (↑i : Int) then true else decide ((↑i : Int) ≤ 1099511627776) && P_rvfo_2 (P_rvfo_0 rest) ((↑i : Int) - (↑0 : Int)).toNat (l, i, uu, 0) else len40n l && bif atE l uu.1 uu.2.1 != (↑i : Int) then true else decide ((↑i : Int) ≤ 1099511627776) && P_rvfo_2 (P_rvfo_0 rest) ((↑i : Int) - (↑0 : Int)).toNat (l, i, uu, 0)
theorem A_rvfo_0 : ∀ (rest : List (SEn)) (l : List (SEn)) (i : Nat) (hd : l.drop i = rest) (hl : l.length ≤ 1099511627776), Rns (fun f => L_rvfo_0 f (l, ((i : Nat) : Int))) (P_rvfo_0 rest (l, i)) (F_rvfo_0 rest (l, i))
  | [], l, i, hd, hl => ev_step (T := fun f => L_rvfo_4 f (l, 0)) (fun f => (L_rvfo_0_eq f _ _).trans (by simp only [ge_dec (drop_ge hd), ge0, Bool.and_self, Bool.true_and, cond_true, cond_false, List.length_set] <;> rfl)) (ev_and fun hh => A_rvfo_4 _ _ _ rfl (of_decide_eq_true hh))
  | uu :: rest, l, i, hd, hl => ev_step (T := fun f => bif !vnodB uu.2.2 then some false else bif decide (uu.1 < 0) then some false else bif decide (uu.1 ≥ 32) then some false else bif decide (uu.2.1 < 0) then some false else bif decide (uu.2.1 ≥ 64) then some false else bif decide ((↑i : Int) > 0) then bif decide (0 ≤ IntKind.i64.wrap ((↑i : Int) - 1)) && decide (IntKind.i64.wrap ((↑i : Int) - 1) < (↑l.length : Int)) then bif !lessI (((l.getD (IntKind.i64.wrap ((↑i : Int) - 1)).toNat (0, 0, 0, 0, 0, [], 0, 0, 0, 0, 0, 0, false)).2.2.1, (l.getD (IntKind.i64.wrap ((↑i : Int) - 1)).toNat (0, 0, 0, 0, 0, [], 0, 0, 0, 0, 0, 0, false)).2.2.2.1, (l.getD (IntKind.i64.wrap ((↑i : Int) - 1)).toNat (0, 0, 0, 0, 0, [], 0, 0, 0, 0, 0, 0, false)).2.2.2.2.1), uu.2.2.1, uu.2.2.2.1, uu.2.2.2.2.1) then some false else bif len40n l then bif atE l uu.1 uu.2.1 != (↑i : Int) then some false else L_rvfo_2 f (l, (↑i : Int), uu, 0) else none else none else bif len40n l then bif atE l uu.1 uu.2.1 != (↑i : Int) then some false else L_rvfo_2 f (l, (↑i : Int), uu, 0) else none) (fun f => (L_rvfo_0_eq f _ _).trans (by simp only [lt_dec (drop_lt hd), drop_get hd, wrap_succ (drop_lt hd) hl, getD_set (drop_lt hd), ge0, Bool.and_self, Bool.true_and, cond_true, cond_false, List.length_set] <;> rfl)) (ev_bif ev_some (ev_bif ev_some (ev_bif ev_some (ev_bif ev_some (ev_bif ev_some (ev_bif (ev_chk (ev_bif ev_some (ev_chk (ev_bif ev_some (ev_and fun hh => A_rvfo_2 (A_rvfo_0 rest) _ _ _ _ _ rfl (of_decide_eq_true hh) (by first | exact drop_succ hd | exact drop_set hd | exact drop_setS (drop_set hd)) (by first | exact hl | simpa using hl) (by first | exact drop_lt hd | simpa using drop_lt hd)))))) (ev_chk (ev_bif ev_some (ev_and fun hh => A_rvfo_2 (A_rvfo_0 rest) _ _ _ _ _ rfl (of_decide_eq_true hh) (by first | exact drop_succ hd | exact drop_set hd | exact drop_setS (drop_set hd)) (by first | exact hl | simpa using hl) (by first | exact drop_lt hd | simpa using drop_lt hd))))))))))
noncomputable def F_rvfo : (List (SEn)) → Bool
  | l => F_rvfo_0 l (l, 0)
noncomputable def P_rvfo : (List (SEn)) → Bool
  | l => decide (l.length ≤ 1099511627776) && P_rvfo_0 l (l, 0)
theorem rvfo_auto : ∀ a : (List (SEn)), Rns (fun f => M_rvfo f a) (P_rvfo a) (F_rvfo a)
  | l => ev_step (fun f => M_rvfo_eq f _) (ev_and fun hh => A_rvfo_0 _ _ _ rfl (of_decide_eq_true hh))
theorem rvfo_2 (K KP : List SEn × Nat → Bool) (l : List SEn) (i : Nat) (e : SEn) : ∀ (n : Nat) (p : List SEn) (q : List SEn), l = p ++ q → n ≤ q.length →
    F_rvfo_2 K n (l, i, e, p.length) = ((q.take n).all (fun f => coexB (ecap f, ecap e)) && K (l, i + 1)) ∧ (KP (l, i + 1) = true → P_rvfo_2 KP n (l, i, e, p.length) = true)
  | 0, p, q, hl, hn => ⟨by simp [F_rvfo_2], fun h => h⟩
  | n + 1, p, [], hl, hn => by simp at hn
  | n + 1, p, u :: q, hl, hn => by
    obtain ⟨i1, i2⟩ := rvfo_2 K KP l i e n (p ++ [u]) q (by simpa using hl) (by simpa using hn)
    rw [show (p ++ [u]).length = p.length + 1 by simp] at i1 i2
    have hg : l.getD (Int.toNat ((p.length : Nat) : Int)) (0, 0, 0, 0, 0, [], 0, 0, 0, 0, 0, 0, false) = u := by rw [hl, Int.toNat_natCast]; simp
    have hlt : decide (((p.length : Nat) : Int) < ((l.length : Nat) : Int)) = true := decide_eq_true (by rw [hl]; simp; omega)
    have e1 : coexB (u.2.2.2.2.2.2, e.2.2.2.2.2.2) = coexB (ecap u, ecap e) := rfl
    simp only [F_rvfo_2, P_rvfo_2, hg, hlt, e1, i1, Bool.true_and, List.take_succ_cons, List.all_cons]
    constructor
    · cases coexB (ecap u, ecap e) <;> rfl
    · intro hk; rw [i2 hk]; cases coexB (ecap u, ecap e) <;> rfl
noncomputable def chkL (l : List SEn) (n : SNd) : List SId → Nat → Bool
  | [], _ => true
  | id :: r, k => (bif decide (findE l id ≥ 0) then F_fabv ((l.getD (findE l id).toNat zE).2.2, n, ((k : Nat) : Int)) else true) && chkL l n r (k + 1)
theorem rvfo_6 (K KP : List SEn × Nat → Bool) (l : List SEn) (hl : l.length ≤ 1099511627776) (hp : ∀ f ∈ l, len40n (epath f) = true) (i : Nat) (n : SNd) : ∀ (r : List SId) (k : Nat), k + r.length = (npath n).length →
    F_rvfo_6 K r (l, i, n, k) = (chkL l n r k && K (l, i + 1)) ∧ (KP (l, i + 1) = true → P_rvfo_6 KP r (l, i, n, k) = true)
  | [], k, hk => ⟨rfl, fun h => h⟩
  | id :: r, k, hk => by
    simp only [List.length_cons] at hk
    obtain ⟨i1, i2⟩ := rvfo_6 K KP l hl hp i n r (k + 1) (by omega)
    have h4 : len40n l = true := decide_eq_true hl
    have ez : ((0, 0, 0, 0, 0, [], 0, 0, 0, 0, 0, 0, false) : SEn) = zE := rfl
    simp only [F_rvfo_6, P_rvfo_6, i1, h4, ez, Bool.true_and, chkL]
    by_cases h0 : findE l id ≥ 0
    · have hlt := findE_lt l id
      have hm : l.getD (findE l id).toNat zE ∈ l := by
        rw [List.getD_eq_getElem?_getD, List.getElem?_eq_getElem (by omega)]
        exact List.getElem_mem _
      have h1 : abvPre ((l.getD (findE l id).toNat zE).2.2, n, ((k : Nat) : Int)) = true := by
        simp only [abvPre, Bool.and_eq_true, decide_eq_true_eq]
        exact ⟨⟨by omega, by omega⟩, hp _ hm⟩
      rw [decide_eq_true h0, decide_eq_true hlt, h1]
      constructor
      · cases F_fabv ((l.getD (findE l id).toNat zE).2.2, n, ((k : Nat) : Int)) <;> rfl
      · intro hk; rw [i2 hk]; cases F_fabv ((l.getD (findE l id).toNat zE).2.2, n, ((k : Nat) : Int)) <;> rfl
    · rw [decide_eq_false h0]; exact ⟨rfl, i2⟩
theorem rvfo_4 (l : List SEn) (hl : l.length ≤ 1099511627776) (hp : ∀ f ∈ l, len40n (epath f) = true) : ∀ (r : List SEn) (i : Nat), (∀ f ∈ r, len40n (epath f) = true) → F_rvfo_4 r (l, i) = r.all (fun e => chkL l e.2.2 (epath e) 0) ∧ P_rvfo_4 r (l, i) = true
  | [], i, h => ⟨rfl, rfl⟩
  | u :: r, i, h => by
    obtain ⟨i1, i2⟩ := rvfo_4 l hl hp r (i + 1) (fun f hf => h f (List.mem_cons_of_mem _ hf))
    obtain ⟨j1, j2⟩ := rvfo_6 (F_rvfo_4 r) (P_rvfo_4 r) l hl hp i u.2.2 (epath u) 0 (by rw [Nat.zero_add]; rfl)
    have e1 : ((u.2.2.1, u.2.2.2.1, u.2.2.2.2.1, epath u, u.2.2.2.2.2.2) : SNd) = u.2.2 := rfl
    have e2 : u.2.2.2.2.2.1 = epath u := rfl
    have e3 : decide ((epath u).length ≤ 1099511627776) = true := h u (List.mem_cons_self ..)
    simp only [F_rvfo_4, P_rvfo_4, e2, e1, e3, j1, j2 i2, i1, List.all_cons]
    exact ⟨trivial, rfl⟩
noncomputable def rvL (l : List SEn) : List SEn → List SEn → Bool
  | _, [] => l.all (fun e => chkL l e.2.2 (epath e) 0)
  | p, u :: r => vnodB u.2.2 && (csB u && (lessLast p u && (decide (atE l u.1 u.2.1 = ((p.length : Nat) : Int)) && (p.all (fun f => coexB (ecap f, ecap u)) && rvL l (p ++ [u]) r))))
theorem rvfo_0 (l : List SEn) (hl : l.length ≤ 1099511627776) (hp : ∀ f ∈ l, len40n (epath f) = true) : ∀ (r p : List SEn), l = p ++ r → F_rvfo_0 r (l, p.length) = rvL l p r ∧ P_rvfo_0 r (l, p.length) = true
  | [], p, hd => by
    obtain ⟨i1, i2⟩ := rvfo_4 l hl hp l 0 hp
    simp only [F_rvfo_0, P_rvfo_0, rvL, i1, i2, decide_eq_true hl]; exact ⟨trivial, rfl⟩
  | u :: r, p, hd => by
    obtain ⟨i1, i2⟩ := rvfo_0 l hl hp r (p ++ [u]) (by simpa using hd)
    rw [show (p ++ [u]).length = p.length + 1 by simp] at i1 i2
    obtain ⟨j1, j2⟩ := rvfo_2 (F_rvfo_0 r) (P_rvfo_0 r) l p.length u p.length [] (p ++ u :: r) (by simpa using hd) (by simp)
    have j2 := j2 i2
    rw [List.length_nil] at j1 j2
    rw [i1, show (p ++ u :: r).take p.length = p by simp] at j1
    have c1 : decide (u.1 < 0) = !decide (0 ≤ u.1) := by rw [← decide_not]; exact decide_eq_decide.2 (by omega)
    have c2 : decide (u.1 ≥ 32) = !decide (u.1 < 32) := by rw [← decide_not]; exact decide_eq_decide.2 (by omega)
    have c3 : decide (u.2.1 < 0) = !decide (0 ≤ u.2.1) := by rw [← decide_not]; exact decide_eq_decide.2 (by omega)
    have c4 : decide (u.2.1 ≥ 64) = !decide (u.2.1 < 64) := by rw [← decide_not]; exact decide_eq_decide.2 (by omega)
    have c5 : (atE l u.1 u.2.1 != ((p.length : Nat) : Int)) = !decide (atE l u.1 u.2.1 = ((p.length : Nat) : Int)) := by simp [bne, beqI]
    have h4 : len40n l = true := decide_eq_true hl
    have hpl : p.length ≤ 1099511627776 := by rw [hd] at hl; simp at hl; omega
    have ez : ((0, 0, 0, 0, 0, [], 0, 0, 0, 0, 0, 0, false) : SEn) = zE := rfl
    have ey : ∀ y : SEn, ((y.2.2.1, y.2.2.2.1, y.2.2.2.2.1) : SId) = eid y := fun _ => rfl
    have eu : ((u.1, u.2.1, u.2.2.1, u.2.2.2.1, u.2.2.2.2.1, u.2.2.2.2.2.1, u.2.2.2.2.2.2) : SEn) = u := rfl
    have e0 : (((p.length : Nat) : Int) - ((0 : Nat) : Int)).toNat = p.length := by omega
    simp only [F_rvfo_0, P_rvfo_0, ez, ey, eu, e0, c1, c2, c3, c4, c5, h4, j1, j2, decide_eq_true (show ((p.length : Nat) : Int) ≤ 1099511627776 by omega), Bool.true_and, Bool.not_not, rvL, csB]
    by_cases hne : p = []
    · subst hne
      cases vnodB u.2.2 <;> cases decide (0 ≤ u.1) <;> cases decide (u.1 < 32) <;> cases decide (0 ≤ u.2.1) <;> cases decide (u.2.1 < 64) <;> cases decide (atE l u.1 u.2.1 = ((([] : List SEn).length : Nat) : Int)) <;> simp [lessLast] <;> simpa using And.intro j1 j2
    · obtain ⟨a1, a2, a3⟩ := last_at (u :: r) hne hpl
      rw [← hd] at a1 a3
      rw [a1, a2, a3]
      have h0 : 0 < p.length := List.length_pos_iff.2 hne
      rw [show decide (((p.length : Nat) : Int) > 0) = true from decide_eq_true (by omega)]
      have e9 : lessLast p u = lessI (eid (p.getLastD zE), eid u) := by
        cases p with
        | nil => exact absurd rfl hne
        | cons a t => rfl
      rw [e9]
      cases vnodB u.2.2 <;> cases decide (0 ≤ u.1) <;> cases decide (u.1 < 32) <;> cases decide (0 ≤ u.2.1) <;> cases decide (u.2.1 < 64) <;> cases lessI (eid (p.getLastD zE), eid u) <;> cases decide (atE l u.1 u.2.1 = ((p.length : Nat) : Int)) <;> simp [j1, j2]
theorem rvfo_P : ∀ a, okF a = true → P_rvfo a = true := fun a h => by
  have := (rvfo_0 a (okE_len (okF_E h)) (okF_path h) a [] rfl).2
  simp only [List.length_nil] at this
  simp only [P_rvfo, this, Bool.and_true]; exact decide_eq_true (okE_len (okF_E h))
theorem findI_atE {α : Type} {q : α → Bool} {u : α} (hu : q u = true) (r : List α) : ∀ (p : List α) (k : Int), 0 ≤ k → (findI q (p ++ u :: r) k = k + ((p.length : Nat) : Int) ↔ ∀ f ∈ p, q f = false)
  | [], k, hk => by simp [findI, hu]
  | a :: p, k, hk => by
    have ih := findI_atE hu r p (k + 1) (by omega)
    simp only [List.cons_append, findI, List.length_cons]
    cases ha : q a
    · simp only [cond_false]
      rw [show k + ((p.length + 1 : Nat) : Int) = k + 1 + ((p.length : Nat) : Int) by omega, ih]
      simp [ha]
    · simp only [cond_true]
      constructor
      · intro h; omega
      · intro h; have := h a (List.mem_cons_self ..); rw [ha] at this; cases this
theorem pw_snoc {h : SEn → SEn → Prop} {p : List SEn} {u : SEn} (hp : p.Pairwise (fun a b => lessI (eid a, eid b) = true ∧ h a b)) : (lessLast p u = true ∧ ∀ a ∈ p, h a u) ↔ (p ++ [u]).Pairwise (fun a b => lessI (eid a, eid b) = true ∧ h a b) := by
  rw [List.pairwise_append]
  simp only [List.pairwise_singleton, List.mem_singleton, true_and, forall_eq]
  constructor
  · rintro ⟨h1, h2⟩
    refine ⟨hp, fun a ha => ⟨?_, h2 a ha⟩⟩
    obtain ⟨q, y, rfl⟩ : ∃ q y, p = q ++ [y] := ⟨p.dropLast, p.getLast (List.ne_nil_of_mem ha), (List.dropLast_concat_getLast _).symm⟩
    have h3 : lessI (eid y, eid u) = true := by
      have : lessLast (q ++ [y]) u = lessI (eid y, eid u) := by
        have : (q ++ [y]).isEmpty = false := by cases q <;> rfl
        simp only [lessLast, this, cond_false]
        congr 3
        simp
      rw [this] at h1; exact h1
    rcases List.mem_append.1 ha with ha | ha
    · exact less_trans ((List.pairwise_append.1 hp).2.2 a ha y (by simp)).1 h3
    · rw [List.mem_singleton.1 ha]; exact h3
  · rintro ⟨_, h2⟩
    refine ⟨?_, fun a ha => (h2 a ha).2⟩
    cases p with
    | nil => rfl
    | cons a t =>
      have hm : (a :: t).getLastD zE ∈ a :: t := by
        rw [List.getLastD_eq_getLast?, List.getLast?_eq_some_getLast (by simp)]
        exact List.getLast_mem _
      exact (h2 _ hm).1
def Qs (a b : SEn) : Prop := ¬ (a.1 = b.1 ∧ a.2.1 = b.2.1) ∧ coexB (ecap a, ecap b) = true
theorem rvL_iff (l : List SEn) : ∀ (r p : List SEn), l = p ++ r → p.Pairwise (fun a b => lessI (eid a, eid b) = true ∧ Qs a b) →
    (rvL l p r = true ↔ (∀ e ∈ r, vnodB e.2.2 = true ∧ csB e = true) ∧ l.Pairwise (fun a b => lessI (eid a, eid b) = true ∧ Qs a b) ∧ ∀ e ∈ l, chkL l e.2.2 (epath e) 0 = true)
  | [], p, hl, hp => by
    rw [List.append_nil] at hl
    subst hl
    simp [rvL, hp]
  | u :: r, p, hl, hp => by
    have hat : decide (atE l u.1 u.2.1 = ((p.length : Nat) : Int)) = true ↔ ∀ f ∈ p, ¬ (f.1 = u.1 ∧ f.2.1 = u.2.1) := by
      have := findI_atE (q := fun e : SEn => decide (e.1 = u.1) && decide (e.2.1 = u.2.1)) (u := u) (by simp) r p 0 (by omega)
      rw [Int.zero_add, ← hl] at this
      rw [decide_eq_true_eq]
      refine this.trans ⟨fun h f hf hh => ?_, fun h f hf => ?_⟩
      · have := h f hf; simp [hh] at this
      · have := h f hf
        cases hd : decide (f.1 = u.1) && decide (f.2.1 = u.2.1) with
        | false => rfl
        | true => simp only [Bool.and_eq_true, decide_eq_true_eq] at hd; exact absurd hd this
    have key := pw_snoc (h := Qs) (u := u) hp
    simp only [rvL, Bool.and_eq_true]
    rw [hat]
    constructor
    · rintro ⟨h1, h2, h3, h4, h5, h6⟩
      have h7 := key.1 ⟨h3, fun a ha => ⟨h4 a ha, List.all_eq_true.1 h5 a ha⟩⟩
      obtain ⟨g1, g2, g3⟩ := (rvL_iff l r (p ++ [u]) (by simpa using hl) h7).1 h6
      refine ⟨fun e he => ?_, g2, g3⟩
      rcases List.mem_cons.1 he with rfl | he
      · exact ⟨h1, h2⟩
      · exact g1 e he
    · rintro ⟨h1, h2, h3⟩
      have h7 : (p ++ [u]).Pairwise (fun a b => lessI (eid a, eid b) = true ∧ Qs a b) := by
        rw [hl, show p ++ u :: r = (p ++ [u]) ++ r by simp] at h2
        exact (List.pairwise_append.1 h2).1
      obtain ⟨k1, k2⟩ := key.2 h7
      obtain ⟨m1, m2⟩ := h1 u (List.mem_cons_self ..)
      exact ⟨m1, m2, k1, fun f hf => (k2 f hf).1, List.all_eq_true.2 fun f hf => (k2 f hf).2, (rvL_iff l r (p ++ [u]) (by simpa using hl) h7).2 ⟨fun e he => h1 e (List.mem_cons_of_mem _ he), h2, h3⟩⟩
theorem sorted_uniq {l : List SEn} (hs : l.Pairwise (fun a b => lessI (eid a, eid b) = true)) {a b : SEn} (ha : a ∈ l) (hb : b ∈ l) (he : eid a = eid b) : a = b := by
  induction l with
  | nil => cases ha
  | cons u r ih =>
    rw [List.pairwise_cons] at hs
    rcases List.mem_cons.1 ha with ea | ha2
    · rcases List.mem_cons.1 hb with eb | hb2
      · rw [ea, eb]
      · have := hs.1 b hb2; rw [← ea, he, less_irrefl] at this; cases this
    · rcases List.mem_cons.1 hb with eb | hb2
      · have := hs.1 a ha2; rw [← eb, he, less_irrefl] at this; cases this
      · exact ih hs.2 ha2 hb2
theorem chkL_iff {l : List SEn} (hs : l.Pairwise (fun a b => lessI (eid a, eid b) = true)) (n : SNd) : ∀ (r : List SId) (k : Nat), (chkL l n r k = true ↔ ∀ (j : Nat) (id : SId), r[j]? = some id → ∀ p ∈ l, eid p = id → F_fabv (p.2.2, n, ((k + j : Nat) : Int)) = true)
  | [], k => by simp [chkL]
  | id :: r, k => by
    have ih := chkL_iff hs n r (k + 1)
    simp only [chkL, Bool.and_eq_true, ih]
    have h0 : (bif decide (findE l id ≥ 0) then F_fabv ((l.getD (findE l id).toNat zE).2.2, n, ((k : Nat) : Int)) else true) = true ↔ ∀ p ∈ l, eid p = id → F_fabv (p.2.2, n, ((k : Nat) : Int)) = true := by
      by_cases hf : findE l id ≥ 0
      · obtain ⟨j, x, f1, f2, f3, _⟩ := findI_some (p := fun e : SEn => decide (eid e = id)) (l := l) (k := 0) (by omega) hf
        have f1 : findE l id = ((j : Nat) : Int) := by unfold findE; omega
        have hx : l.getD (findE l id).toNat zE = x := by rw [f1, Int.toNat_natCast, List.getD_eq_getElem?_getD, f2]; rfl
        have hid : eid x = id := by simpa using f3
        rw [decide_eq_true hf, cond_true, hx]
        constructor
        · intro h p hp he
          rw [sorted_uniq hs hp (List.mem_of_getElem? f2) (he.trans hid.symm)]; exact h
        · intro h; exact h x (List.mem_of_getElem? f2) hid
      · rw [decide_eq_false hf, cond_false]
        simp only [true_iff]
        intro p hp he
        exact absurd he (findE_not (decide_eq_false hf) p hp)
    rw [h0]
    constructor
    · rintro ⟨h1, h2⟩ j id' hj p hp he
      cases j with
      | zero => simp at hj; exact h1 p hp (he.trans hj.symm)
      | succ j => have := h2 j id' (by simpa using hj) p hp he; rwa [show k + 1 + j = k + (j + 1) by omega] at this
    · intro h
      refine ⟨fun p hp he => h 0 id rfl p hp he, fun j id' hj p hp he => ?_⟩
      have := h (j + 1) id' (by simpa using hj) p hp he
      rwa [show k + 1 + j = k + (j + 1) by omega]
theorem rvL_vg (l : List SEn) : rvL l [] l = true ↔ Vg l := by
  rw [rvL_iff l l [] rfl .nil]
  constructor
  · rintro ⟨h1, h2, h3⟩
    have hs := h2.imp (fun {a b} h => h.1)
    refine ⟨fun e he => (h1 e he).1, fun e he => (h1 e he).2, hs, h2.imp (fun {a b} h => h.2.1), h2.imp (fun {a b} h => h.2.2), fun p hp e he k hk => ?_⟩
    have := (chkL_iff hs e.2.2 (epath e) 0).1 (h3 e he) k _ hk p hp rfl
    rwa [Nat.zero_add] at this
  · intro h
    refine ⟨fun e he => ⟨h.node e he, h.cs e he⟩, (h.sorted.and (h.slots.and h.coex)).imp (fun {a b} h => ⟨h.1, h.2.1, h.2.2⟩), fun e he => (chkL_iff h.sorted e.2.2 (epath e) 0).2 fun j id hj p hp hid => ?_⟩
    rw [Nat.zero_add]
    exact h.anc p hp e he j (by rw [← hid] at hj; exact hj)
theorem rvfo_F : ∀ a, okF a = true → F_rvfo a = rvL a [] a := fun a h => by
  have := (rvfo_0 a (okE_len (okF_E h)) (okF_path h) a [] rfl).1
  simp only [List.length_nil] at this
  simp only [F_rvfo, this]
theorem rvfo_run : ∀ a, (okF : (List (SEn)) → Bool) a = true → ∃ f, M_rvfo f a = some ((fun a => rvL a [] a : (List (SEn)) → Bool) a) := fun a h => by have h1 := rvfo_auto a (rvfo_P a h); rw [rvfo_F a h] at h1; exact h1
noncomputable def E_rvfo : Ent := ⟨51, [.rd tSEn], [.v (.bool)], fun a => (okF : (List (SEn)) → Bool) a, fun a => (fun a => rvL a [] a : (List (SEn)) → Bool) a⟩
theorem E_rvfo_ok : E_rvfo.Ok Try.prog := fun a hp vs hv => (rvfo_run a hp).elim fun f h => fnX_ok (C := C_rvfo) (Lt := Lt_rvfo) (fn := Try.f51) (rs := [.tmp 2]) [.rd tSEn] [.v (.bool)] mixed es_rvfo Try.func51 rfl rfl rfl (by kernel_rfl) (by kernel_rfl) f h vs hv
end Go.AL
