/-
  Contracts: slices.SortFunc at ranges (a lent slice), memrange.Covered; the four laws over Covered return true at every input and leave their arguments as they were; no condition. By an AI agent.
-/
import Derived.Test.YtoidpheldjllaaaMrs
import Derived.Test.YtoidpheldjllaaaMrb
import Derived.Test.YtoidpheldjllaaaAxShelf
import Derived.Test.YtoidpheldjllaaaAxAuto
import Derived.Test.YtoidpheldjllaaaRgs
import Derived.Shelf.SlSortCmp.NoneTotal
namespace Go.Proofs
open Go.Shelf Go.RowKit Go.Lib Go.Sort
def cmpIs (a b : Int) : Int := if a < b then -1 else if b < a then 1 else 0
set_option maxHeartbeats 1000000 in
theorem cmpW (a b : Int) (W : World) : Calls Try.prog 40 #[.int .i64 a, .int .i64 b] W fun e w' => e = .returned (.int .i64 (cmpIs a b)) ∧ w' = W := by
  go_enter Try.func40, Try.ntmps40
  go_wp2
  all_goals go_ret
  all_goals exact ⟨by unfold cmpIs; (repeat' split) <;> first | rfl | omega, rfl⟩
def cfR (x y : Int × Int) : Int := if cmpIs x.1 y.1 ≠ 0 then cmpIs x.1 y.1 else cmpIs y.2 x.2
set_option maxHeartbeats 1000000 in
theorem closW (x y : Int × Int) (W : World) : Calls Try.prog 39 #[.agg #[.int .i64 x.1, .int .i64 x.2], .agg #[.int .i64 y.1, .int .i64 y.2]] W fun e w' => e = .returned (.int .i64 (cfR x y)) ∧ ∃ q os', w' = grow (W.drewN q) os' := by
  have hcon := fun a b W' => cmpW a b W'
  unfold cfR
  generalize cmpIs = r at hcon ⊢
  go_enter Try.func39, Try.ntmps39
  go_wp2_with (go_at_call 40; refine (hcon _ _ _).mono ?_; rintro e w' ⟨rfl, rfl⟩)
  all_goals go_ret
  all_goals refine ⟨?_, 0, _, by rw [alloc_eq_grow, alloc_eq_grow, grow_grow]; rfl⟩
  all_goals first | rfl | (exfalso; simp_all)
def encR (x : Int × Int) : List Value := [.int .i64 x.1, .int .i64 x.2]
theorem cmpIs_lt (a b : Int) : decide (cmpIs a b < 0) = decide (a < b) := by unfold cmpIs; split <;> (try split) <;> simp <;> omega
theorem cfR_lt (x y : Int × Int) : ltOf cfR x y = Go.AL.ltR x y := by
  unfold ltOf cfR Go.AL.ltR cmpIs
  rw [Bool.eq_iff_iff]
  simp only [Bool.or_eq_true, Bool.and_eq_true, decide_eq_true_eq]
  (repeat' split) <;> omega
theorem swoR : SWO (ltOf cfR) where
  irrefl x := by rw [cfR_lt]; simp [Go.AL.ltR]
  trans x y z h1 h2 := by rw [cfR_lt] at *; simp [Go.AL.ltR] at *; omega
  ntrans x y z h1 h2 := by rw [cfR_lt] at *; simp [Go.AL.ltR] at *; omega
theorem sortW (b cap : Nat) (d : Array (Int × Int)) (w : World) (hH : HoldsK encR 2 w b 0 d) (hb : b < w.heap.size) (hs : d.size < 4611686018427387904) :
    Calls Try.prog 38 #[.slice (some ⟨b, 0, none⟩) d.size cap, .func (.func 39) #[] #[]] w fun e w' => e = .returned (.tuple #[]) ∧ ∃ n os, w' = sortWorldK encR 2 w b 0 n (Go.AL.srtR d.toList).toArray os := by
  have eg : ∀ args w, (callFunc 39 args).run Try.prog w = .ok (.enter 39 args) w := enters_of Try.func39 (by kernel_rfl) rfl
  have h := AnyQ.slices_SortFunc_total Try.sortRg 2 (fun w => by kernel_rfl) (fun w => by kernel_rfl) encR (fun _ => rfl) (fun x v hv => by simp [encR] at hv; rcases hv with rfl | rfl <;> rfl) cfR swoR 39 #[] b 0 cap d w eg
    (fun _ _ _ _ x y => closW x y _) hH hb hs (fun x y h1 h2 => by rw [cfR_lt] at h1 h2; simp [Go.AL.ltR] at h1 h2; exact Prod.ext (by omega) (by omega))
  refine h.mono ?_
  rintro e w' ⟨rfl, n, os, hw⟩
  refine ⟨rfl, n, os, ?_⟩
  rw [hw]
  have e : (fun x y => !ltOf cfR y x) = fun x y => !Go.AL.ltR y x := by funext x y; rw [cfR_lt]
  rw [e]; rfl
theorem sortN (p : Option Addr) (cap : Nat) (w : World) :
    Calls Try.prog 38 #[.slice p 0 cap, .func (.func 39) #[] #[]] w fun e w' => e = .returned (.tuple #[]) ∧ w' = w :=
  AnyF.slices_SortFunc_none Try.sortRg p cap _ w
end Go.Proofs
namespace Go.AL
open Go.Proofs
set_option linter.unusedVariables false
set_option linter.unusedSimpArgs false
def encRV (x : Rg) : List V := [.int .i64 x.1, .int .i64 x.2]
theorem rowII (x : Int × Int) (row : List V) : RowV [.int .i64, .int .i64] x row ↔ row = [.int .i64 x.1, .int .i64 x.2] := by
  have h : RowV [.int .i64, .int .i64] x row = ∃ v r, row = v :: r ∧ (v = .int .i64 x.1) ∧ ∃ v2, r = [v2] ∧ v2 = .int .i64 x.2 := by kernel_rfl
  rw [h]
  constructor
  · rintro ⟨v, r, rfl, rfl, v2, rfl, rfl⟩; rfl
  · rintro rfl; exact ⟨_, _, rfl, rfl, _, rfl, rfl⟩
theorem rowRg (x : Rg) (row : List V) : RowV tRg x row ↔ row = encRV x := rowII x row
theorem encOK : EncOK 2 (RowV tRg) encR encRV := by
  refine ⟨fun _ => rfl, fun x v hv => ?_, fun x row h => ?_, fun _ => rfl, fun x => (rowRg x _).2 rfl, fun x w A j y hy => ?_⟩
  · simp [encR] at hv; rcases hv with rfl | rfl <;> rfl
  · have h := (rowRg x row).1 h
    subst h
    refine ⟨rfl, fun w A j y u hy hu => ?_⟩
    match j, hy with
    | 0, hy => cases hy; cases hu; rfl
    | 1, hy => cases hy; cases hu; rfl
  · match j, hy with
    | 0, hy => cases hy; exact ⟨_, rfl, .int _ _⟩
    | 1, hy => cases hy; exact ⟨_, rfl, .int _ _⟩
noncomputable def E_sort : EntL := ⟨38, false, 23, 2, tRg, [.fn 39 []], [], fun l _ => decide (l.length ≤ 1099511627776), fun l _ => ((), srtR l)⟩
theorem srt_len (l : List Rg) : (srtR l).length = l.length := (srt_perm l).length_eq
theorem E_sort_ok : E_sort.Ok Try.prog := by
  intro (l : List Rg) a hp rows vargs (hR : All2 (RowV tRg) l rows) hA
  have hp : l.length ≤ 1099511627776 := of_decide_eq_true hp
  have hv : vargs = [.fn 39 []] := by
    obtain ⟨v, rfl, vs, rfl, rfl⟩ := hA
    rfl
  subst hv
  have h := sortL_ok (α := Rg) (ty := 23) encOK srtR srt_len sortW sortN (l := l) (rows := rows) hR (by omega)
  exact h
noncomputable def C_covp : Cfg := ⟨Try.prog, [E_valid, E_end], pmT [], 44, [E_sort]⟩
theorem es_covp : EsOk Try.prog [E_valid, E_end] [E_sort] := el_cons E_sort_ok (es_cons E_valid_ok (es_cons E_end_ok (es_nil)))
def Lt_covp : Nat → LD := ldT [(0, ⟨[.list 3 999 23 2 tRg, .rd 10 tRg, .c 11 (.int .i64), .c 12 (.int .i64)], []⟩), (2, ⟨[.c 6 (.int .i64), .c 7 (.int .i64), .list 25 999 23 2 tRg, .c 26 (.int .i64), .c 27 (.int .i64)], []⟩)]
noncomputable def M_covp (f : Nat) (a : (List (Rg))) : Option (Int) := (runX (C_covp) Lt_covp (Kret Try.prog [.tmp 2] [.v (.int .i64)]) f [.code (bodyOf Try.f37)] (initX [.rd tRg] a) : Option (ResT [.v (.int .i64)]))
noncomputable def L_covp_0 (f : Nat) (x : (List (Rg)) × (List (Rg)) × Int × Int) : Option (Int) := (runX (C_covp) Lt_covp (Kret Try.prog [.tmp 2] [.v (.int .i64)]) f (headOf Try.f37 0) ((Lt_covp 0).mk' x) : Option (ResT [.v (.int .i64)]))
noncomputable def L_covp_2 (f : Nat) (x : Int × Int × (List (Rg)) × Int × Int) : Option (Int) := (runX (C_covp) Lt_covp (Kret Try.prog [.tmp 2] [.v (.int .i64)]) f (headOf Try.f37 2) ((Lt_covp 2).mk' x) : Option (ResT [.v (.int .i64)]))
theorem M_covp_eq (f : Nat) (l : List (Rg)) : M_covp (f + 1) l =
    L_covp_0 f ([], l, (↑l.length : Int), 0) := by kernel_rfl
theorem L_covp_0_eq (f : Nat) (valid0 : List (Rg)) (x10 : List (Rg)) (x11 : Int) (x12 : Int) : L_covp_0 (f + 1) (valid0, x10, x11, x12) =
    bif decide (x12 < x11) then bif decide (0 ≤ x12) && decide (x12 < (↑x10.length : Int)) then bif valid (x10.getD x12.toNat (0, 0)) then bif decide ((valid0.length + [x10.getD x12.toNat (0, 0)].length) * 16 ≤ 140737488355328) then L_covp_0 f (valid0 ++ [x10.getD x12.toNat (0, 0)], x10, x11, IntKind.i64.wrap (x12 + 1)) else none else L_covp_0 f (valid0, x10, x11, IntKind.i64.wrap (x12 + 1)) else none else bif E_sort.pre valid0 () then L_covp_2 f (0, 0, (E_sort.fn valid0 ()).2, (↑(E_sort.fn valid0 ()).2.length : Int), 0) else none := by kernel_rfl
theorem L_covp_2_eq (f : Nat) (sum : Int) (end0 : Int) (x25 : List (Rg)) (x26 : Int) (x27 : Int) : L_covp_2 (f + 1) (sum, end0, x25, x26, x27) =
    bif decide (x27 < x26) then bif decide (0 ≤ x27) && decide (x27 < (↑x25.length : Int)) then bif decide ((x25.getD x27.toNat (0, 0)).1 ≥ end0) then bif decide (0 ≤ (x25.getD x27.toNat (0, 0)).2) then L_covp_2 f (IntKind.i64.wrap (sum + IntKind.i64.wrap (1 * 2 ^ min (Int.toNat (x25.getD x27.toNat (0, 0)).2) IntKind.i64.bits)), rend (x25.getD x27.toNat (0, 0)), x25, x26, IntKind.i64.wrap (x27 + 1)) else none else L_covp_2 f (sum, end0, x25, x26, IntKind.i64.wrap (x27 + 1)) else none else some sum := by kernel_rfl
noncomputable def F_covp_2 : List (Rg) → (Int × Int × (List (Rg)) × Int × Nat) → Int
  | [], (sum, end0, x25, x26, x27) => sum
  | uu :: rest, (sum, end0, x25, x26, x27) => bif decide (uu.1 ≥ end0) then F_covp_2 rest (IntKind.i64.wrap (sum + IntKind.i64.wrap (1 * 2 ^ min (Int.toNat uu.2) IntKind.i64.bits)), rend uu, x25, x26, x27 + 1) else F_covp_2 rest (sum, end0, x25, x26, x27 + 1)
noncomputable def P_covp_2 : List (Rg) → (Int × Int × (List (Rg)) × Int × Nat) → Bool
  | [], (sum, end0, x25, x26, x27) => true
  | uu :: rest, (sum, end0, x25, x26, x27) => bif decide (uu.1 ≥ end0) then decide (0 ≤ uu.2) && P_covp_2 rest (IntKind.i64.wrap (sum + IntKind.i64.wrap (1 * 2 ^ min (Int.toNat uu.2) IntKind.i64.bits)), rend uu, x25, x26, x27 + 1) else P_covp_2 rest (sum, end0, x25, x26, x27 + 1)
theorem A_covp_2 : ∀ (rest : List (Rg)) (sum : Int) (end0 : Int) (x25 : List (Rg)) (x26 : Int) (x27 : Nat) (hd : x25.drop x27 = rest) (hn : x26 = ((x25.length : Nat) : Int)) (hl : x25.length ≤ 1099511627776), Rns (fun f => L_covp_2 f (sum, end0, x25, x26, ((x27 : Nat) : Int))) (P_covp_2 rest (sum, end0, x25, x26, x27)) (F_covp_2 rest (sum, end0, x25, x26, x27))
  | [], sum, end0, x25, x26, x27, hd, hn, hl => ev_step (T := fun f => some sum) (fun f => (L_covp_2_eq f _ _ _ _ _).trans (by simp only [ge_decn hn (drop_ge hd), ge0, Bool.and_self, Bool.true_and, cond_true, cond_false, List.length_set])) ev_some
  | uu :: rest, sum, end0, x25, x26, x27, hd, hn, hl => ev_step (T := fun f => bif decide (uu.1 ≥ end0) then bif decide (0 ≤ uu.2) then L_covp_2 f (IntKind.i64.wrap (sum + IntKind.i64.wrap (1 * 2 ^ min (Int.toNat uu.2) IntKind.i64.bits)), rend uu, x25, x26, (↑(x27 + 1) : Int)) else none else L_covp_2 f (sum, end0, x25, x26, (↑(x27 + 1) : Int))) (fun f => (L_covp_2_eq f _ _ _ _ _).trans (by simp only [lt_decn hn (drop_lt hd), lt_dec (drop_lt hd), drop_get hd, wrap_succ (drop_lt hd) hl, getD_set (drop_lt hd), ge0, Bool.and_self, Bool.true_and, cond_true, cond_false, List.length_set])) (ev_bif (ev_chk (A_covp_2 rest _ _ _ _ _ (by first | exact drop_succ hd | exact drop_set hd | exact drop_setS (drop_set hd)) (by first | exact hn | simpa using hn) (by first | exact hl | simpa using hl))) (A_covp_2 rest _ _ _ _ _ (by first | exact drop_succ hd | exact drop_set hd | exact drop_setS (drop_set hd)) (by first | exact hn | simpa using hn) (by first | exact hl | simpa using hl)))
noncomputable def F_covp_0 : List (Rg) → ((List (Rg)) × (List (Rg)) × Int × Nat) → Int
  | [], (valid0, x10, x11, x12) => F_covp_2 (E_sort.fn valid0 ()).2 (0, 0, (E_sort.fn valid0 ()).2, (↑(E_sort.fn valid0 ()).2.length : Int), 0)
  | uu :: rest, (valid0, x10, x11, x12) => bif valid uu then F_covp_0 rest (valid0 ++ [uu], x10, x11, x12 + 1) else F_covp_0 rest (valid0, x10, x11, x12 + 1)
noncomputable def P_covp_0 : List (Rg) → ((List (Rg)) × (List (Rg)) × Int × Nat) → Bool
  | [], (valid0, x10, x11, x12) => E_sort.pre valid0 () && (decide ((E_sort.fn valid0 ()).2.length ≤ 1099511627776) && P_covp_2 (E_sort.fn valid0 ()).2 (0, 0, (E_sort.fn valid0 ()).2, (↑(E_sort.fn valid0 ()).2.length : Int), 0))
  | uu :: rest, (valid0, x10, x11, x12) => bif valid uu then decide ((valid0.length + [uu].length) * 16 ≤ 140737488355328) && P_covp_0 rest (valid0 ++ [uu], x10, x11, x12 + 1) else P_covp_0 rest (valid0, x10, x11, x12 + 1)
theorem A_covp_0 : ∀ (rest : List (Rg)) (valid0 : List (Rg)) (x10 : List (Rg)) (x11 : Int) (x12 : Nat) (hd : x10.drop x12 = rest) (hn : x11 = ((x10.length : Nat) : Int)) (hl : x10.length ≤ 1099511627776), Rns (fun f => L_covp_0 f (valid0, x10, x11, ((x12 : Nat) : Int))) (P_covp_0 rest (valid0, x10, x11, x12)) (F_covp_0 rest (valid0, x10, x11, x12))
  | [], valid0, x10, x11, x12, hd, hn, hl => ev_step (T := fun f => bif E_sort.pre valid0 () then L_covp_2 f (0, 0, (E_sort.fn valid0 ()).2, (↑(E_sort.fn valid0 ()).2.length : Int), 0) else none) (fun f => (L_covp_0_eq f _ _ _ _).trans (by simp only [ge_decn hn (drop_ge hd), ge0, Bool.and_self, Bool.true_and, cond_true, cond_false, List.length_set])) (ev_chk (ev_and fun hh => A_covp_2 _ _ _ _ _ _ rfl (by first | rfl | simp) (of_decide_eq_true hh)))
  | uu :: rest, valid0, x10, x11, x12, hd, hn, hl => ev_step (T := fun f => bif valid uu then bif decide ((valid0.length + [uu].length) * 16 ≤ 140737488355328) then L_covp_0 f (valid0 ++ [uu], x10, x11, (↑(x12 + 1) : Int)) else none else L_covp_0 f (valid0, x10, x11, (↑(x12 + 1) : Int))) (fun f => (L_covp_0_eq f _ _ _ _).trans (by simp only [lt_decn hn (drop_lt hd), lt_dec (drop_lt hd), drop_get hd, wrap_succ (drop_lt hd) hl, getD_set (drop_lt hd), ge0, Bool.and_self, Bool.true_and, cond_true, cond_false, List.length_set])) (ev_bif (ev_chk (A_covp_0 rest _ _ _ _ (by first | exact drop_succ hd | exact drop_set hd | exact drop_setS (drop_set hd)) (by first | exact hn | simpa using hn) (by first | exact hl | simpa using hl))) (A_covp_0 rest _ _ _ _ (by first | exact drop_succ hd | exact drop_set hd | exact drop_setS (drop_set hd)) (by first | exact hn | simpa using hn) (by first | exact hl | simpa using hl)))
noncomputable def F_covp : (List (Rg)) → Int
  | l => F_covp_0 l ([], l, (↑l.length : Int), 0)
noncomputable def P_covp : (List (Rg)) → Bool
  | l => decide (l.length ≤ 1099511627776) && P_covp_0 l ([], l, (↑l.length : Int), 0)
theorem covp_auto : ∀ a : (List (Rg)), Rns (fun f => M_covp f a) (P_covp a) (F_covp a)
  | l => ev_step (fun f => M_covp_eq f _) (ev_and fun hh => A_covp_0 _ _ _ _ _ rfl (by first | rfl | simp) (of_decide_eq_true hh))
theorem covp_2 : ∀ (rest : List Rg) (s e : Int) (x25 : List Rg) (x26 : Int) (x27 : Nat), (∀ r ∈ rest, valid r = true) → 0 ≤ s → s + 1099511627776 * rest.length ≤ 1099511627776 * 1048576 →
    P_covp_2 rest (s, e, x25, x26, x27) = true ∧ F_covp_2 rest (s, e, x25, x26, x27) = covL rest s e ∧ covL rest s e ≤ s + 1099511627776 * rest.length
  | [], s, e, x25, x26, x27, hv, h0, h1 => ⟨rfl, rfl, by simp [covL]⟩
  | r :: t, s, e, x25, x26, x27, hv, h0, h1 => by
    obtain ⟨v1, v2, v3, v4, v5⟩ := valid_elim (hv r List.mem_cons_self)
    have hp := p2_pos r.2
    have h6 := p2_le40 (k := r.2) (by omega)
    simp only [List.length_cons, Int.natCast_add, Int.natCast_one] at h1
    have hs := sh1 (k := r.2) (by omega) (by omega)
    obtain ⟨a1, a2, a3⟩ := covp_2 t (s + p2 r.2) (rend r) x25 x26 (x27 + 1) (fun x hx => hv x (List.mem_cons_of_mem _ hx)) (by omega) (by omega)
    obtain ⟨b1, b2, b3⟩ := covp_2 t s e x25 x26 (x27 + 1) (fun x hx => hv x (List.mem_cons_of_mem _ hx)) h0 (by omega)
    have hw : IntKind.i64.wrap (s + p2 r.2) = s + p2 r.2 := i64_id (by omega) (by omega)
    simp only [P_covp_2, F_covp_2, covL, hs, hw, show decide (0 ≤ r.2) = true from decide_eq_true (by omega), Bool.true_and, List.length_cons, Int.natCast_add, Int.natCast_one]
    cases decide (r.1 ≥ e)
    · exact ⟨b1, b2, by simp only [cond_false]; omega⟩
    · exact ⟨a1, a2, by simp only [cond_true]; omega⟩
theorem covp_0 : ∀ (rest pre : List Rg) (x10 : List Rg) (x11 : Int) (x12 : Nat), pre.length + rest.length ≤ 1000000 → (∀ r ∈ pre, valid r = true) → P_covp_0 rest (pre, x10, x11, x12) = true ∧ F_covp_0 rest (pre, x10, x11, x12) = covL (srtR (pre ++ rest.filter valid)) 0 0
  | [], pre, x10, x11, x12, hl, hv => by
    simp only [List.length_nil, Nat.add_zero] at hl
    obtain ⟨a1, a2, _⟩ := covp_2 (srtR pre) 0 0 (srtR pre) ((srtR pre).length : Nat) 0 (fun r hr => hv r ((srt_perm _).mem_iff.1 hr)) (by omega) (by rw [srt_len]; omega)
    have e := srt_len pre
    refine ⟨?_, by rw [List.filter_nil, List.append_nil]; exact a2⟩
    show (decide (pre.length ≤ 1099511627776) && (decide ((srtR pre).length ≤ 1099511627776) && P_covp_2 (srtR pre) (0, 0, srtR pre, ((srtR pre).length : Nat), 0))) = true
    rw [a1, decide_eq_true (by omega : pre.length ≤ 1099511627776), decide_eq_true (by omega : (srtR pre).length ≤ 1099511627776)]; rfl
  | r :: t, pre, x10, x11, x12, hl, hv => by
    simp only [List.length_cons] at hl
    simp only [P_covp_0, F_covp_0, List.filter_cons]
    cases hr : valid r with
    | false => exact covp_0 t pre x10 x11 (x12 + 1) (by omega) hv
    | true =>
      have ih := covp_0 t (pre ++ [r]) x10 x11 (x12 + 1) (by simp; omega) (fun x hx => by
        rcases List.mem_append.1 hx with h | h
        · exact hv x h
        · rw [List.mem_singleton.1 h]; exact hr)
      rw [show pre ++ [r] ++ t.filter valid = pre ++ r :: t.filter valid by simp] at ih
      simp only [cond_true, if_true, ih.1, Bool.and_true, List.length_singleton, decide_eq_true_eq]
      exact ⟨by omega, ih.2⟩
def lenM (l : List Rg) : Bool := decide (l.length ≤ 1000000)
theorem covp_P : ∀ a, lenM a = true → P_covp a = true := fun a h => by
  have h : a.length ≤ 1000000 := of_decide_eq_true h
  simp only [P_covp, Bool.and_eq_true, decide_eq_true_eq]
  exact ⟨by omega, (covp_0 a [] a _ 0 (by simpa using h) (fun r hr => by cases hr)).1⟩
theorem covp_F : ∀ a, lenM a = true → F_covp a = covS a := fun a h => by
  have h : a.length ≤ 1000000 := of_decide_eq_true h
  simp only [F_covp]
  rw [(covp_0 a [] a _ 0 (by simpa using h) (fun r hr => by cases hr)).2]; rfl
theorem covp_run : ∀ a, (lenM : (List (Rg)) → Bool) a = true → ∃ f, M_covp f a = some ((covS : (List (Rg)) → Int) a) := fun a h => by have h1 := covp_auto a (covp_P a h); rw [covp_F a h] at h1; exact h1
noncomputable def E_covp : Ent := ⟨37, [.rd tRg], [.v (.int .i64)], fun a => (lenM : (List (Rg)) → Bool) a, fun a => (covS : (List (Rg)) → Int) a⟩
theorem E_covp_ok : E_covp.Ok Try.prog := fun a hp vs hv => (covp_run a hp).elim fun f h => fnX_ok (C := C_covp) (Lt := Lt_covp) (fn := Try.f37) (rs := [.tmp 2]) [.rd tRg] [.v (.int .i64)] mixed es_covp Try.func37 rfl rfl rfl (by kernel_rfl) (by kernel_rfl) f h vs hv
end Go.AL
