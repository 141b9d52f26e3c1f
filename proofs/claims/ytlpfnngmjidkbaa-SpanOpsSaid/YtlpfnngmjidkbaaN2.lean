/-
  Layer 33 (span): what the laws' functions compute. By an AI agent.
-/
import Derived.Test.YtlpfnngmjidkbaaProg
import Derived.Test.YtlpfnngmjidkbaaAxKit
import Derived.Test.YtlpfnngmjidkbaaAxInt
import Derived.Test.YtlpfnngmjidkbaaAxAuto
import Derived.Test.YtlpfnngmjidkbaaAlIns
import Derived.Test.YtlpfnngmjidkbaaAxLrun
import Derived.Test.YtlpfnngmjidkbaaCxEnt
namespace Go.AL
open Go.Proofs
set_option linter.unusedVariables false
set_option linter.unusedSimpArgs false
theorem mixed : Try.prog.follows .mixedOrders = true := by kernel_rfl
abbrev tSPg : List Ty := [.int .i64, .int .i64, .int .i64]
abbrev SPg := Int × Int × Int
abbrev tSOp : List Ty := [.int .i64, .int .i64, .int .i64, .int .i64, .int .i64, .int .i64]
abbrev SOp := Int × Int × Int × Int × Int × Int
theorem bneD {α : Type} [DecidableEq α] (a b : α) : (a != b) = !decide (a = b) := by
  by_cases h : a = b
  · subst h; simp
  · rw [decide_eq_false h]; simpa using h
theorem drop_get2 {α : Type} {l : List α} {k : Nat} {x : α} {r : List α} (z : α) (h : l.drop k = x :: r) : k < l.length ∧ l.getD k z = x ∧ l.drop (k + 1) = r := by
  have hk : k < l.length := by
    by_cases hk : k < l.length
    · exact hk
    · rw [List.drop_eq_nil_of_le (by omega)] at h; cases h
  rw [List.drop_eq_getElem_cons hk] at h
  obtain ⟨h1, h2⟩ := List.cons.inj h
  exact ⟨hk, by rw [List.getD_eq_getElem?_getD, List.getElem?_eq_getElem hk]; exact h1, h2⟩
noncomputable def C_place : Cfg := ⟨Try.prog, [], pmT [], 15, [], [], [], []⟩
theorem es_place : EsOk Try.prog [] [] [] := es_nil
def Lt_place : Nat → LD := ldT []
noncomputable def M_place (f : Nat) (a : Int × Int) : Option (Int) := (runX (C_place) Lt_place (Kret Try.prog [.tmp 4] [.v (.int .i64)]) f [.code (bodyOf Try.f6)] (initX [.c (.int .i64), .c (.int .i64)] a) : Option (ResT [.v (.int .i64)]))
theorem M_place_eq (f : Nat) (v : Int) (n : Int) : M_place (f + 1) (v, n) =
    bif n != 0 then bif decide (v.tmod n < 0) then some (IntKind.i64.wrap (v.tmod n + n)) else some (v.tmod n) else none := by kernel_rfl
noncomputable def F_place : (Int × Int) → Int
  | (v, n) => bif decide (v.tmod n < 0) then IntKind.i64.wrap (v.tmod n + n) else v.tmod n
noncomputable def P_place : (Int × Int) → Bool
  | (v, n) => n != 0
theorem place_auto : ∀ a : Int × Int, Rns (fun f => M_place f a) (P_place a) (F_place a)
  | (v, n) => ev_step (fun f => M_place_eq f _ _) (ev_chk1 (ev_bift ev_some ev_some))
def plc (a : Int × Int) : Int := a.1 % a.2
def plcPre (a : Int × Int) : Bool := decide (0 < a.2) && decide (a.2 ≤ 4611686018427387904)
theorem place_P : ∀ a, plcPre a = true → P_place a = true := by
  rintro ⟨v, n⟩ h
  simp only [plcPre, Bool.and_eq_true, decide_eq_true_eq] at h
  simp only [P_place, bneD, decide_eq_false (show ¬ n = 0 by omega)]; rfl
theorem place_F : ∀ a, plcPre a = true → F_place a = plc a := by
  rintro ⟨v, n⟩ h
  simp only [plcPre, Bool.and_eq_true, decide_eq_true_eq] at h
  simp only [F_place, plc]
  have e : v % n = if v.tmod n < 0 then v.tmod n + n else v.tmod n := by
    have h1 := Int.tmod_lt_of_pos v h.1
    have h2 : - n < v.tmod n := by
      have := Int.lt_tmod_of_pos v h.1
      omega
    have h3 : (v.tmod n) % n = v % n := by
      rw [Int.tmod_eq_emod]
      split
      · simp
      · have : (n.natAbs : Int) = n := by omega
        rw [this]; simp
    split
    · rw [← h3]
      have : (v.tmod n + n) % n = v.tmod n + n := Int.emod_eq_of_lt (by omega) (by omega)
      rw [← this]; simp
    · rw [← h3]; exact Int.emod_eq_of_lt (by omega) (by omega)
  rw [e]
  by_cases hn : v.tmod n < 0
  · have h2 : - n < v.tmod n := by
      have := Int.lt_tmod_of_pos v h.1
      omega
    rw [decide_eq_true hn, if_pos hn, cond_true, i64_id (by omega) (by omega)]
  · rw [decide_eq_false hn, if_neg hn]; rfl
theorem place_run : ∀ a, (plcPre : Int × Int → Bool) a = true → ∃ f, M_place f a = some ((plc : Int × Int → Int) a) := fun a h => by have h1 := place_auto a (place_P a h); rw [place_F a h] at h1; exact h1
noncomputable def E_place : Ent := ⟨6, [.c (.int .i64), .c (.int .i64)], [.v (.int .i64)], fun a => (plcPre : Int × Int → Bool) a, fun a => (plc : Int × Int → Int) a⟩
theorem E_place_ok : E_place.Ok Try.prog := fun a hp vs hv => (place_run a hp).elim fun f h => fnX_ok (C := C_place) (Lt := Lt_place) (fn := Try.f6) (rs := [.tmp 4]) [.c (.int .i64), .c (.int .i64)] [.v (.int .i64)] mixed es_place Try.func6 rfl rfl rfl (by kernel_rfl) (by kernel_rfl) f h vs hv

noncomputable def C_vop : Cfg := ⟨Try.prog, [], pmT [], 74, [], [], [], []⟩
theorem es_vop : EsOk Try.prog [] [] [] := es_nil
def Lt_vop : Nat → LD := ldT []
noncomputable def M_vop (f : Nat) (a : SOp) : Option (Bool) := (runX (C_vop) Lt_vop (Kret Try.prog [.tmp 2] [.v (.bool)]) f [.code (bodyOf Try.f18)] (initX [.g tSOp] a) : Option (ResT [.v (.bool)]))
theorem M_vop_eq (f : Nat) (op : SOp) : M_vop (f + 1) op =
    bif decide (op.1 < 0) then some false else bif decide (op.1 ≥ 32) then some false else bif decide (op.2.1 ≤ 0) then some false else bif decide (op.2.2.2.1 < 0) then some false else bif decide (op.2.2.2.1 > 134217727) then some false else bif decide (op.2.2.2.2.2 ≥ 0) then bif op.2.2.1 == 1 then bif decide (op.2.2.2.2.2 ≤ 3) then bif decide (op.2.2.2.2.1 ≥ 0) then bif decide (op.2.2.2.2.1 ≤ 1099511623680) then some (Int.tmod op.2.2.2.2.1 4096 == 0) else some false else some false else some false else bif op.2.2.1 == 2 then bif op.2.2.2.2.1 == 0 then some (op.2.2.2.2.2 == 0) else some false else bif op.2.2.1 == 3 then bif decide (op.2.2.2.2.2 ≤ 3) then some (op.2.2.2.2.1 == 0) else some false else some false else bif op.2.2.1 == 1 then some false else bif op.2.2.1 == 2 then bif op.2.2.2.2.1 == 0 then some (op.2.2.2.2.2 == 0) else some false else bif op.2.2.1 == 3 then some false else some false := by kernel_rfl
noncomputable def F_vop : SOp → Bool
  | op => bif decide (op.1 < 0) then false else bif decide (op.1 ≥ 32) then false else bif decide (op.2.1 ≤ 0) then false else bif decide (op.2.2.2.1 < 0) then false else bif decide (op.2.2.2.1 > 134217727) then false else bif decide (op.2.2.2.2.2 ≥ 0) then bif op.2.2.1 == 1 then bif decide (op.2.2.2.2.2 ≤ 3) then bif decide (op.2.2.2.2.1 ≥ 0) then bif decide (op.2.2.2.2.1 ≤ 1099511623680) then Int.tmod op.2.2.2.2.1 4096 == 0 else false else false else false else bif op.2.2.1 == 2 then bif op.2.2.2.2.1 == 0 then op.2.2.2.2.2 == 0 else false else bif op.2.2.1 == 3 then bif decide (op.2.2.2.2.2 ≤ 3) then op.2.2.2.2.1 == 0 else false else false else bif op.2.2.1 == 1 then false else bif op.2.2.1 == 2 then bif op.2.2.2.2.1 == 0 then op.2.2.2.2.2 == 0 else false else bif op.2.2.1 == 3 then false else false
noncomputable def P_vop : SOp → Bool
  | op => true
theorem vop_auto : ∀ a : SOp, Rns (fun f => M_vop f a) (P_vop a) (F_vop a)
  | op => ev_step (fun f => M_vop_eq f _) (ev_bift ev_some (ev_bift ev_some (ev_bift ev_some (ev_bift ev_some (ev_bift ev_some (ev_bift (ev_bift (ev_bift (ev_bift (ev_bift ev_some ev_some) ev_some) ev_some) (ev_bift (ev_bift ev_some ev_some) (ev_bift (ev_bift ev_some ev_some) ev_some))) (ev_bift ev_some (ev_bift (ev_bift ev_some ev_some) (ev_bift ev_some ev_some)))))))))
theorem vop_P : ∀ a : SOp, (fun _ => true : SOp → Bool) a = true → P_vop a = true := fun a h => rfl
theorem vop_F : ∀ a : SOp, (fun _ => true : SOp → Bool) a = true → F_vop a = F_vop a := fun _ _ => rfl
theorem vop_run : ∀ a, (fun _ => true : SOp → Bool) a = true → ∃ f, M_vop f a = some ((F_vop : SOp → Bool) a) := fun a h => by have h1 := vop_auto a (vop_P a h); rw [vop_F a h] at h1; exact h1
noncomputable def E_vop : Ent := ⟨18, [.g tSOp], [.v (.bool)], fun a => (fun _ => true : SOp → Bool) a, fun a => (F_vop : SOp → Bool) a⟩
theorem E_vop_ok : E_vop.Ok Try.prog := fun a hp vs hv => (vop_run a hp).elim fun f h => fnX_ok (C := C_vop) (Lt := Lt_vop) (fn := Try.f18) (rs := [.tmp 2]) [.g tSOp] [.v (.bool)] mixed es_vop Try.func18 rfl rfl rfl (by kernel_rfl) (by kernel_rfl) f h vs hv
noncomputable def C_asc : Cfg := ⟨Try.prog, [], pmT [(4, ([(0, []), (1, []), (2, []), (3, []), (4, []), (5, []), (6, []), (7, []), (8, []), (9, []), (10, []), (11, [])], [(10, 21)]))], 22, [], [], [], []⟩
theorem es_asc : EsOk Try.prog [] [] [] := es_nil
def Lt_asc : Nat → LD := ldT [(0, ⟨[.rd 0 tSPg, .c 3 (.int .i64)], [], 0⟩)]
noncomputable def M_asc (f : Nat) (a : (List (SPg))) : Option (Bool) := (runX (C_asc) Lt_asc (Kret Try.prog [.tmp 2] [.v (.bool)]) f [.code (bodyOf Try.f19)] (initX [.rd tSPg] a) : Option (ResT [.v (.bool)]))
noncomputable def L_asc_0 (f : Nat) (x : (List (SPg)) × Int) : Option (Bool) := (runX (C_asc) Lt_asc (Kret Try.prog [.tmp 2] [.v (.bool)]) f (headOf Try.f19 0) ((Lt_asc 0).mk' x) : Option (ResT [.v (.bool)]))
theorem M_asc_eq (f : Nat) (l : List (SPg)) : M_asc (f + 1) l =
    L_asc_0 f (l, 1) := by kernel_rfl
theorem L_asc_0_eq (f : Nat) (table : List (SPg)) (i : Int) : L_asc_0 (f + 1) (table, i) =
    bif decide (i < (↑table.length : Int)) then bif decide (0 ≤ IntKind.i64.wrap (i - 1)) && decide (IntKind.i64.wrap (i - 1) < (↑table.length : Int)) then bif decide (0 ≤ i) && decide (i < (↑table.length : Int)) then bif decide ((table.getD (IntKind.i64.wrap (i - 1)).toNat (0, 0, 0)).1 ≥ (table.getD i.toNat (0, 0, 0)).1) then some false else L_asc_0 f (table, IntKind.i64.wrap (i + 1)) else none else none else some true := by kernel_rfl
noncomputable def F_asc_0 : List (SPg) → ((List (SPg)) × Nat) → Bool
  | [], (table, i) => true
  | uu :: rest, (table, i) => bif decide ((table.getD (IntKind.i64.wrap ((↑i : Int) - 1)).toNat (0, 0, 0)).1 ≥ uu.1) then false else F_asc_0 rest (table, i + 1)
noncomputable def P_asc_0 : List (SPg) → ((List (SPg)) × Nat) → Bool
  | [], (table, i) => true
  | uu :: rest, (table, i) => decide (0 ≤ IntKind.i64.wrap ((↑i : Int) - 1)) && decide (IntKind.i64.wrap ((↑i : Int) - 1) < (↑table.length : Int)) && bif decide ((table.getD (IntKind.i64.wrap ((↑i : Int) - 1)).toNat (0, 0, 0)).1 ≥ uu.1) then true else P_asc_0 rest (table, i + 1)
theorem A_asc_0 : ∀ (rest : List (SPg)) (table : List (SPg)) (i : Nat) (hd : table.drop i = rest) (hl : table.length ≤ 1099511627776), Rns (fun f => L_asc_0 f (table, ((i : Nat) : Int))) (P_asc_0 rest (table, i)) (F_asc_0 rest (table, i))
  | [], table, i, hd, hl => ev_step (T := fun f => some true) (fun f => (L_asc_0_eq f _ _).trans (by simp only [ge_dec (drop_ge hd), ge0, Bool.and_self, Bool.true_and, cond_true, cond_false, List.length_set] <;> rfl)) ev_some
  | uu :: rest, table, i, hd, hl => ev_step (T := fun f => bif decide (0 ≤ IntKind.i64.wrap ((↑i : Int) - 1)) && decide (IntKind.i64.wrap ((↑i : Int) - 1) < (↑table.length : Int)) then bif decide ((table.getD (IntKind.i64.wrap ((↑i : Int) - 1)).toNat (0, 0, 0)).1 ≥ uu.1) then some false else L_asc_0 f (table, (↑(i + 1) : Int)) else none) (fun f => (L_asc_0_eq f _ _).trans (by simp only [lt_dec (drop_lt hd), drop_get hd, wrap_succ (drop_lt hd) hl, getD_set (drop_lt hd), ge0, Bool.and_self, Bool.true_and, cond_true, cond_false, List.length_set] <;> rfl)) (ev_chk (ev_bif ev_some (A_asc_0 rest _ _ (by first | exact drop_succ hd | exact drop_set hd | exact drop_setS (drop_set hd)) (by first | exact hl | simpa using hl))))
noncomputable def F_asc : (List (SPg)) → Bool
  | l => F_asc_0 (List.drop 1 l) (l, 1)
noncomputable def P_asc : (List (SPg)) → Bool
  | l => decide (l.length ≤ 1099511627776) && P_asc_0 (List.drop 1 l) (l, 1)
theorem asc_auto : ∀ a : (List (SPg)), Rns (fun f => M_asc f a) (P_asc a) (F_asc a)
  | l => ev_step (fun f => M_asc_eq f _) (ev_and fun hh => A_asc_0 _ _ _ rfl (of_decide_eq_true hh))
theorem asc_P : ∀ a : List SPg, (P_asc : List SPg → Bool) a = true → P_asc a = true := fun a h => h
theorem asc_F : ∀ a : List SPg, (P_asc : List SPg → Bool) a = true → F_asc a = F_asc a := fun _ _ => rfl
theorem asc_run : ∀ a, (P_asc : (List (SPg)) → Bool) a = true → ∃ f, M_asc f a = some ((F_asc : (List (SPg)) → Bool) a) := fun a h => by have h1 := asc_auto a (asc_P a h); rw [asc_F a h] at h1; exact h1
noncomputable def E_asc : Ent := ⟨19, [.rd tSPg], [.v (.bool)], fun a => (P_asc : (List (SPg)) → Bool) a, fun a => (F_asc : (List (SPg)) → Bool) a⟩
theorem E_asc_ok : E_asc.Ok Try.prog := fun a hp vs hv => (asc_run a hp).elim fun f h => fnX_ok (C := C_asc) (Lt := Lt_asc) (fn := Try.f19) (rs := [.tmp 2]) [.rd tSPg] [.v (.bool)] mixed es_asc Try.func19 rfl rfl rfl (by kernel_rfl) (by kernel_rfl) f h vs hv
noncomputable def C_ris : Cfg := ⟨Try.prog, [], pmT [(4, ([(0, []), (1, []), (2, []), (3, []), (4, []), (5, []), (6, []), (7, []), (8, []), (9, []), (10, []), (11, [])], [(10, 21)]))], 22, [], [], [], []⟩
theorem es_ris : EsOk Try.prog [] [] [] := es_nil
def Lt_ris : Nat → LD := ldT [(0, ⟨[.rd 0 tSPg, .c 3 (.int .i64)], [], 0⟩)]
noncomputable def M_ris (f : Nat) (a : (List (SPg))) : Option (Bool) := (runX (C_ris) Lt_ris (Kret Try.prog [.tmp 2] [.v (.bool)]) f [.code (bodyOf Try.f10)] (initX [.rd tSPg] a) : Option (ResT [.v (.bool)]))
noncomputable def L_ris_0 (f : Nat) (x : (List (SPg)) × Int) : Option (Bool) := (runX (C_ris) Lt_ris (Kret Try.prog [.tmp 2] [.v (.bool)]) f (headOf Try.f10 0) ((Lt_ris 0).mk' x) : Option (ResT [.v (.bool)]))
theorem M_ris_eq (f : Nat) (l : List (SPg)) : M_ris (f + 1) l =
    L_ris_0 f (l, 1) := by kernel_rfl
theorem L_ris_0_eq (f : Nat) (t : List (SPg)) (i : Int) : L_ris_0 (f + 1) (t, i) =
    bif decide (i < (↑t.length : Int)) then bif decide (0 ≤ i) && decide (i < (↑t.length : Int)) then bif decide (0 ≤ IntKind.i64.wrap (i - 1)) && decide (IntKind.i64.wrap (i - 1) < (↑t.length : Int)) then bif decide ((t.getD i.toNat (0, 0, 0)).1 ≤ (t.getD (IntKind.i64.wrap (i - 1)).toNat (0, 0, 0)).1) then some false else L_ris_0 f (t, IntKind.i64.wrap (i + 1)) else none else none else some true := by kernel_rfl
noncomputable def F_ris_0 : List (SPg) → ((List (SPg)) × Nat) → Bool
  | [], (t, i) => true
  | uu :: rest, (t, i) => bif decide (uu.1 ≤ (t.getD (IntKind.i64.wrap ((↑i : Int) - 1)).toNat (0, 0, 0)).1) then false else F_ris_0 rest (t, i + 1)
noncomputable def P_ris_0 : List (SPg) → ((List (SPg)) × Nat) → Bool
  | [], (t, i) => true
  | uu :: rest, (t, i) => decide (0 ≤ IntKind.i64.wrap ((↑i : Int) - 1)) && decide (IntKind.i64.wrap ((↑i : Int) - 1) < (↑t.length : Int)) && bif decide (uu.1 ≤ (t.getD (IntKind.i64.wrap ((↑i : Int) - 1)).toNat (0, 0, 0)).1) then true else P_ris_0 rest (t, i + 1)
theorem A_ris_0 : ∀ (rest : List (SPg)) (t : List (SPg)) (i : Nat) (hd : t.drop i = rest) (hl : t.length ≤ 1099511627776), Rns (fun f => L_ris_0 f (t, ((i : Nat) : Int))) (P_ris_0 rest (t, i)) (F_ris_0 rest (t, i))
  | [], t, i, hd, hl => ev_step (T := fun f => some true) (fun f => (L_ris_0_eq f _ _).trans (by simp only [ge_dec (drop_ge hd), ge0, Bool.and_self, Bool.true_and, cond_true, cond_false, List.length_set] <;> rfl)) ev_some
  | uu :: rest, t, i, hd, hl => ev_step (T := fun f => bif decide (0 ≤ IntKind.i64.wrap ((↑i : Int) - 1)) && decide (IntKind.i64.wrap ((↑i : Int) - 1) < (↑t.length : Int)) then bif decide (uu.1 ≤ (t.getD (IntKind.i64.wrap ((↑i : Int) - 1)).toNat (0, 0, 0)).1) then some false else L_ris_0 f (t, (↑(i + 1) : Int)) else none) (fun f => (L_ris_0_eq f _ _).trans (by simp only [lt_dec (drop_lt hd), drop_get hd, wrap_succ (drop_lt hd) hl, getD_set (drop_lt hd), ge0, Bool.and_self, Bool.true_and, cond_true, cond_false, List.length_set] <;> rfl)) (ev_chk (ev_bif ev_some (A_ris_0 rest _ _ (by first | exact drop_succ hd | exact drop_set hd | exact drop_setS (drop_set hd)) (by first | exact hl | simpa using hl))))
noncomputable def F_ris : (List (SPg)) → Bool
  | l => F_ris_0 (List.drop 1 l) (l, 1)
noncomputable def P_ris : (List (SPg)) → Bool
  | l => decide (l.length ≤ 1099511627776) && P_ris_0 (List.drop 1 l) (l, 1)
theorem ris_auto : ∀ a : (List (SPg)), Rns (fun f => M_ris f a) (P_ris a) (F_ris a)
  | l => ev_step (fun f => M_ris_eq f _) (ev_and fun hh => A_ris_0 _ _ _ rfl (of_decide_eq_true hh))
theorem ris_P : ∀ a : List SPg, (P_ris : List SPg → Bool) a = true → P_ris a = true := fun a h => h
theorem ris_F : ∀ a : List SPg, (P_ris : List SPg → Bool) a = true → F_ris a = F_ris a := fun _ _ => rfl
theorem ris_run : ∀ a, (P_ris : (List (SPg)) → Bool) a = true → ∃ f, M_ris f a = some ((F_ris : (List (SPg)) → Bool) a) := fun a h => by have h1 := ris_auto a (ris_P a h); rw [ris_F a h] at h1; exact h1
noncomputable def E_ris : Ent := ⟨10, [.rd tSPg], [.v (.bool)], fun a => (P_ris : (List (SPg)) → Bool) a, fun a => (F_ris : (List (SPg)) → Bool) a⟩
theorem E_ris_ok : E_ris.Ok Try.prog := fun a hp vs hv => (ris_run a hp).elim fun f h => fnX_ok (C := C_ris) (Lt := Lt_ris) (fn := Try.f10) (rs := [.tmp 2]) [.rd tSPg] [.v (.bool)] mixed es_ris Try.func10 rfl rfl rfl (by kernel_rfl) (by kernel_rfl) f h vs hv
noncomputable def C_sam : Cfg := ⟨Try.prog, [], pmT [(6, ([(0, []), (1, []), (2, []), (3, []), (4, []), (5, []), (6, []), (7, []), (8, [])], [(17, 25)]))], 26, [], [], [], []⟩
theorem es_sam : EsOk Try.prog [] [] [] := es_nil
def Lt_sam : Nat → LD := ldT [(0, ⟨[.rd 0 tSPg, .rd 1 tSPg, .c 5 (.int .i64)], [], 0⟩)]
noncomputable def M_sam (f : Nat) (a : (List (SPg)) × (List (SPg))) : Option (Bool) := (runX (C_sam) Lt_sam (Kret Try.prog [.tmp 4] [.v (.bool)]) f [.code (bodyOf Try.f9)] (initX [.rd tSPg, .rd tSPg] a) : Option (ResT [.v (.bool)]))
noncomputable def L_sam_0 (f : Nat) (x : (List (SPg)) × (List (SPg)) × Int) : Option (Bool) := (runX (C_sam) Lt_sam (Kret Try.prog [.tmp 4] [.v (.bool)]) f (headOf Try.f9 0) ((Lt_sam 0).mk' x) : Option (ResT [.v (.bool)]))
theorem M_sam_eq (f : Nat) (a : List (SPg)) (b : List (SPg)) : M_sam (f + 1) (a, b) =
    bif (↑a.length : Int) != (↑b.length : Int) then some false else L_sam_0 f (a, b, 0) := by kernel_rfl
theorem L_sam_0_eq (f : Nat) (a : List (SPg)) (b : List (SPg)) (i : Int) : L_sam_0 (f + 1) (a, b, i) =
    bif decide (i < (↑a.length : Int)) then bif decide (0 ≤ i) && decide (i < (↑a.length : Int)) then bif decide (0 ≤ i) && decide (i < (↑b.length : Int)) then bif !((a.getD i.toNat (0, 0, 0)).1 == (b.getD i.toNat (0, 0, 0)).1 && ((a.getD i.toNat (0, 0, 0)).2.1 == (b.getD i.toNat (0, 0, 0)).2.1 && ((a.getD i.toNat (0, 0, 0)).2.2 == (b.getD i.toNat (0, 0, 0)).2.2 && true))) then some false else L_sam_0 f (a, b, IntKind.i64.wrap (i + 1)) else none else none else some true := by kernel_rfl
noncomputable def F_sam_0 : List (SPg) → ((List (SPg)) × (List (SPg)) × Nat) → Bool
  | [], (a, b, i) => true
  | uu :: rest, (a, b, i) => bif !(uu.1 == (b.getD (↑i : Int).toNat (0, 0, 0)).1 && (uu.2.1 == (b.getD (↑i : Int).toNat (0, 0, 0)).2.1 && (uu.2.2 == (b.getD (↑i : Int).toNat (0, 0, 0)).2.2 && true))) then false else F_sam_0 rest (a, b, i + 1)
noncomputable def P_sam_0 : List (SPg) → ((List (SPg)) × (List (SPg)) × Nat) → Bool
  | [], (a, b, i) => true
  | uu :: rest, (a, b, i) => decide ((↑i : Int) < (↑b.length : Int)) && bif !(uu.1 == (b.getD (↑i : Int).toNat (0, 0, 0)).1 && (uu.2.1 == (b.getD (↑i : Int).toNat (0, 0, 0)).2.1 && (uu.2.2 == (b.getD (↑i : Int).toNat (0, 0, 0)).2.2 && true))) then true else P_sam_0 rest (a, b, i + 1)
theorem A_sam_0 : ∀ (rest : List (SPg)) (a : List (SPg)) (b : List (SPg)) (i : Nat) (hd : a.drop i = rest) (hl : a.length ≤ 1099511627776), Rns (fun f => L_sam_0 f (a, b, ((i : Nat) : Int))) (P_sam_0 rest (a, b, i)) (F_sam_0 rest (a, b, i))
  | [], a, b, i, hd, hl => ev_step (T := fun f => some true) (fun f => (L_sam_0_eq f _ _ _).trans (by simp only [ge_dec (drop_ge hd), ge0, Bool.and_self, Bool.true_and, cond_true, cond_false, List.length_set] <;> rfl)) ev_some
  | uu :: rest, a, b, i, hd, hl => ev_step (T := fun f => bif decide ((↑i : Int) < (↑b.length : Int)) then bif !(uu.1 == (b.getD (↑i : Int).toNat (0, 0, 0)).1 && (uu.2.1 == (b.getD (↑i : Int).toNat (0, 0, 0)).2.1 && (uu.2.2 == (b.getD (↑i : Int).toNat (0, 0, 0)).2.2 && true))) then some false else L_sam_0 f (a, b, (↑(i + 1) : Int)) else none) (fun f => (L_sam_0_eq f _ _ _).trans (by simp only [lt_dec (drop_lt hd), drop_get hd, wrap_succ (drop_lt hd) hl, getD_set (drop_lt hd), ge0, Bool.and_self, Bool.true_and, cond_true, cond_false, List.length_set] <;> rfl)) (ev_chk (ev_bif ev_some (A_sam_0 rest _ _ _ (by first | exact drop_succ hd | exact drop_set hd | exact drop_setS (drop_set hd)) (by first | exact hl | simpa using hl))))
noncomputable def F_sam : ((List (SPg)) × (List (SPg))) → Bool
  | (a, b) => bif (↑a.length : Int) != (↑b.length : Int) then false else F_sam_0 a (a, b, 0)
noncomputable def P_sam : ((List (SPg)) × (List (SPg))) → Bool
  | (a, b) => bif (↑a.length : Int) != (↑b.length : Int) then true else decide (a.length ≤ 1099511627776) && P_sam_0 a (a, b, 0)
theorem sam_auto : ∀ a : (List (SPg)) × (List (SPg)), Rns (fun f => M_sam f a) (P_sam a) (F_sam a)
  | (a, b) => ev_step (fun f => M_sam_eq f _ _) (ev_bif ev_some (ev_and fun hh => A_sam_0 _ _ _ _ rfl (of_decide_eq_true hh)))
theorem sam_P : ∀ a : List SPg × List SPg, (P_sam : List SPg × List SPg → Bool) a = true → P_sam a = true := fun a h => h
theorem sam_F : ∀ a : List SPg × List SPg, (P_sam : List SPg × List SPg → Bool) a = true → F_sam a = F_sam a := fun _ _ => rfl
theorem sam_run : ∀ a, (P_sam : (List (SPg)) × (List (SPg)) → Bool) a = true → ∃ f, M_sam f a = some ((F_sam : (List (SPg)) × (List (SPg)) → Bool) a) := fun a h => by have h1 := sam_auto a (sam_P a h); rw [sam_F a h] at h1; exact h1
noncomputable def E_sam : Ent := ⟨9, [.rd tSPg, .rd tSPg], [.v (.bool)], fun a => (P_sam : (List (SPg)) × (List (SPg)) → Bool) a, fun a => (F_sam : (List (SPg)) × (List (SPg)) → Bool) a⟩
theorem E_sam_ok : E_sam.Ok Try.prog := fun a hp vs hv => (sam_run a hp).elim fun f h => fnX_ok (C := C_sam) (Lt := Lt_sam) (fn := Try.f9) (rs := [.tmp 4]) [.rd tSPg, .rd tSPg] [.v (.bool)] mixed es_sam Try.func9 rfl rfl rfl (by kernel_rfl) (by kernel_rfl) f h vs hv
noncomputable def C_fnd : Cfg := ⟨Try.prog, [], pmT [], 38, [], [], [], []⟩
theorem es_fnd : EsOk Try.prog [] [] [] := es_nil
def Lt_fnd : Nat → LD := ldT [(0, ⟨[.rd 0 tSPg, .c 1 (.int .i64), .box 4 4 34 3 tSPg, .box 7 7 34 3 tSPg, .list 8 999 34 3 tSPg, .c 9 (.bool), .c 10 (.int .i64)], [], 0⟩)]
noncomputable def M_fnd (f : Nat) (a : (List (SPg)) × Int) : Option (SPg × Bool × (List (SPg))) := (runX (C_fnd) Lt_fnd (Kret Try.prog [.cell 4 34, .tmp 5, .tmp 6] [.g tSPg, .v (.bool), .o 34 3 tSPg]) f [.code (bodyOf Try.f8)] (initX [.rd tSPg, .c (.int .i64)] a) : Option (ResT [.g tSPg, .v (.bool), .o 34 3 tSPg]))
noncomputable def L_fnd_0 (f : Nat) (x : (List (SPg)) × Int × SPg × SPg × (List (SPg)) × Bool × Int) : Option (SPg × Bool × (List (SPg))) := (runX (C_fnd) Lt_fnd (Kret Try.prog [.cell 4 34, .tmp 5, .tmp 6] [.g tSPg, .v (.bool), .o 34 3 tSPg]) f (headOf Try.f8 0) ((Lt_fnd 0).mk' x) : Option (ResT [.g tSPg, .v (.bool), .o 34 3 tSPg]))
theorem M_fnd_eq (f : Nat) (l : List (SPg)) (page : Int) : M_fnd (f + 1) (l, page) =
    L_fnd_0 f (l, page, (0, 0, 0), (0, 0, 0), [], false, 0) := by kernel_rfl
theorem L_fnd_0_eq (f : Nat) (t : List (SPg)) (page : Int) (x4 : SPg) (x : SPg) (rest0 : List (SPg)) (has : Bool) (i : Int) : L_fnd_0 (f + 1) (t, page, x4, x, rest0, has, i) =
    bif decide (i < (↑t.length : Int)) then bif decide (0 ≤ i) && decide (i < (↑t.length : Int)) then bif (t.getD i.toNat (0, 0, 0)).1 == page then bif decide (0 ≤ i) && decide (i < (↑t.length : Int)) then L_fnd_0 f (t, page, x4, t.getD i.toNat (0, 0, 0), rest0, true, IntKind.i64.wrap (i + 1)) else none else bif decide (0 ≤ i) && decide (i < (↑t.length : Int)) then bif decide ((rest0.length + [t.getD i.toNat (0, 0, 0)].length) * 24 ≤ 140737488355328) then L_fnd_0 f (t, page, x4, x, rest0 ++ [t.getD i.toNat (0, 0, 0)], has, IntKind.i64.wrap (i + 1)) else none else none else none else some (x, has, rest0) := by kernel_rfl
noncomputable def F_fnd_0 : List (SPg) → ((List (SPg)) × Int × SPg × SPg × (List (SPg)) × Bool × Nat) → SPg × Bool × (List (SPg))
  | [], (t, page, x4, x, rest0, has, i) => (x, has, rest0)
  | uu :: rest, (t, page, x4, x, rest0, has, i) => bif uu.1 == page then F_fnd_0 rest (t, page, x4, uu, rest0, true, i + 1) else F_fnd_0 rest (t, page, x4, x, rest0 ++ [uu], has, i + 1)
noncomputable def P_fnd_0 : List (SPg) → ((List (SPg)) × Int × SPg × SPg × (List (SPg)) × Bool × Nat) → Bool
  | [], (t, page, x4, x, rest0, has, i) => true
  | uu :: rest, (t, page, x4, x, rest0, has, i) => bif uu.1 == page then P_fnd_0 rest (t, page, x4, uu, rest0, true, i + 1) else decide ((rest0.length + [uu].length) * 24 ≤ 140737488355328) && P_fnd_0 rest (t, page, x4, x, rest0 ++ [uu], has, i + 1)
theorem A_fnd_0 : ∀ (rest : List (SPg)) (t : List (SPg)) (page : Int) (x4 : SPg) (x : SPg) (rest0 : List (SPg)) (has : Bool) (i : Nat) (hd : t.drop i = rest) (hl : t.length ≤ 1099511627776), Rns (fun f => L_fnd_0 f (t, page, x4, x, rest0, has, ((i : Nat) : Int))) (P_fnd_0 rest (t, page, x4, x, rest0, has, i)) (F_fnd_0 rest (t, page, x4, x, rest0, has, i))
  | [], t, page, x4, x, rest0, has, i, hd, hl => ev_step (T := fun f => some (x, has, rest0)) (fun f => (L_fnd_0_eq f _ _ _ _ _ _ _).trans (by simp only [ge_dec (drop_ge hd), ge0, Bool.and_self, Bool.true_and, cond_true, cond_false, List.length_set] <;> rfl)) ev_some
  | uu :: rest, t, page, x4, x, rest0, has, i, hd, hl => ev_step (T := fun f => bif uu.1 == page then L_fnd_0 f (t, page, x4, uu, rest0, true, (↑(i + 1) : Int)) else bif decide ((rest0.length + [uu].length) * 24 ≤ 140737488355328) then L_fnd_0 f (t, page, x4, x, rest0 ++ [uu], has, (↑(i + 1) : Int)) else none) (fun f => (L_fnd_0_eq f _ _ _ _ _ _ _).trans (by simp only [lt_dec (drop_lt hd), drop_get hd, wrap_succ (drop_lt hd) hl, getD_set (drop_lt hd), ge0, Bool.and_self, Bool.true_and, cond_true, cond_false, List.length_set] <;> rfl)) (ev_bif (A_fnd_0 rest _ _ _ _ _ _ _ (by first | exact drop_succ hd | exact drop_set hd | exact drop_setS (drop_set hd)) (by first | exact hl | simpa using hl)) (ev_chk (A_fnd_0 rest _ _ _ _ _ _ _ (by first | exact drop_succ hd | exact drop_set hd | exact drop_setS (drop_set hd)) (by first | exact hl | simpa using hl))))
noncomputable def F_fnd : ((List (SPg)) × Int) → SPg × Bool × (List (SPg))
  | (l, page) => F_fnd_0 l (l, page, (0, 0, 0), (0, 0, 0), [], false, 0)
noncomputable def P_fnd : ((List (SPg)) × Int) → Bool
  | (l, page) => decide (l.length ≤ 1099511627776) && P_fnd_0 l (l, page, (0, 0, 0), (0, 0, 0), [], false, 0)
theorem fnd_auto : ∀ a : (List (SPg)) × Int, Rns (fun f => M_fnd f a) (P_fnd a) (F_fnd a)
  | (l, page) => ev_step (fun f => M_fnd_eq f _ _) (ev_and fun hh => A_fnd_0 _ _ _ _ _ _ _ _ rfl (of_decide_eq_true hh))
theorem fnd_P : ∀ a : List SPg × Int, (P_fnd : List SPg × Int → Bool) a = true → P_fnd a = true := fun a h => h
theorem fnd_F : ∀ a : List SPg × Int, (P_fnd : List SPg × Int → Bool) a = true → F_fnd a = F_fnd a := fun _ _ => rfl
theorem fnd_run : ∀ a, (P_fnd : (List (SPg)) × Int → Bool) a = true → ∃ f, M_fnd f a = some ((F_fnd : (List (SPg)) × Int → SPg × Bool × (List (SPg))) a) := fun a h => by have h1 := fnd_auto a (fnd_P a h); rw [fnd_F a h] at h1; exact h1
noncomputable def E_fnd : Ent := ⟨8, [.rd tSPg, .c (.int .i64)], [.g tSPg, .v (.bool), .o 34 3 tSPg], fun a => (P_fnd : (List (SPg)) × Int → Bool) a, fun a => (F_fnd : (List (SPg)) × Int → SPg × Bool × (List (SPg))) a⟩
theorem E_fnd_ok : E_fnd.Ok Try.prog := fun a hp vs hv => (fnd_run a hp).elim fun f h => fnX_ok (C := C_fnd) (Lt := Lt_fnd) (fn := Try.f8) (rs := [.cell 4 34, .tmp 5, .tmp 6]) [.rd tSPg, .c (.int .i64)] [.g tSPg, .v (.bool), .o 34 3 tSPg] mixed es_fnd Try.func8 rfl rfl rfl (by kernel_rfl) (by kernel_rfl) f h vs hv
end Go.AL
/-
  Layer 33 (span): Apply; the sanity check, run. By an AI agent.
-/
namespace Go.AL
open Go.Proofs
set_option linter.unusedVariables false
set_option linter.unusedSimpArgs false
noncomputable def E_awk : Ent := Go.CX.closedE 4 true
theorem E_awk_ok : E_awk.Ok Try.prog := Go.CX.closedE_ok mixed (fuel := 600) (by kernel_rfl)
end Go.AL
namespace Go.Proofs
open Go.Shelf Go.RowKit Go.Lib Go.AL
set_option linter.unusedVariables false
set_option linter.unusedSimpArgs false
set_option maxHeartbeats 4000000 in
set_option maxRecDepth 100000 in
theorem pin_shift (b n c i vb vc : Nat) (cs vs : List Value) (cur cur2 : Array Value) (w : World) (hi : i < n) (hroom : n + 1 ≤ c) (hmax : c ≤ maxLen) (hvb : vb ≠ b)
    (hb : w.heap[b]? = some (.cells cur 34 (0, 0))) (hsz : cur.size = c * 3) (hcs : cur.toList.take (n * 3) = cs) (hcl : cs.length = n * 3)
    (hv : w.heap[vb]? = some (.cells cur2 34 (0, 0))) (hvs : cur2.toList.take 3 = vs) (hvl : vs.length = 3) (h1c : ∀ v ∈ cs, v.oneCell' = true) (h1v : ∀ v ∈ vs, v.oneCell' = true) :
    Calls Try.prog 21 #[.slice (some ⟨b, 0, none⟩) n c, .int .i64 i, .slice (some ⟨vb, 0, none⟩) 1 vc] w fun e w' =>
      ∃ s', e = .returned s' ∧ InsOut w 34 3 (.slice (some ⟨b, 0, none⟩) n c) (n + 1) (cs.take (i * 3) ++ vs ++ cs.drop (i * 3)) s' w' := by
  have hfit : (n + 1) * 3 ≤ cur.toList.length := by rw [Array.length_toList, hsz]; exact Nat.mul_le_mul_right 3 hroom
  obtain ⟨l1, l2, l3⟩ := ins_lists (k := 3) (Nat.le_of_lt hi) hcs hcl hvl hfit
  have hc63 : c ≤ 9223372036854775807 := by simp only [maxLen] at hmax; omega
  have hz2 : ¬ ((i : Int) = (n : Int)) := by omega
  have hz3 : ¬ ((c : Int) < (n : Int) + 1) := by omega
  have hin : i ≤ n := by omega
  have hty : (Try.prog.info? 34).map (·.size) = some 3 := by kernel_rfl
  have ht : Try.prog.underlying 24 = some (.slice 34) := Try.underlying24
  have hov : ∀ lb cb, (callFunc 31 #[.slice (some ⟨vb, 0, none⟩) 1 vc, .slice (some ⟨b, (i + 1) * 3, none⟩) lb cb]).run Try.prog w = .ok (.value (.bool false)) w := fun lb cb => by
    rw [run_callFunc_extern Try.func31 (by kernel_rfl) (by kernel_rfl) (by kernel_rfl) (e := Extern.SlicesOverlaps.overlaps #[24, 24] #[4]) (by kernel_rfl),
      Lib.run_overlaps_apart w 24 4 34 ht 3 (fun w => by kernel_rfl) ⟨vb, 0, none⟩ ⟨b, (i + 1) * 3, none⟩ 1 vc lb cb hvb 34 34 cur2.size cur.size (by simp [World.shape?, hv]) (by simp [World.shape?, hb]) (by rw [hsz]; omega) (by simp [World.frozen?, hv]) (by simp [World.frozen?, hv])]
    rfl
  have hdl : (cs.drop (i * 3)).length = (n - i) * 3 := by rw [List.length_drop, hcl]; omega
  have hw1 : IntKind.i64.wrap ((i : Int) + 1) = (i : Int) + 1 := by rw [IntKind.wrap_i64]; omega
  have hw2 : IntKind.i64.wrap ((n : Int) + 1) = (n : Int) + 1 := by rw [IntKind.wrap_i64]; omega
  have hb1 : (0 : Int) ≤ (i : Int) + 1 := by omega
  have htn : ((i : Int) + 1).toNat = i + 1 := by omega
  have htn2 : ((n : Int) + 1).toNat = n + 1 := by omega
  have hb2 : ¬ (c = i + 1) := by omega
  have hb3 : (i : Int) + 1 ≤ (n : Int) + 1 := by omega
  have hb4 : ¬ (c = i) := by omega
  have hb5 : (i : Int) ≤ (n : Int) + 1 := by omega
  have mixed : Try.prog.follows .mixedOrders = true := by kernel_rfl
  obtain ⟨C1, hC1⟩ : ∃ C1, C1 = cur.toList.take ((i + 1) * 3) ++ cs.drop (i * 3) ++ cur.toList.drop ((i + 1) * 3 + (cs.drop (i * 3)).length) := ⟨_, rfl⟩
  obtain ⟨C2, hC2⟩ : ∃ C2, C2 = C1.take (i * 3) ++ vs ++ C1.drop (i * 3 + vs.length) := ⟨_, rfl⟩
  rw [← hC1] at l1 l2 l3
  rw [← hC2] at l2 l3
  have hcp1 : ∀ ty dc sc, (Builtin.copy_ #[24, 24] ty #[.slice (some ⟨b, (i + 1) * 3, none⟩) (n - i) dc, .slice (some ⟨b, i * 3, none⟩) (n + 1 - i) sc]).run Try.prog w.drew = .ok (goInt (Nat.min (n + 1 - i) (n - i))) (w.drew.setRow b C1.toArray) := fun ty dc sc => by
    rw [hC1]
    exact run_copy_row w.drew _ _ ty 34 3 b ((i + 1) * 3) (n - i) dc ⟨b, i * 3, none⟩ (n + 1 - i) sc (cs.drop (i * 3)) cur 34 ht hty (by rw [hdl]; simp only [Nat.min_def]; split <;> omega)
      (fun j v hj => by rw [Addr.add_lit]; exact cell_row (w := w.drew) hb hcs (i * 3 + j) v (by rwa [List.getElem?_drop] at hj)) hb (by rw [hdl]; simp only [Array.length_toList] at hfit; omega) (fun v hv => h1c v (List.mem_of_mem_drop hv))
  obtain ⟨W1, hW1⟩ : ∃ W1, W1 = w.drew.setRow b C1.toArray := ⟨_, rfl⟩
  have hbW : W1.heap[b]? = some (.cells C1.toArray 34 (0, 0)) := by rw [hW1]; exact setRow_heap w.drew b cur _ 34 _ hb
  have hvW : W1.heap[vb]? = some (.cells cur2 34 (0, 0)) := by rw [hW1, setRow_other w.drew b vb _ hvb]; exact hv
  have hcp2 : ∀ (W : World), W.heap = W1.heap → ∀ ty dc, (Builtin.copy_ #[24, 24] ty #[.slice (some ⟨b, i * 3, none⟩) (n + 1 - i) dc, .slice (some ⟨vb, 0, none⟩) 1 vc]).run Try.prog W = .ok (goInt (Nat.min 1 (n + 1 - i))) (W.setRow b C2.toArray) := fun W hW ty dc => by
    have h := run_copy_row (P := Try.prog) W 24 24 ty 34 3 b (i * 3) (n + 1 - i) dc ⟨vb, 0, none⟩ 1 vc vs C1.toArray 34 ht hty (by rw [hvl]; simp only [Nat.min_def]; split <;> omega)
      (fun j v hj => by rw [Addr.add_lit, Nat.zero_add]; exact cell_row (w := W) (by rw [hW]; exact hvW) hvs j v hj) (by rw [hW]; exact hbW) (by rw [hvl, List.size_toArray, l1]; omega) h1v
    rw [h, hC2]
  have hout : ∀ W, Ev w W (fun q => q = b) → W.heap = W1.heap → InsOut w 34 3 (.slice (some ⟨b, 0, none⟩) n c) (n + 1) (cs.take (i * 3) ++ vs ++ cs.drop (i * 3)) (.slice (some ⟨b, 0, none⟩) (n + 1) c) (W.setRow b C2.toArray) := fun W hE hW =>
    ⟨by rw [← l3, List.length_take, l2]; omega, ⟨b, c, C2.toArray, rfl, setRow_heap W b C1.toArray _ 34 _ (by rw [hW]; exact hbW), hroom, hmax, by rw [List.size_toArray, l2, Array.length_toList, hsz], by simpa using l3, .inl rfl⟩,
      ev_trans ⟨hE.os, hE.tape, hE.output, hE.size, fun q hq hn => hE.block q hq (fun e => hn (by rw [e]; rfl))⟩ (ev_setRow W b _ _ rfl)⟩
  have hE1 : Ev w W1 (fun q => q = b) := by rw [hW1]; exact ⟨rfl, rfl, rfl, by rw [setRow_size]; exact Nat.le_refl _, fun q _ hq => setRow_other w.drew b q _ hq⟩
  rw [← hW1] at hcp1
  generalize InsOut w 34 3 (.slice (some ⟨b, 0, none⟩) n c) (n + 1) (cs.take (i * 3) ++ vs ++ cs.drop (i * 3)) = IO at hout ⊢
  clear l1 l2 l3 hfit hC1 hC2 hbW hvW hcs hvs hsz
  go_enter Try.func21, Try.ntmps21
  go_wp2_with (simp only [hov])
  go_region_law_o (refine step_copy_runI rfl _ _ 24 24 rfl _ _ (by simp [Act.eval, Act.put]) (by simp [Act.eval, Act.put]) (hcp1 _ _ _) ?_)
  go_wp2_with (at_builtin; refine wpList_copy_runI _ rfl _ _ 24 24 rfl _ _ rfl rfl (hcp2 _ rfl _ _) ?_)
  go_ret
  rw [← hW1]
  exact ⟨_, rfl, hout _ ⟨hE1.os, hE1.tape, hE1.output, hE1.size, hE1.block⟩ rfl⟩

set_option maxHeartbeats 4000000 in
set_option maxRecDepth 100000 in
theorem pin_end (s0 : Value) (n vb vc : Nat) (cs vs : List Value) (w : World) (hown : w.ownsRow 0 34 3 s0 n cs) (hbig : (n + 1) * 24 ≤ 140737488355328) (h63 : n + 1 ≤ maxLen)
    (hvs : ∀ j v, vs[j]? = some v → w.cell? ⟨vb, j, none⟩ = some v) (hvl : vs.length = 3) (h1v : ∀ v ∈ vs, v.oneCell' = true) :
    Calls Try.prog 21 #[s0, .int .i64 n, .slice (some ⟨vb, 0, none⟩) 1 vc] w fun e w' => ∃ s', e = .returned s' ∧ InsOut w 34 3 s0 (n + 1) (cs ++ vs) s' w' := by
  have ht : Try.prog.underlying 24 = some (.slice 34) := Try.underlying24
  obtain ⟨i0, hi0, hz0, hzs, hzb⟩ := info_parts (P := Try.prog) (e := 34) (z := .agg #[.int .i64 0, .int .i64 0, .int .i64 0]) (size := 3) (bytes := 24) (by kernel_rfl)
  have hrun : ∀ ty, ∃ v' w', (Builtin.append_ #[24, 24] ty #[s0, .slice (some ⟨vb, 0, none⟩) 1 vc]).run Try.prog w = .ok v' w' ∧ InsOut w 34 3 s0 (n + 1) (cs ++ vs) v' w' := fun ty =>
    run_append_end (P := Try.prog) w 24 ty 34 i0 _ 3 24 ht hi0 hz0 hzs hzb rfl (by omega) s0 n cs hown ⟨vb, 0, none⟩ 1 vc (by omega) vs (by rw [hvl]) (fun j u hj => by rw [Addr.add_lit, Nat.zero_add]; exact hvs j u hj) h1v h63 hbig
  have hn0 : (0 : Int) ≤ (n : Int) := by omega
  generalize InsOut w 34 3 s0 (n + 1) (cs ++ vs) = IO at hrun ⊢
  have hsh : (s0 = .slice none 0 0 ∧ n = 0) ∨ ∃ g cap, s0 = .slice (some ⟨g, 0, none⟩) n cap ∧ n ≤ cap := by
    rcases hown.2 with h | ⟨g, cap, cur, h1, _, _, h2, _⟩
    · exact .inl h
    · exact .inr ⟨g, cap, h1, h2⟩
  clear hown
  obtain ⟨v1, w1, r1, o1⟩ := hrun 24
  rcases hsh with ⟨rfl, rfl⟩ | ⟨g, cap, rfl, hcap⟩
  · go_enter Try.func21, Try.ntmps21
    go_wp2_with (at_builtin; refine Lib.wpList_append_run _ rfl _ _ _ _ rfl _ _ rfl rfl _ _ r1 ?_)
    go_ret
    exact ⟨_, rfl, o1⟩
  · go_enter Try.func21, Try.ntmps21
    go_wp2_with (at_builtin; refine Lib.wpList_append_run _ rfl _ _ _ _ rfl _ _ rfl rfl _ _ r1 ?_)
    all_goals (go_ret; exact ⟨_, rfl, o1⟩)

set_option maxHeartbeats 4000000 in
set_option maxRecDepth 100000 in
theorem pin_grow (b n c i vb vc : Nat) (cs vs : List Value) (cur cur2 : Array Value) (w : World) (hi : i < n) (hnc : n ≤ c) (hroom : c < n + 1) (h63 : n + 1 ≤ maxLen) (hbig : (n + 1) * 24 ≤ 140737488355328)
    (hb : w.heap[b]? = some (.cells cur 34 (0, 0))) (hsz : cur.size = c * 3) (hcs : cur.toList.take (n * 3) = cs) (hcl : cs.length = n * 3)
    (hv : w.heap[vb]? = some (.cells cur2 34 (0, 0))) (hvs : cur2.toList.take 3 = vs) (hvl : vs.length = 3) (h1c : ∀ v ∈ cs, v.oneCell' = true) (h1v : ∀ v ∈ vs, v.oneCell' = true) :
    Calls Try.prog 21 #[.slice (some ⟨b, 0, none⟩) n c, .int .i64 i, .slice (some ⟨vb, 0, none⟩) 1 vc] w fun e w' =>
      ∃ s', e = .returned s' ∧ InsOut w 34 3 (.slice (some ⟨b, 0, none⟩) n c) (n + 1) (cs.take (i * 3) ++ vs ++ cs.drop (i * 3)) s' w' := by
  have hz2 : ¬ ((i : Int) = (n : Int)) := by omega
  have hz3 : (c : Int) < (n : Int) + 1 := by omega
  have hin : i ≤ n := by omega
  have hty : (Try.prog.info? 34).map (·.size) = some 3 := by kernel_rfl
  have ht : Try.prog.underlying 24 = some (.slice 34) := Try.underlying24
  have ht3 : Try.prog.underlying 3 = some (.int .i64) := Try.underlying3
  obtain ⟨i0, hi0, hz0, hzs, hzb⟩ := info_parts (P := Try.prog) (e := 34) (z := .agg #[.int .i64 0, .int .i64 0, .int .i64 0]) (size := 3) (bytes := 24) (by kernel_rfl)
  have h63' : n + 1 ≤ 9223372036854775807 := by simp only [maxLen] at h63; omega
  have hbw : b < w.heap.size := (Array.getElem?_eq_some_iff.1 hb).1
  have hvw : vb < w.heap.size := (Array.getElem?_eq_some_iff.1 hv).1
  have hik : i + (n + 1 - i) = n + 1 := by omega
  have hkk : (n : Int) + 1 - (i : Int) = ((n + 1 - i : Nat) : Int) := by omega
  have hold : (Builtin.firstCells i0.size i (.slice (some ⟨b, 0, none⟩) i c)).run Try.prog w.drew = .ok (cs.take (i * 3)).toArray w.drew := by
    rw [hzs]
    exact run_firstCells_some w.drew 3 i ⟨b, 0, none⟩ i c (cs.take (i * 3)) (by rw [List.length_take, hcl]; omega) (fun j v hj => by
      rw [Addr.add_lit, Nat.zero_add]
      rw [List.getElem?_take] at hj
      split at hj
      · exact cell_row (w := w.drew) hb hcs j v hj
      · cases hj)
  generalize hz : ((.agg #[.int .i64 0, .int .i64 0, .int .i64 0] : Value)) = z at hz0
  have hzc : z.cells.size = 3 := by rw [← hz]; rfl
  have hge := grownCap_ge w (n + 1) c 34
  have hgm := grownCap_le_maxLen w (n + 1) c 34 h63
  obtain ⟨G, hG⟩ : ∃ G, G = grownCap w (n + 1) c 34 := ⟨_, rfl⟩
  obtain ⟨ROW, hROW⟩ : ∃ ROW : Array Value, ROW = (cs.take (i * 3)).toArray ++ Builtin.zeroCells z.cells (n + 1 - i) ++ Builtin.zeroCells z.cells (G - (n + 1)) := ⟨_, rfl⟩
  have hrz : ∀ ty, (Builtin.append_ #[24, 3] ty #[.slice (some ⟨b, 0, none⟩) i c, .int .i64 ((n : Int) + 1 - (i : Int))]).run Try.prog w =
      .ok (.slice (some ⟨w.heap.size, 0, none⟩) (n + 1) G) (w.drew.alloc (.cells ROW 34)) := fun ty => by
    have h := Lib.run_append_grow_zeros w 24 3 ty 34 i0 z .i64 .i64 ht ht3 hi0 hz0 (some ⟨b, 0, none⟩) i c (cs.take (i * 3)) hold (n + 1 - i) (by omega) (by omega) (by omega) (by omega) (by rw [hzb]; omega) (by rw [hzb, hik]; exact growslice_fits hroom hbig)
    rw [hik] at h
    rw [hkk, h, hG, hROW, hG]
  rw [← hG] at hge hgm
  have htl : (cs.take (i * 3)).length = i * 3 := by rw [List.length_take, hcl]; omega
  have hdl : (cs.drop (i * 3)).length = (n - i) * 3 := by rw [List.length_drop, hcl]; omega
  have hRs : ROW.size = G * 3 := by
    rw [hROW]
    simp only [Array.size_append, List.size_toArray, htl, size_zeroCells, hzc]
    rw [← Nat.add_mul, ← Nat.add_mul]
    congr 1
    omega
  have hRt : ROW.toList.take (i * 3) = cs.take (i * 3) := by
    rw [hROW]
    simp only [Array.toList_append, List.append_assoc]
    rw [List.take_append_of_le_length (by omega), List.take_of_length_le (by omega)]
  obtain ⟨W1, hW1⟩ : ∃ W1, W1 = w.drew.alloc (.cells ROW 34) := ⟨_, rfl⟩
  rw [← hW1] at hrz
  have hNb : W1.heap[w.heap.size]? = some (.cells ROW 34 (0, 0)) := by rw [hW1]; exact heap_alloc_new w.drew _
  have hOld : ∀ q, q < w.heap.size → W1.heap[q]? = w.heap[q]? := fun q hq => by rw [hW1]; first | exact heap_alloc_old w.drew _ hq | exact heap_alloc_old w.drew _ q hq
  obtain ⟨C1, hC1⟩ : ∃ C1, C1 = ROW.toList.take (i * 3) ++ vs ++ ROW.toList.drop (i * 3 + vs.length) := ⟨_, rfl⟩
  have hGi : (n + 1) * 3 ≤ G * 3 := Nat.mul_le_mul_right 3 hge
  have hl1 : C1.length = G * 3 := by
    rw [hC1]
    simp only [List.length_append, List.length_take, List.length_drop, Array.length_toList, hRs, hvl]
    omega
  have hcpA : ∀ (W : World), W.heap = W1.heap → ∀ ty dc, (Builtin.copy_ #[24, 24] ty #[.slice (some ⟨w.heap.size, i * 3, none⟩) (n + 1 - i) dc, .slice (some ⟨vb, 0, none⟩) 1 vc]).run Try.prog W = .ok (goInt (Nat.min 1 (n + 1 - i))) (W.setRow w.heap.size C1.toArray) := fun W hW ty dc => by
    have h := run_copy_row (P := Try.prog) W 24 24 ty 34 3 w.heap.size (i * 3) (n + 1 - i) dc ⟨vb, 0, none⟩ 1 vc vs ROW 34 ht hty (by rw [hvl]; simp only [Nat.min_def]; split <;> omega)
      (fun j v hj => by rw [Addr.add_lit, Nat.zero_add]; exact cell_row (w := W) (by rw [hW, hOld vb hvw]; exact hv) hvs j v hj) (by rw [hW]; exact hNb) (by rw [hvl, hRs]; omega) h1v
    rw [h, hC1]
  obtain ⟨C2, hC2⟩ : ∃ C2, C2 = C1.take ((i + 1) * 3) ++ cs.drop (i * 3) ++ C1.drop ((i + 1) * 3 + (cs.drop (i * 3)).length) := ⟨_, rfl⟩
  have hcpB : ∀ (W : World), W.heap = (W1.setRow w.heap.size C1.toArray).heap → ∀ ty dc sc, (Builtin.copy_ #[24, 24] ty #[.slice (some ⟨w.heap.size, (i + 1) * 3, none⟩) (n - i) dc, .slice (some ⟨b, i * 3, none⟩) (n - i) sc]).run Try.prog W = .ok (goInt (Nat.min (n - i) (n - i))) (W.setRow w.heap.size C2.toArray) := fun W hW ty dc sc => by
    have h := run_copy_row (P := Try.prog) W 24 24 ty 34 3 w.heap.size ((i + 1) * 3) (n - i) dc ⟨b, i * 3, none⟩ (n - i) sc (cs.drop (i * 3)) C1.toArray 34 ht hty (by rw [hdl, show Nat.min (n - i) (n - i) = n - i from Nat.min_self _])
      (fun j v hj => by rw [Addr.add_lit]; exact cell_row (w := W) (by rw [hW, setRow_other W1 w.heap.size b _ (by omega), hOld b hbw]; exact hb) hcs (i * 3 + j) v (by rwa [List.getElem?_drop] at hj)) (by rw [hW]; exact setRow_heap W1 w.heap.size ROW _ 34 _ hNb) (by rw [hdl, List.size_toArray, hl1]; omega) (fun v hv => h1c v (List.mem_of_mem_drop hv))
    rw [h, hC2]
  have hl2 : C2.length = G * 3 := by
    rw [hC2]
    simp only [List.length_append, List.length_take, List.length_drop, hl1, hdl, hcl]
    omega
  have hfin : C2.take ((n + 1) * 3) = cs.take (i * 3) ++ vs ++ cs.drop (i * 3) := by
    have e1 : C1.take ((i + 1) * 3) = cs.take (i * 3) ++ vs := by
      rw [hC1, hRt]
      have : (cs.take (i * 3) ++ vs).length = (i + 1) * 3 := by rw [List.length_append, htl, hvl]; omega
      rw [← this]; exact List.take_left
    rw [hC2, e1]
    have : (cs.take (i * 3) ++ vs ++ cs.drop (i * 3)).length = (n + 1) * 3 := by simp only [List.length_append, htl, hvl, hdl]; omega
    rw [← this]; exact List.take_left
  have hout : ∀ W, Ev w W (fun _ => False) → W.heap = (W1.setRow w.heap.size C1.toArray).heap → InsOut w 34 3 (.slice (some ⟨b, 0, none⟩) n c) (n + 1) (cs.take (i * 3) ++ vs ++ cs.drop (i * 3)) (.slice (some ⟨w.heap.size, 0, none⟩) (n + 1) G) (W.setRow w.heap.size C2.toArray) := fun W hE hW =>
    insOut_new w 34 3 _ (n + 1) _ G C2.toArray _ ⟨hE.os, hE.tape, hE.output, by rw [setRow_size]; exact hE.size, fun q hq hn => (setRow_other W w.heap.size q _ (by omega)).trans (hE.block q hq hn)⟩
      (by rw [← hfin, List.length_take, hl2]; omega) hge hgm (by rw [List.size_toArray, hl2]) (by simpa using hfin) (setRow_heap W w.heap.size C1.toArray _ 34 _ (by rw [hW]; exact setRow_heap W1 w.heap.size ROW _ 34 _ hNb))
  have hE1 : Ev w (W1.setRow w.heap.size C1.toArray) (fun _ => False) := by
    refine ⟨?_, ?_, ?_, ?_, fun q hq _ => ?_⟩
    · rw [hW1]; rfl
    · rw [hW1]; rfl
    · rw [hW1]; rfl
    · rw [setRow_size, hW1]; simp
    · rw [setRow_other W1 w.heap.size q _ (by omega), hOld q hq]
  obtain ⟨IO, hIO⟩ : ∃ IO, IO = InsOut w 34 3 (.slice (some ⟨b, 0, none⟩) n c) (n + 1) (cs.take (i * 3) ++ vs ++ cs.drop (i * 3)) := ⟨_, rfl⟩
  rw [← hIO] at hout ⊢
  have hn0 : (0 : Int) ≤ (n : Int) + 1 - (i : Int) := by omega
  have hw1 : IntKind.i64.wrap ((i : Int) + 1) = (i : Int) + 1 := by rw [IntKind.wrap_i64]; omega
  have hw2 : IntKind.i64.wrap ((n : Int) + 1) = (n : Int) + 1 := by rw [IntKind.wrap_i64]; omega
  have hw3 : IntKind.i64.wrap ((n : Int) + 1 - (i : Int)) = (n : Int) + 1 - (i : Int) := by rw [IntKind.wrap_i64]; omega
  have hb1 : (0 : Int) ≤ (i : Int) + 1 := by omega
  have htn : ((i : Int) + 1).toNat = i + 1 := by omega
  have htn2 : ((n : Int) + 1).toNat = n + 1 := by omega
  have hb3 : (i : Int) + 1 ≤ (n : Int) + 1 := by omega
  have hb5 : (i : Int) ≤ (n : Int) + 1 := by omega
  have hb6 : (i : Int) ≤ (c : Int) := by omega
  have hb2 : ¬ (G = i + 1) := by omega
  have hb4 : ¬ (G = i) := by omega
  have hb7 : ¬ (c = i) := by omega
  have mixed : Try.prog.follows .mixedOrders = true := by kernel_rfl
  have hcpB2 := fun ty dc sc => hcpB (W1.setRow w.heap.size C1.toArray).drew rfl ty dc sc
  clear hW1 hG hkk hIO hfin hl2 hC2 hl1 hC1 hOld hNb hRt hRs hROW hold hb hv hsz hcs hvs hcpB
  go_enter Try.func21, Try.ntmps21
  go_wp2_with (at_builtin; first
    | refine Lib.wpList_append_run _ rfl _ _ _ _ rfl _ _ rfl rfl _ _ (hrz _) ?_
    | refine wpList_copy_runI _ rfl _ _ 24 24 rfl _ _ rfl rfl (hcpA _ rfl _ _) ?_)
  go_region_law_o (refine step_copy_runI rfl _ _ 24 24 rfl _ _ (by simp [Act.eval, Act.put]) (by simp [Act.eval, Act.put]) (hcpB2 _ _ _) ?_)
  go_wp2
  go_ret
  exact ⟨_, rfl, hout _ ⟨hE1.os, hE1.tape, hE1.output, hE1.size, hE1.block⟩ rfl⟩
theorem pin_walk : InsWalk Try.prog 21 34 3 24 := by
  intro w s0 n i vb vc cs vs cur2 hi hbig h63 hown hne hvb hvs hvl h1c h1v
  by_cases hin : i = n
  · subst hin
    have h := pin_end s0 i vb vc cs vs w hown hbig h63 (fun j v hj => cell_row hvb hvs j v hj) hvl h1v
    rw [List.take_of_length_le (by rw [hown.1]; exact Nat.le_refl _), List.drop_eq_nil_of_le (by rw [hown.1]; exact Nat.le_refl _), List.append_nil]
    exact h
  · rcases hown.2 with ⟨rfl, rfl⟩ | ⟨g, cap, cur, rfl, _, hg, hnc, hm, hs, hcs⟩
    · omega
    · by_cases hroom : n + 1 ≤ cap
      · exact pin_shift g n cap i vb vc cs vs cur cur2 w (by omega) hroom hm (fun e => hne (by rw [e]; rfl)) hg hs hcs hown.1 hvb hvs hvl h1c h1v
      · exact pin_grow g n cap i vb vc cs vs cur cur2 w (by omega) hnc (by omega) h63 hbig hg hs hcs hown.1 hvb hvs hvl h1c h1v
end Go.Proofs
namespace Go.AL
open Go.Proofs
set_option linter.unusedVariables false
set_option linter.unusedSimpArgs false
noncomputable def E_pin : EntL := insE 21 34 3 tSPg 24
theorem E_pin_ok : E_pin.Ok Try.prog := insE_ok (by omega) (by omega) pin_walk

end Go.AL
namespace Go.Proofs
open Go.Shelf Go.RowKit Go.Lib Go.AL
set_option linter.unusedVariables false
set_option linter.unusedSimpArgs false
set_option maxHeartbeats 4000000 in
set_option maxRecDepth 100000 in
theorem pde_walk (b N c i : Nat) (cs : List Value) (cur : Array Value) (w : World) (hi : i ≤ N) (hnc : N + 1 ≤ c) (hmax : c ≤ maxLen)
    (hb : w.heap[b]? = some (.cells cur 34 (0, 0))) (hsz : cur.size = c * 3) (hcs : cur.toList.take ((N + 1) * 3) = cs) (hcl : cs.length = (N + 1) * 3) (h1c : ∀ v ∈ cs, v.oneCell' = true) :
    Calls Try.prog 22 #[.slice (some ⟨b, 0, none⟩) (N + 1) c, .int .i64 i, .int .i64 ((i : Int) + 1)] w fun e w' =>
      ∃ s', e = .returned s' ∧ InsOut w 34 3 (.slice (some ⟨b, 0, none⟩) (N + 1) c) N (cs.take (i * 3) ++ cs.drop ((i + 1) * 3)) s' w' := by
  have hc63 : c ≤ 9223372036854775807 := by simp only [maxLen] at hmax; omega
  have hty : (Try.prog.info? 34).map (·.size) = some 3 := by kernel_rfl
  have ht : Try.prog.underlying 24 = some (.slice 34) := Try.underlying24
  obtain ⟨i0, hi0, hz0, hzs, hzb⟩ := info_parts (P := Try.prog) (e := 34) (z := .agg #[.int .i64 0, .int .i64 0, .int .i64 0]) (size := 3) (bytes := 24) (by kernel_rfl)
  obtain ⟨news, hnews⟩ : ∃ news, news = cs.drop ((i + 1) * 3) := ⟨_, rfl⟩
  have hnl : news.length = (N - i) * 3 := by rw [hnews, List.length_drop, hcl]; omega
  obtain ⟨C1, hC1⟩ : ∃ C1, C1 = cur.toList.take (i * 3) ++ news ++ cur.toList.drop (i * 3 + news.length) := ⟨_, rfl⟩
  have hcN : (N + 1) * 3 ≤ c * 3 := Nat.mul_le_mul_right 3 hnc
  have hl1 : C1.length = c * 3 := by
    rw [hC1]
    simp only [List.length_append, List.length_take, List.length_drop, Array.length_toList, hsz, hnl]
    omega
  obtain ⟨A, hA, hsrc⟩ : ∃ A : Addr, (if c = i + 1 then some (⟨b, 0, none⟩ : Addr) else some ⟨b, (i + 1) * 3, none⟩) = some A ∧ (∀ t u, news[t]? = some u → w.drew.cell? (A.add t) = some u) := by
    by_cases h : c = i + 1
    · refine ⟨⟨b, 0, none⟩, by simp [h], fun t u hu => ?_⟩
      have h0 : news.length = 0 := by rw [hnl]; omega
      rw [List.length_eq_zero_iff.1 h0] at hu
      simp at hu
    · refine ⟨⟨b, (i + 1) * 3, none⟩, by simp [h], fun t u hu => ?_⟩
      rw [Addr.add_lit]
      exact cell_row (w := w.drew) hb hcs _ u (by rw [hnews, List.getElem?_drop] at hu; exact hu)
  have hap : ∀ ty, (Builtin.append_ #[24, 24] ty #[.slice (some ⟨b, 0, none⟩) i c, .slice (some A) (N - i) (c - (i + 1))]).run Try.prog w.drew = .ok (.slice (some ⟨b, 0, none⟩) N c) (w.drew.setRow b C1.toArray) := fun ty => by
    have h := run_append_room (P := Try.prog) w.drew 24 ty 34 i0 ht hi0 b i c cur hb A (N - i) (c - (i + 1)) news (by rw [hzs]; exact hnl) hsrc (fun u hu => h1c u (by rw [hnews] at hu; exact List.mem_of_mem_drop hu)) (by omega) (by rw [hzs, hnl, hsz]; omega)
    rw [show i + (N - i) = N by omega] at h
    rw [h, hC1, hzs]
  obtain ⟨W1, hW1⟩ : ∃ W1, W1 = w.drew.setRow b C1.toArray := ⟨_, rfl⟩
  have hbW : W1.heap[b]? = some (.cells C1.toArray 34 (0, 0)) := by rw [hW1]; exact setRow_heap w.drew b cur _ 34 _ hb
  have hE1 : Ev w W1 (fun q => q = b) := by rw [hW1]; exact ⟨rfl, rfl, rfl, by rw [setRow_size]; exact Nat.le_refl _, fun q _ hq => setRow_other w.drew b q _ hq⟩
  rw [← hW1] at hap
  obtain ⟨zs, hzl, hcle0⟩ := run_clear_row (P := Try.prog) W1 24 34 0 (.agg #[.int .i64 0, .int .i64 0, .int .i64 0]) 3 ht (fun w => by kernel_rfl) rfl (by intro v hv; simp [Value.cells] at hv; repeat (first | (subst hv; rfl) | (rcases hv with rfl | hv; · rfl))) b (N * 3) (c - N) C1.toArray hbW (by rw [List.size_toArray, hl1]; omega)
  obtain ⟨C2, hC2⟩ : ∃ C2, C2 = C1.take (N * 3) ++ zs ++ C1.drop (N * 3 + zs.length) := ⟨_, rfl⟩
  have hcle : ∀ ty, (Builtin.clear_ #[24] ty #[.slice (some ⟨b, N * 3, none⟩) 1 (c - N)]).run Try.prog W1 = .ok (.tuple #[]) (W1.setRow b C2.toArray) := fun ty => by rw [hC2]; exact hcle0
  have hl2 : C2.length = c * 3 := by
    rw [hC2]
    simp only [List.length_append, List.length_take, List.length_drop, hl1, hzl]
    omega
  have hfin : C2.take (N * 3) = cs.take (i * 3) ++ news := by
    have e0 : cur.toList.take (i * 3) = cs.take (i * 3) := by
      rw [← hcs, List.take_take]; congr 1; omega
    have htl : (cs.take (i * 3)).length = i * 3 := by rw [List.length_take, hcl]; omega
    have hl : (cs.take (i * 3) ++ news).length = N * 3 := by rw [List.length_append, htl, hnl]; omega
    have e1 : C1.take (N * 3) = cs.take (i * 3) ++ news := by
      rw [hC1, e0, ← hl]; exact List.take_left
    rw [hC2, e1, List.append_assoc, ← hl]; exact List.take_left
  have hout : InsOut w 34 3 (.slice (some ⟨b, 0, none⟩) (N + 1) c) N (cs.take (i * 3) ++ news) (.slice (some ⟨b, 0, none⟩) N c) (W1.setRow b C2.toArray) :=
    ⟨by rw [← hfin, List.length_take, hl2]; omega, ⟨b, c, C2.toArray, rfl, setRow_heap W1 b C1.toArray _ 34 _ hbW, by omega, hmax, by rw [List.size_toArray, hl2], by simpa using hfin, .inl rfl⟩,
      ev_trans ⟨hE1.os, hE1.tape, hE1.output, hE1.size, fun q hq hn => hE1.block q hq (fun e => hn (by rw [e]; rfl))⟩ (ev_setRow W1 b _ _ rfl)⟩
  rw [← hnews]
  obtain ⟨IO, hIO⟩ : ∃ IO, IO = InsOut w 34 3 (.slice (some ⟨b, 0, none⟩) (N + 1) c) N (cs.take (i * 3) ++ news) := ⟨_, rfl⟩
  rw [← hIO] at hout ⊢
  have hz2 : ¬ ((i : Int) = (i : Int) + 1) := by omega
  have hb1 : (0 : Int) ≤ (i : Int) + 1 := by omega
  have htn : ((i : Int) + 1).toNat = i + 1 := by omega
  have hb3 : (i : Int) + 1 ≤ (N : Int) + 1 := by omega
  have hb5 : (i : Int) ≤ (i : Int) + 1 := by omega
  have hb6 : (N : Int) + 1 ≤ (c : Int) := by omega
  have hb7 : (i : Int) ≤ (c : Int) := by omega
  have hb8 : (N : Int) ≤ (N : Int) + 1 := by omega
  have hb9 : ¬ (c = N) := by omega
  have hb10 : i ≤ c := by omega
  have hb11 : i + 1 ≤ c := by omega
  have htn2 : ((N : Int) + 1).toNat = N + 1 := by omega
  have mixed : Try.prog.follows .mixedOrders = true := by kernel_rfl
  clear hcle0 hIO hfin hl2 hC2 hl1 hC1 hbW hb hsz hcs hsrc hnl hnews hE1 hW1
  go_enter Try.func22, Try.ntmps22
  go_wp2_with fail
  go_region_law_o (refine step_append_runI rfl (.tmp 22) (.tmp 25) 24 24 rfl _ _ (by simp [Act.eval, Act.put]) (by simp [Act.eval, Act.put, hA]) (hap _) ?_)
  go_wp2
  go_ret
  exact ⟨_, rfl, hout⟩
end Go.Proofs
namespace Go.AL
open Go.Proofs
set_option linter.unusedVariables false
set_option linter.unusedSimpArgs false
noncomputable def E_pde : EntL := delE 22 34 3 tSPg
theorem E_pde_ok : E_pde.Ok Try.prog := delE_ok (by omega) (fun w b N c i cs cur h1 h2 h3 h4 h5 h6 h7 h8 => pde_walk b N c i cs cur w h1 h2 h3 h4 h5 h6 h7 h8)

noncomputable def C_pcl : Cfg := ⟨Try.prog, [], pmT [], 8, [], [], [], []⟩
theorem es_pcl : EsOk Try.prog [] := es_nil
theorem X_pcl (l : List (SPg)) : (runX C_pcl (fun _ => ⟨[], [], 0⟩) (Kret Try.prog [.tmp 2] [.o 34 3 tSPg]) 1 [.code (bodyOf Try.f20)] (initX [.rd tSPg] l) : Option (ResT [.o 34 3 tSPg])) = bif Decidable.decide (0 < l.length) && Bool.true then bif Decidable.decide ((([] : List Nat).length + l.length) * (bytesOf Try.prog 34) ≤ 140737488355328) then some l else none else none := by kernel_rfl
noncomputable def E_pcl : Ent := ⟨20, [.rd tSPg], [.o 34 3 tSPg], fun a => len40n (a : List (SPg)), fun a => (a : List (SPg))⟩
theorem E_pcl_ok : E_pcl.Ok Try.prog := fun a hp vs hv => clone_ok (τ := tSPg) (t := 34) (es := 3)
    (fun a h0 h1 vs hv => fnX_ok (C := C_pcl) (Lt := fun _ => ⟨[], [], 0⟩) (fn := Try.f20) (rs := [.tmp 2]) [.rd tSPg] [.o 34 3 tSPg] mixed es_pcl Try.func20 rfl rfl rfl (by kernel_rfl) (by kernel_rfl) 1 ((X_pcl a).trans (clone_len h0 h1 (by decide +kernel))) vs hv)
    (fnX_ok (C := C_pcl) (Lt := fun _ => ⟨[], [], 0⟩) (fn := Try.f20) (rs := [.tmp 2]) (a := ()) [.raw (.slice none 0 0)] [.o 34 3 tSPg] mixed es_pcl Try.func20 rfl rfl rfl (by kernel_rfl) (by kernel_rfl) 1 (by kernel_rfl) _ (by simp only [ArgsV, ArgsV1, ArgV]; exact ⟨_, rfl, rfl⟩))
    (fun b c => fnX_ok (C := C_pcl) (Lt := fun _ => ⟨[], [], 0⟩) (fn := Try.f20) (rs := [.tmp 2]) (a := ()) [.raw (.slice (some b) 0 c)] [.o 34 3 tSPg] mixed es_pcl Try.func20 rfl rfl rfl (by kernel_rfl) (by kernel_rfl) 1 (by kernel_rfl) _ (by simp only [ArgsV, ArgsV1, ArgV]; exact ⟨_, rfl, rfl⟩))
    a (of_decide_eq_true hp) vs hv
end Go.AL
/-
  Layer 33 (span): Apply. By an AI agent.
-/
namespace Go.AL
open Go.Proofs
set_option linter.unusedVariables false
set_option linter.unusedSimpArgs false
noncomputable def C_app : Cfg := ⟨Try.prog, [E_vop, E_asc, E_pcl], pmT [(20, ([(0, []), (1, []), (2, []), (3, []), (4, []), (5, []), (6, []), (7, []), (8, []), (9, []), (10, []), (11, []), (12, []), (13, [])], [(63, 76)]))], 106, [E_pin, E_pde], [], [], []⟩
theorem es_app : EsOk Try.prog [E_vop, E_asc, E_pcl] [E_pin, E_pde] [] := el_cons E_pin_ok (el_cons E_pde_ok (es_cons E_vop_ok (es_cons E_asc_ok (es_cons E_pcl_ok (es_nil)))))
def Lt_app : Nat → LD := ldT [(0, ⟨[.rd 0 tSPg, .box 3 3 29 6 tSOp, .c 6 (.int .i64), .c 7 (.bool), .rd 19 tSPg, .c 20 (.int .i64), .c 21 (.int .i64)], [], 0⟩), (4, ⟨[.box 3 3 29 6 tSOp, .c 6 (.int .i64), .list 10 999 34 3 tSPg], [], 0⟩)]
noncomputable def M_app (f : Nat) (a : (List (SPg)) × SOp) : Option ((List (SPg)) × Int) := (runX (C_app) Lt_app (Kret Try.prog [.tmp 4, .tmp 5] [.o 34 3 tSPg, .v (.int .i64)]) f [.code (bodyOf Try.f7)] (initX [.rd tSPg, .g tSOp] a) : Option (ResT [.o 34 3 tSPg, .v (.int .i64)]))
noncomputable def L_app_0 (f : Nat) (x : (List (SPg)) × SOp × Int × Bool × (List (SPg)) × Int × Int) : Option ((List (SPg)) × Int) := (runX (C_app) Lt_app (Kret Try.prog [.tmp 4, .tmp 5] [.o 34 3 tSPg, .v (.int .i64)]) f (headOf Try.f7 0) ((Lt_app 0).mk' x) : Option (ResT [.o 34 3 tSPg, .v (.int .i64)]))
noncomputable def L_app_4 (f : Nat) (x : SOp × Int × (List (SPg))) : Option ((List (SPg)) × Int) := (runX (C_app) Lt_app (Kret Try.prog [.tmp 4, .tmp 5] [.o 34 3 tSPg, .v (.int .i64)]) f (headOf Try.f7 4) ((Lt_app 4).mk' x) : Option (ResT [.o 34 3 tSPg, .v (.int .i64)]))
theorem M_app_eq (f : Nat) (l : List (SPg)) (op : SOp) : M_app (f + 1) (l, op) =
    bif !F_vop op then some ([], 1) else bif P_asc l then bif !F_asc l then some ([], 1) else L_app_0 f (l, op, -1, false, l, (↑l.length : Int), 0) else none := by kernel_rfl
theorem L_app_0_eq (f : Nat) (table : List (SPg)) (op : SOp) (k : Int) (there : Bool) (x19 : List (SPg)) (x20 : Int) (x21 : Int) : L_app_0 (f + 1) (table, op, k, there, x19, x20, x21) =
    bif decide (x21 < x20) then bif decide (0 ≤ x21) && decide (x21 < (↑x19.length : Int)) then bif (x19.getD x21.toNat (0, 0, 0)).1 == op.2.2.2.1 then L_app_0 f (table, op, x21, true, x19, x20, IntKind.i64.wrap (x21 + 1)) else L_app_0 f (table, op, k, there, x19, x20, IntKind.i64.wrap (x21 + 1)) else none else bif op.2.2.1 == 1 then bif there then some ([], 12) else bif op.2.2.1 == 1 then bif decide ((↑table.length : Int) ≥ 256) then some ([], 15) else bif op.2.2.1 != 1 then bif !there then some ([], 13) else bif len40n table then bif op.2.2.1 == 1 then L_app_4 f (op, 0, table) else bif op.2.2.1 == 2 then bif delP table (k, IntKind.i64.wrap (k + 1)) then some (delF table (k, IntKind.i64.wrap (k + 1)), 0) else none else bif op.2.2.1 == 3 then bif decide (0 ≤ k) && decide (k < (↑table.length : Int)) then some (table.set k.toNat (upT (upS op.2.2.2.2.2) (table.getD k.toNat (0, 0, 0))), 0) else none else some (table, 0) else none else bif len40n table then bif op.2.2.1 == 1 then L_app_4 f (op, 0, table) else bif op.2.2.1 == 2 then bif delP table (k, IntKind.i64.wrap (k + 1)) then some (delF table (k, IntKind.i64.wrap (k + 1)), 0) else none else bif op.2.2.1 == 3 then bif decide (0 ≤ k) && decide (k < (↑table.length : Int)) then some (table.set k.toNat (upT (upS op.2.2.2.2.2) (table.getD k.toNat (0, 0, 0))), 0) else none else some (table, 0) else none else bif op.2.2.1 != 1 then bif !there then some ([], 13) else bif len40n table then bif op.2.2.1 == 1 then L_app_4 f (op, 0, table) else bif op.2.2.1 == 2 then bif delP table (k, IntKind.i64.wrap (k + 1)) then some (delF table (k, IntKind.i64.wrap (k + 1)), 0) else none else bif op.2.2.1 == 3 then bif decide (0 ≤ k) && decide (k < (↑table.length : Int)) then some (table.set k.toNat (upT (upS op.2.2.2.2.2) (table.getD k.toNat (0, 0, 0))), 0) else none else some (table, 0) else none else bif len40n table then bif op.2.2.1 == 1 then L_app_4 f (op, 0, table) else bif op.2.2.1 == 2 then bif delP table (k, IntKind.i64.wrap (k + 1)) then some (delF table (k, IntKind.i64.wrap (k + 1)), 0) else none else bif op.2.2.1 == 3 then bif decide (0 ≤ k) && decide (k < (↑table.length : Int)) then some (table.set k.toNat (upT (upS op.2.2.2.2.2) (table.getD k.toNat (0, 0, 0))), 0) else none else some (table, 0) else none else bif op.2.2.1 == 1 then bif decide ((↑table.length : Int) ≥ 256) then some ([], 15) else bif op.2.2.1 != 1 then bif !there then some ([], 13) else bif len40n table then bif op.2.2.1 == 1 then L_app_4 f (op, 0, table) else bif op.2.2.1 == 2 then bif delP table (k, IntKind.i64.wrap (k + 1)) then some (delF table (k, IntKind.i64.wrap (k + 1)), 0) else none else bif op.2.2.1 == 3 then bif decide (0 ≤ k) && decide (k < (↑table.length : Int)) then some (table.set k.toNat (upT (upS op.2.2.2.2.2) (table.getD k.toNat (0, 0, 0))), 0) else none else some (table, 0) else none else bif len40n table then bif op.2.2.1 == 1 then L_app_4 f (op, 0, table) else bif op.2.2.1 == 2 then bif delP table (k, IntKind.i64.wrap (k + 1)) then some (delF table (k, IntKind.i64.wrap (k + 1)), 0) else none else bif op.2.2.1 == 3 then bif decide (0 ≤ k) && decide (k < (↑table.length : Int)) then some (table.set k.toNat (upT (upS op.2.2.2.2.2) (table.getD k.toNat (0, 0, 0))), 0) else none else some (table, 0) else none else bif op.2.2.1 != 1 then bif !there then some ([], 13) else bif len40n table then bif op.2.2.1 == 1 then L_app_4 f (op, 0, table) else bif op.2.2.1 == 2 then bif delP table (k, IntKind.i64.wrap (k + 1)) then some (delF table (k, IntKind.i64.wrap (k + 1)), 0) else none else bif op.2.2.1 == 3 then bif decide (0 ≤ k) && decide (k < (↑table.length : Int)) then some (table.set k.toNat (upT (upS op.2.2.2.2.2) (table.getD k.toNat (0, 0, 0))), 0) else none else some (table, 0) else none else bif len40n table then bif op.2.2.1 == 1 then L_app_4 f (op, 0, table) else bif op.2.2.1 == 2 then bif delP table (k, IntKind.i64.wrap (k + 1)) then some (delF table (k, IntKind.i64.wrap (k + 1)), 0) else none else bif op.2.2.1 == 3 then bif decide (0 ≤ k) && decide (k < (↑table.length : Int)) then some (table.set k.toNat (upT (upS op.2.2.2.2.2) (table.getD k.toNat (0, 0, 0))), 0) else none else some (table, 0) else none := by kernel_rfl
theorem L_app_4_eq (f : Nat) (op : SOp) (k : Int) (out : List (SPg)) : L_app_4 (f + 1) (op, k, out) =
    bif decide (k < (↑out.length : Int)) then bif decide (0 ≤ k) && decide (k < (↑out.length : Int)) then bif decide ((out.getD k.toNat (0, 0, 0)).1 < op.2.2.2.1) then L_app_4 f (op, IntKind.i64.wrap (k + 1), out) else bif insP 24 out [op.2.2.2] k then some (insF out [op.2.2.2] k, 0) else none else none else bif insP 24 out [op.2.2.2] k then some (insF out [op.2.2.2] k, 0) else none := by kernel_rfl
noncomputable def F_app_4 : List (SPg) → (SOp × Nat × (List (SPg))) → (List (SPg)) × Int
  | [], (op, k, out) => (insF out [op.2.2.2] (↑k : Int), 0)
  | uu :: rest, (op, k, out) => bif decide (uu.1 < op.2.2.2.1) then F_app_4 rest (op, k + 1, out) else (insF out [op.2.2.2] (↑k : Int), 0)
noncomputable def P_app_4 : List (SPg) → (SOp × Nat × (List (SPg))) → Bool
  | [], (op, k, out) => insP 24 out [op.2.2.2] (↑k : Int)
  | uu :: rest, (op, k, out) => bif decide (uu.1 < op.2.2.2.1) then P_app_4 rest (op, k + 1, out) else insP 24 out [op.2.2.2] (↑k : Int)
theorem A_app_4 : ∀ (rest : List (SPg)) (op : SOp) (k : Nat) (out : List (SPg)) (hd : out.drop k = rest) (hl : out.length ≤ 1099511627776), Rns (fun f => L_app_4 f (op, ((k : Nat) : Int), out)) (P_app_4 rest (op, k, out)) (F_app_4 rest (op, k, out))
  | [], op, k, out, hd, hl => ev_step (T := fun f => bif insP 24 out [op.2.2.2] (↑k : Int) then some (insF out [op.2.2.2] (↑k : Int), 0) else none) (fun f => (L_app_4_eq f _ _ _).trans (by simp only [ge_dec (drop_ge hd), ge0, Bool.and_self, Bool.true_and, cond_true, cond_false, List.length_set] <;> rfl)) (ev_chk1 ev_some)
  | uu :: rest, op, k, out, hd, hl => ev_step (T := fun f => bif decide (uu.1 < op.2.2.2.1) then L_app_4 f (op, (↑(k + 1) : Int), out) else bif insP 24 out [op.2.2.2] (↑k : Int) then some (insF out [op.2.2.2] (↑k : Int), 0) else none) (fun f => (L_app_4_eq f _ _ _).trans (by simp only [lt_dec (drop_lt hd), drop_get hd, wrap_succ (drop_lt hd) hl, getD_set (drop_lt hd), ge0, Bool.and_self, Bool.true_and, cond_true, cond_false, List.length_set] <;> rfl)) (ev_bif (A_app_4 rest _ _ _ (by first | exact drop_succ hd | exact drop_set hd | exact drop_setS (drop_set hd)) (by first | exact hl | simpa using hl)) (ev_chk1 ev_some))
noncomputable def F_app_0 : List (SPg) → ((List (SPg)) × SOp × Int × Bool × (List (SPg)) × Int × Nat) → (List (SPg)) × Int
  | [], (table, op, k, there, x19, x20, x21) => bif op.2.2.1 == 1 then bif there then ([], 12) else bif op.2.2.1 == 1 then bif decide ((↑table.length : Int) ≥ 256) then ([], 15) else bif op.2.2.1 != 1 then bif !there then ([], 13) else bif op.2.2.1 == 1 then F_app_4 table (op, 0, table) else bif op.2.2.1 == 2 then (delF table (k, IntKind.i64.wrap (k + 1)), 0) else bif op.2.2.1 == 3 then (table.set k.toNat (upT (upS op.2.2.2.2.2) (table.getD k.toNat (0, 0, 0))), 0) else (table, 0) else bif op.2.2.1 == 1 then F_app_4 table (op, 0, table) else bif op.2.2.1 == 2 then (delF table (k, IntKind.i64.wrap (k + 1)), 0) else bif op.2.2.1 == 3 then (table.set k.toNat (upT (upS op.2.2.2.2.2) (table.getD k.toNat (0, 0, 0))), 0) else (table, 0) else bif op.2.2.1 != 1 then bif !there then ([], 13) else bif op.2.2.1 == 1 then F_app_4 table (op, 0, table) else bif op.2.2.1 == 2 then (delF table (k, IntKind.i64.wrap (k + 1)), 0) else bif op.2.2.1 == 3 then (table.set k.toNat (upT (upS op.2.2.2.2.2) (table.getD k.toNat (0, 0, 0))), 0) else (table, 0) else bif op.2.2.1 == 1 then F_app_4 table (op, 0, table) else bif op.2.2.1 == 2 then (delF table (k, IntKind.i64.wrap (k + 1)), 0) else bif op.2.2.1 == 3 then (table.set k.toNat (upT (upS op.2.2.2.2.2) (table.getD k.toNat (0, 0, 0))), 0) else (table, 0) else bif op.2.2.1 == 1 then bif decide ((↑table.length : Int) ≥ 256) then ([], 15) else bif op.2.2.1 != 1 then bif !there then ([], 13) else bif op.2.2.1 == 1 then F_app_4 table (op, 0, table) else bif op.2.2.1 == 2 then (delF table (k, IntKind.i64.wrap (k + 1)), 0) else bif op.2.2.1 == 3 then (table.set k.toNat (upT (upS op.2.2.2.2.2) (table.getD k.toNat (0, 0, 0))), 0) else (table, 0) else bif op.2.2.1 == 1 then F_app_4 table (op, 0, table) else bif op.2.2.1 == 2 then (delF table (k, IntKind.i64.wrap (k + 1)), 0) else bif op.2.2.1 == 3 then (table.set k.toNat (upT (upS op.2.2.2.2.2) (table.getD k.toNat (0, 0, 0))), 0) else (table, 0) else bif op.2.2.1 != 1 then bif !there then ([], 13) else bif op.2.2.1 == 1 then F_app_4 table (op, 0, table) else bif op.2.2.1 == 2 then (delF table (k, IntKind.i64.wrap (k + 1)), 0) else bif op.2.2.1 == 3 then (table.set k.toNat (upT (upS op.2.2.2.2.2) (table.getD k.toNat (0, 0, 0))), 0) else (table, 0) else bif op.2.2.1 == 1 then F_app_4 table (op, 0, table) else bif op.2.2.1 == 2 then (delF table (k, IntKind.i64.wrap (k + 1)), 0) else bif op.2.2.1 == 3 then (table.set k.toNat (upT (upS op.2.2.2.2.2) (table.getD k.toNat (0, 0, 0))), 0) else (table, 0)
  | uu :: rest, (table, op, k, there, x19, x20, x21) => bif uu.1 == op.2.2.2.1 then F_app_0 rest (table, op, (↑x21 : Int), true, x19, x20, x21 + 1) else F_app_0 rest (table, op, k, there, x19, x20, x21 + 1)
noncomputable def P_app_0 : List (SPg) → ((List (SPg)) × SOp × Int × Bool × (List (SPg)) × Int × Nat) → Bool
  | [], (table, op, k, there, x19, x20, x21) => bif op.2.2.1 == 1 then bif there then true else bif op.2.2.1 == 1 then bif decide ((↑table.length : Int) ≥ 256) then true else bif op.2.2.1 != 1 then bif !there then true else len40n table && bif op.2.2.1 == 1 then decide (table.length ≤ 1099511627776) && P_app_4 table (op, 0, table) else bif op.2.2.1 == 2 then delP table (k, IntKind.i64.wrap (k + 1)) else bif op.2.2.1 == 3 then decide (0 ≤ k) && decide (k < (↑table.length : Int)) else true else len40n table && bif op.2.2.1 == 1 then decide (table.length ≤ 1099511627776) && P_app_4 table (op, 0, table) else bif op.2.2.1 == 2 then delP table (k, IntKind.i64.wrap (k + 1)) else bif op.2.2.1 == 3 then decide (0 ≤ k) && decide (k < (↑table.length : Int)) else true else bif op.2.2.1 != 1 then bif !there then true else len40n table && bif op.2.2.1 == 1 then decide (table.length ≤ 1099511627776) && P_app_4 table (op, 0, table) else bif op.2.2.1 == 2 then delP table (k, IntKind.i64.wrap (k + 1)) else bif op.2.2.1 == 3 then decide (0 ≤ k) && decide (k < (↑table.length : Int)) else true else len40n table && bif op.2.2.1 == 1 then decide (table.length ≤ 1099511627776) && P_app_4 table (op, 0, table) else bif op.2.2.1 == 2 then delP table (k, IntKind.i64.wrap (k + 1)) else bif op.2.2.1 == 3 then decide (0 ≤ k) && decide (k < (↑table.length : Int)) else true else bif op.2.2.1 == 1 then bif decide ((↑table.length : Int) ≥ 256) then true else bif op.2.2.1 != 1 then bif !there then true else len40n table && bif op.2.2.1 == 1 then decide (table.length ≤ 1099511627776) && P_app_4 table (op, 0, table) else bif op.2.2.1 == 2 then delP table (k, IntKind.i64.wrap (k + 1)) else bif op.2.2.1 == 3 then decide (0 ≤ k) && decide (k < (↑table.length : Int)) else true else len40n table && bif op.2.2.1 == 1 then decide (table.length ≤ 1099511627776) && P_app_4 table (op, 0, table) else bif op.2.2.1 == 2 then delP table (k, IntKind.i64.wrap (k + 1)) else bif op.2.2.1 == 3 then decide (0 ≤ k) && decide (k < (↑table.length : Int)) else true else bif op.2.2.1 != 1 then bif !there then true else len40n table && bif op.2.2.1 == 1 then decide (table.length ≤ 1099511627776) && P_app_4 table (op, 0, table) else bif op.2.2.1 == 2 then delP table (k, IntKind.i64.wrap (k + 1)) else bif op.2.2.1 == 3 then decide (0 ≤ k) && decide (k < (↑table.length : Int)) else true else len40n table && bif op.2.2.1 == 1 then decide (table.length ≤ 1099511627776) && P_app_4 table (op, 0, table) else bif op.2.2.1 == 2 then delP table (k, IntKind.i64.wrap (k + 1)) else bif op.2.2.1 == 3 then decide (0 ≤ k) && decide (k < (↑table.length : Int)) else true
  | uu :: rest, (table, op, k, there, x19, x20, x21) => bif uu.1 == op.2.2.2.1 then P_app_0 rest (table, op, (↑x21 : Int), true, x19, x20, x21 + 1) else P_app_0 rest (table, op, k, there, x19, x20, x21 + 1)
theorem A_app_0 : ∀ (rest : List (SPg)) (table : List (SPg)) (op : SOp) (k : Int) (there : Bool) (x19 : List (SPg)) (x20 : Int) (x21 : Nat) (hd : x19.drop x21 = rest) (hn : x20 = ((x19.length : Nat) : Int)) (hl : x19.length ≤ 1099511627776), Rns (fun f => L_app_0 f (table, op, k, there, x19, x20, ((x21 : Nat) : Int))) (P_app_0 rest (table, op, k, there, x19, x20, x21)) (F_app_0 rest (table, op, k, there, x19, x20, x21))
  | [], table, op, k, there, x19, x20, x21, hd, hn, hl => ev_step (T := fun f => bif op.2.2.1 == 1 then bif there then some ([], 12) else bif op.2.2.1 == 1 then bif decide ((↑table.length : Int) ≥ 256) then some ([], 15) else bif op.2.2.1 != 1 then bif !there then some ([], 13) else bif len40n table then bif op.2.2.1 == 1 then L_app_4 f (op, 0, table) else bif op.2.2.1 == 2 then bif delP table (k, IntKind.i64.wrap (k + 1)) then some (delF table (k, IntKind.i64.wrap (k + 1)), 0) else none else bif op.2.2.1 == 3 then bif decide (0 ≤ k) && decide (k < (↑table.length : Int)) then some (table.set k.toNat (upT (upS op.2.2.2.2.2) (table.getD k.toNat (0, 0, 0))), 0) else none else some (table, 0) else none else bif len40n table then bif op.2.2.1 == 1 then L_app_4 f (op, 0, table) else bif op.2.2.1 == 2 then bif delP table (k, IntKind.i64.wrap (k + 1)) then some (delF table (k, IntKind.i64.wrap (k + 1)), 0) else none else bif op.2.2.1 == 3 then bif decide (0 ≤ k) && decide (k < (↑table.length : Int)) then some (table.set k.toNat (upT (upS op.2.2.2.2.2) (table.getD k.toNat (0, 0, 0))), 0) else none else some (table, 0) else none else bif op.2.2.1 != 1 then bif !there then some ([], 13) else bif len40n table then bif op.2.2.1 == 1 then L_app_4 f (op, 0, table) else bif op.2.2.1 == 2 then bif delP table (k, IntKind.i64.wrap (k + 1)) then some (delF table (k, IntKind.i64.wrap (k + 1)), 0) else none else bif op.2.2.1 == 3 then bif decide (0 ≤ k) && decide (k < (↑table.length : Int)) then some (table.set k.toNat (upT (upS op.2.2.2.2.2) (table.getD k.toNat (0, 0, 0))), 0) else none else some (table, 0) else none else bif len40n table then bif op.2.2.1 == 1 then L_app_4 f (op, 0, table) else bif op.2.2.1 == 2 then bif delP table (k, IntKind.i64.wrap (k + 1)) then some (delF table (k, IntKind.i64.wrap (k + 1)), 0) else none else bif op.2.2.1 == 3 then bif decide (0 ≤ k) && decide (k < (↑table.length : Int)) then some (table.set k.toNat (upT (upS op.2.2.2.2.2) (table.getD k.toNat (0, 0, 0))), 0) else none else some (table, 0) else none else bif op.2.2.1 == 1 then bif decide ((↑table.length : Int) ≥ 256) then some ([], 15) else bif op.2.2.1 != 1 then bif !there then some ([], 13) else bif len40n table then bif op.2.2.1 == 1 then L_app_4 f (op, 0, table) else bif op.2.2.1 == 2 then bif delP table (k, IntKind.i64.wrap (k + 1)) then some (delF table (k, IntKind.i64.wrap (k + 1)), 0) else none else bif op.2.2.1 == 3 then bif decide (0 ≤ k) && decide (k < (↑table.length : Int)) then some (table.set k.toNat (upT (upS op.2.2.2.2.2) (table.getD k.toNat (0, 0, 0))), 0) else none else some (table, 0) else none else bif len40n table then bif op.2.2.1 == 1 then L_app_4 f (op, 0, table) else bif op.2.2.1 == 2 then bif delP table (k, IntKind.i64.wrap (k + 1)) then some (delF table (k, IntKind.i64.wrap (k + 1)), 0) else none else bif op.2.2.1 == 3 then bif decide (0 ≤ k) && decide (k < (↑table.length : Int)) then some (table.set k.toNat (upT (upS op.2.2.2.2.2) (table.getD k.toNat (0, 0, 0))), 0) else none else some (table, 0) else none else bif op.2.2.1 != 1 then bif !there then some ([], 13) else bif len40n table then bif op.2.2.1 == 1 then L_app_4 f (op, 0, table) else bif op.2.2.1 == 2 then bif delP table (k, IntKind.i64.wrap (k + 1)) then some (delF table (k, IntKind.i64.wrap (k + 1)), 0) else none else bif op.2.2.1 == 3 then bif decide (0 ≤ k) && decide (k < (↑table.length : Int)) then some (table.set k.toNat (upT (upS op.2.2.2.2.2) (table.getD k.toNat (0, 0, 0))), 0) else none else some (table, 0) else none else bif len40n table then bif op.2.2.1 == 1 then L_app_4 f (op, 0, table) else bif op.2.2.1 == 2 then bif delP table (k, IntKind.i64.wrap (k + 1)) then some (delF table (k, IntKind.i64.wrap (k + 1)), 0) else none else bif op.2.2.1 == 3 then bif decide (0 ≤ k) && decide (k < (↑table.length : Int)) then some (table.set k.toNat (upT (upS op.2.2.2.2.2) (table.getD k.toNat (0, 0, 0))), 0) else none else some (table, 0) else none) (fun f => (L_app_0_eq f _ _ _ _ _ _ _).trans (by simp only [ge_decn hn (drop_ge hd), ge0, Bool.and_self, Bool.true_and, cond_true, cond_false, List.length_set] <;> rfl)) (ev_bif (ev_bif ev_some (ev_bif (ev_bif ev_some (ev_bif (ev_bif ev_some (ev_chk (ev_bif (ev_and fun hh => A_app_4 _ _ _ _ rfl (of_decide_eq_true hh)) (ev_bif (ev_chk1 ev_some) (ev_bif (ev_chk1 ev_some) ev_some))))) (ev_chk (ev_bif (ev_and fun hh => A_app_4 _ _ _ _ rfl (of_decide_eq_true hh)) (ev_bif (ev_chk1 ev_some) (ev_bif (ev_chk1 ev_some) ev_some)))))) (ev_bif (ev_bif ev_some (ev_chk (ev_bif (ev_and fun hh => A_app_4 _ _ _ _ rfl (of_decide_eq_true hh)) (ev_bif (ev_chk1 ev_some) (ev_bif (ev_chk1 ev_some) ev_some))))) (ev_chk (ev_bif (ev_and fun hh => A_app_4 _ _ _ _ rfl (of_decide_eq_true hh)) (ev_bif (ev_chk1 ev_some) (ev_bif (ev_chk1 ev_some) ev_some))))))) (ev_bif (ev_bif ev_some (ev_bif (ev_bif ev_some (ev_chk (ev_bif (ev_and fun hh => A_app_4 _ _ _ _ rfl (of_decide_eq_true hh)) (ev_bif (ev_chk1 ev_some) (ev_bif (ev_chk1 ev_some) ev_some))))) (ev_chk (ev_bif (ev_and fun hh => A_app_4 _ _ _ _ rfl (of_decide_eq_true hh)) (ev_bif (ev_chk1 ev_some) (ev_bif (ev_chk1 ev_some) ev_some)))))) (ev_bif (ev_bif ev_some (ev_chk (ev_bif (ev_and fun hh => A_app_4 _ _ _ _ rfl (of_decide_eq_true hh)) (ev_bif (ev_chk1 ev_some) (ev_bif (ev_chk1 ev_some) ev_some))))) (ev_chk (ev_bif (ev_and fun hh => A_app_4 _ _ _ _ rfl (of_decide_eq_true hh)) (ev_bif (ev_chk1 ev_some) (ev_bif (ev_chk1 ev_some) ev_some)))))))
  | uu :: rest, table, op, k, there, x19, x20, x21, hd, hn, hl => ev_step (T := fun f => bif uu.1 == op.2.2.2.1 then L_app_0 f (table, op, (↑x21 : Int), true, x19, x20, (↑(x21 + 1) : Int)) else L_app_0 f (table, op, k, there, x19, x20, (↑(x21 + 1) : Int))) (fun f => (L_app_0_eq f _ _ _ _ _ _ _).trans (by simp only [lt_decn hn (drop_lt hd), lt_dec (drop_lt hd), drop_get hd, wrap_succ (drop_lt hd) hl, getD_set (drop_lt hd), ge0, Bool.and_self, Bool.true_and, cond_true, cond_false, List.length_set] <;> rfl)) (ev_bif (A_app_0 rest _ _ _ _ _ _ _ (by first | exact drop_succ hd | exact drop_set hd | exact drop_setS (drop_set hd)) (by first | exact hn | simpa using hn) (by first | exact hl | simpa using hl)) (A_app_0 rest _ _ _ _ _ _ _ (by first | exact drop_succ hd | exact drop_set hd | exact drop_setS (drop_set hd)) (by first | exact hn | simpa using hn) (by first | exact hl | simpa using hl)))
noncomputable def F_app : ((List (SPg)) × SOp) → (List (SPg)) × Int
  | (l, op) => bif !F_vop op then ([], 1) else bif !F_asc l then ([], 1) else F_app_0 l (l, op, -1, false, l, (↑l.length : Int), 0)
noncomputable def P_app : ((List (SPg)) × SOp) → Bool
  | (l, op) => bif !F_vop op then true else P_asc l && bif !F_asc l then true else decide (l.length ≤ 1099511627776) && P_app_0 l (l, op, -1, false, l, (↑l.length : Int), 0)
theorem app_auto : ∀ a : (List (SPg)) × SOp, Rns (fun f => M_app f a) (P_app a) (F_app a)
  | (l, op) => ev_step (fun f => M_app_eq f _ _) (ev_bif ev_some (ev_chk (ev_bif ev_some (ev_and fun hh => A_app_0 _ _ _ _ _ _ _ _ rfl (by first | rfl | simp) (of_decide_eq_true hh)))))
theorem app_P : ∀ a : List SPg × SOp, (P_app : List SPg × SOp → Bool) a = true → P_app a = true := fun a h => h
theorem app_F : ∀ a : List SPg × SOp, (P_app : List SPg × SOp → Bool) a = true → F_app a = F_app a := fun _ _ => rfl
theorem app_run : ∀ a, (P_app : (List (SPg)) × SOp → Bool) a = true → ∃ f, M_app f a = some ((F_app : (List (SPg)) × SOp → (List (SPg)) × Int) a) := fun a h => by have h1 := app_auto a (app_P a h); rw [app_F a h] at h1; exact h1
noncomputable def E_app : Ent := ⟨7, [.rd tSPg, .g tSOp], [.o 34 3 tSPg, .v (.int .i64)], fun a => (P_app : (List (SPg)) × SOp → Bool) a, fun a => (F_app : (List (SPg)) × SOp → (List (SPg)) × Int) a⟩
theorem E_app_ok : E_app.Ok Try.prog := fun a hp vs hv => (app_run a hp).elim fun f h => fnX_ok (C := C_app) (Lt := Lt_app) (fn := Try.f7) (rs := [.tmp 4, .tmp 5]) [.rd tSPg, .g tSOp] [.o 34 3 tSPg, .v (.int .i64)] mixed es_app Try.func7 rfl rfl rfl (by kernel_rfl) (by kernel_rfl) f h vs hv
end Go.AL
