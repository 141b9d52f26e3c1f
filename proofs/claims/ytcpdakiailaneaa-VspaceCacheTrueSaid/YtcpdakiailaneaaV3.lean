/-
  Layer 16: indices; checks of tables. By an AI agent.
-/
import Derived.Test.YtcpdakiailaneaaV2
namespace Go.AL
open Go.Proofs
set_option linter.unusedVariables false
set_option linter.unusedSimpArgs false
def ixS (a : Int × Int × Int) : Int := bif vaS (a.1, a.2.2) && (!decide (a.2.1 < 0) && !decide (a.2.1 ≥ (geoS a.1).1)) then a.2.2 / 2 ^ (12 + a.2.1.toNat * (geoS a.1).2.1.toNat) % lim a.1 else 0
theorem and_mask {x : Int} (b : Nat) (h0 : 0 ≤ x) (h1 : x < 4611686018427387904) (hb : b ≤ 32) : ((((BitVec.ofInt IntKind.i64.bits x &&& BitVec.ofInt IntKind.i64.bits (2 ^ b - 1)).toNat : Nat)) : Int) = x % 2 ^ b := by
  have hp : (2 : Int) ^ b ≤ 2 ^ 32 := by
    have : (2 : Nat) ^ b ≤ 2 ^ 32 := Nat.pow_le_pow_right (by omega) hb
    exact_mod_cast this
  have hp0 : (0 : Int) < 2 ^ b := Int.pow_pos (by omega)
  obtain ⟨n, rfl⟩ := Int.eq_ofNat_of_zero_le h0
  have e1 : (BitVec.ofInt IntKind.i64.bits (n : Int)).toNat = n := by
    rw [BitVec.toNat_ofInt]
    show ((n : Int) % (2 ^ 64 : Nat)).toNat = n
    rw [Int.emod_eq_of_lt (by omega) (by omega)]; omega
  have e2 : (BitVec.ofInt IntKind.i64.bits ((2 : Int) ^ b - 1)).toNat = 2 ^ b - 1 := by
    rw [BitVec.toNat_ofInt]
    show (((2 : Int) ^ b - 1) % (2 ^ 64 : Nat)).toNat = 2 ^ b - 1
    rw [Int.emod_eq_of_lt (by omega) (by omega)]
    have : ((2 : Int) ^ b) = ((2 ^ b : Nat) : Int) := by simp
    omega
  rw [BitVec.toNat_and, e1, e2, Nat.and_two_pow_sub_one_eq_mod]
  simp
theorem va_w {w a : Int} (h : vaS (w, a) = true) : (w = 32 ∧ 0 ≤ a ∧ a < 4294967296) ∨ (w = 39 ∧ 0 ≤ a ∧ a < 549755813888) := by
  simp only [vaS, Bool.and_eq_true, decide_eq_true_eq] at h
  rcases geo_w h.1 with rfl | rfl
  · exact .inl ⟨rfl, h.2.1, h.2.2⟩
  · exact .inr ⟨rfl, h.2.1, h.2.2⟩
noncomputable def C_pix : Cfg := ⟨Try.prog, [E_geom, E_pva], pmT [(4, ([(0, []), (1, []), (2, []), (3, []), (4, []), (5, []), (6, []), (7, []), (8, []), (9, []), (10, [])], [(6, 6), (31, 40)]))], 41, [], []⟩
theorem es_pix : EsOk Try.prog [E_geom, E_pva] [] := es_cons E_geom_ok (es_cons E_pva_ok (es_nil))
def Lt_pix : Nat → LD := ldT []
noncomputable def M_pix (f : Nat) (a : Int × Int × Int) : Option (Int) := (runX (C_pix) Lt_pix (Kret Try.prog [.tmp 6] [.v (.int .i64)]) f [.code (bodyOf Try.f66)] (initX [.c (.int .i64), .c (.int .i64), .c (.int .i64)] a) : Option (ResT [.v (.int .i64)]))
theorem M_pix_eq (f : Nat) (width : Int) (level : Int) (addr : Int) : M_pix (f + 1) (width, level, addr) =
    bif !vaS (width, addr) then some 0 else bif decide (level < 0) then some 0 else bif decide (level ≥ (geoS width).1) then some 0 else bif decide (0 ≤ IntKind.i64.wrap (12 + IntKind.i64.wrap (level * (geoS width).2.1))) then bif decide (0 ≤ (geoS width).2.1) then some (IntKind.i64.wrap (↑(BitVec.ofInt IntKind.i64.bits (addr.fdiv (2 ^ min (IntKind.i64.wrap (12 + IntKind.i64.wrap (level * (geoS width).2.1))).toNat IntKind.i64.bits)) &&& BitVec.ofInt IntKind.i64.bits (IntKind.i64.wrap (IntKind.i64.wrap (1 * 2 ^ min (Int.toNat (geoS width).2.1) IntKind.i64.bits) - 1))).toNat : Int)) else none else none := by kernel_rfl
noncomputable def F_pix : (Int × Int × Int) → Int
  | (width, level, addr) => bif !vaS (width, addr) then 0 else bif decide (level < 0) then 0 else bif decide (level ≥ (geoS width).1) then 0 else IntKind.i64.wrap (↑(BitVec.ofInt IntKind.i64.bits (addr.fdiv (2 ^ min (IntKind.i64.wrap (12 + IntKind.i64.wrap (level * (geoS width).2.1))).toNat IntKind.i64.bits)) &&& BitVec.ofInt IntKind.i64.bits (IntKind.i64.wrap (IntKind.i64.wrap (1 * 2 ^ min (Int.toNat (geoS width).2.1) IntKind.i64.bits) - 1))).toNat : Int)
noncomputable def P_pix : (Int × Int × Int) → Bool
  | (width, level, addr) => bif !vaS (width, addr) then true else bif decide (level < 0) then true else bif decide (level ≥ (geoS width).1) then true else decide (0 ≤ IntKind.i64.wrap (12 + IntKind.i64.wrap (level * (geoS width).2.1))) && decide (0 ≤ (geoS width).2.1)
theorem pix_auto : ∀ a : Int × Int × Int, Rns (fun f => M_pix f a) (P_pix a) (F_pix a)
  | (width, level, addr) => ev_step (fun f => M_pix_eq f _ _ _) (ev_bif ev_some (ev_bif ev_some (ev_bif ev_some (ev_chk (ev_chk1 ev_some)))))
theorem pix_both : ∀ a : Int × Int × Int, P_pix a = true ∧ F_pix a = ixS a := by
  rintro ⟨w, l, a⟩
  simp only [P_pix, F_pix, ixS]
  cases hv : vaS (w, a)
  · exact ⟨rfl, rfl⟩
  by_cases h0 : l < 0
  · rw [decide_eq_true h0]; exact ⟨rfl, rfl⟩
  by_cases h1 : l ≥ (geoS w).1
  · rw [decide_eq_false h0, decide_eq_true h1]; exact ⟨rfl, rfl⟩
  rw [decide_eq_false h0, decide_eq_false h1]
  simp only [Bool.not_true, Bool.not_false, cond_false, cond_true, Bool.and_self]
  have key : ∀ (k b : Nat), k ≤ 40 → b ≤ 32 → 0 ≤ a → a < 549755813888 → IntKind.i64.wrap (((BitVec.ofInt IntKind.i64.bits (a.fdiv (2 ^ k)) &&& BitVec.ofInt IntKind.i64.bits ((2 : Int) ^ b - 1)).toNat : Nat) : Int) = a / 2 ^ k % 2 ^ b := fun k b hk hb ha0 ha1 => by
    have hp : (0 : Int) < 2 ^ k := Int.pow_pos (by omega)
    have hq : (0 : Int) < 2 ^ b := Int.pow_pos (by omega)
    have hq2 : (2 : Int) ^ b ≤ 2 ^ 32 := by
      have : (2 : Nat) ^ b ≤ 2 ^ 32 := Nat.pow_le_pow_right (by omega) hb
      exact_mod_cast this
    rw [Int.fdiv_eq_ediv_of_nonneg _ (Int.le_of_lt hp)]
    have h2 : 0 ≤ a / 2 ^ k := Int.ediv_nonneg ha0 (Int.le_of_lt hp)
    have h3 : a / 2 ^ k ≤ a := Int.ediv_le_self _ ha0
    rw [and_mask b h2 (by omega) hb]
    have h4 := Int.emod_nonneg (a / 2 ^ k) (Int.ne_of_gt hq)
    have h5 := Int.emod_lt_of_pos (a / 2 ^ k) hq
    exact i64_id (by omega) (by omega)
  rcases va_w hv with ⟨rfl, ha⟩ | ⟨rfl, ha⟩
  · have hl : l = 0 ∨ l = 1 := by
      have : (geoS 32).1 = 2 := rfl
      omega
    rcases hl with rfl | rfl
    · exact ⟨rfl, key 12 10 (by omega) (by omega) ha.1 (by omega)⟩
    · exact ⟨rfl, key 22 10 (by omega) (by omega) ha.1 (by omega)⟩
  · have hl : l = 0 ∨ l = 1 ∨ l = 2 := by
      have : (geoS 39).1 = 3 := rfl
      omega
    rcases hl with rfl | rfl | rfl
    · exact ⟨rfl, key 12 9 (by omega) (by omega) ha.1 (by omega)⟩
    · exact ⟨rfl, key 21 9 (by omega) (by omega) ha.1 (by omega)⟩
    · exact ⟨rfl, key 30 9 (by omega) (by omega) ha.1 (by omega)⟩
theorem pix_P : ∀ a : Int × Int × Int, (fun _ => true) a = true → P_pix a = true := fun a _ => (pix_both a).1
theorem pix_F : ∀ a : Int × Int × Int, (fun _ => true) a = true → F_pix a = ixS a := fun a _ => (pix_both a).2
theorem pix_run : ∀ a, (fun _ => true : Int × Int × Int → Bool) a = true → ∃ f, M_pix f a = some ((ixS : Int × Int × Int → Int) a) := fun a h => by have h1 := pix_auto a (pix_P a h); rw [pix_F a h] at h1; exact h1
noncomputable def E_pix : Ent := ⟨66, [.c (.int .i64), .c (.int .i64), .c (.int .i64)], [.v (.int .i64)], fun a => (fun _ => true : Int × Int × Int → Bool) a, fun a => (ixS : Int × Int × Int → Int) a⟩
theorem E_pix_ok : E_pix.Ok Try.prog := fun a hp vs hv => (pix_run a hp).elim fun f h => fnX_ok (C := C_pix) (Lt := Lt_pix) (fn := Try.f66) (rs := [.tmp 6]) [.c (.int .i64), .c (.int .i64), .c (.int .i64)] [.v (.int .i64)] mixed es_pix Try.func66 rfl rfl rfl (by kernel_rfl) (by kernel_rfl) f h vs hv
def kindS (a : List SPT × SCp) : Bool := vcapB a.2 && (decide (a.2.1 = 3) && (decide (ftS a.1 a.2.2.1 < 0) || (decide ((a.1.getD (ftS a.1 a.2.2.1).toNat zPT).2.1 = a.2.2.2.2.2.1) && decide ((a.1.getD (ftS a.1 a.2.2.1).toNat zPT).2.2.1 = a.2.2.2.2.2.2.1))))
theorem ftS_lt (l : List SPT) (b : Int) : ftS l b < l.length := by have := findI_lt (fun t : SPT => decide (t.1 = b)) l 0 (by omega); unfold ftS; omega
def ctabS (a : List SPT × SCp) : Int := bif kindS a then 0 else 5
noncomputable def C_ctab : Cfg := ⟨Try.prog, [E_vcap, E_find], pmT [(4, ([(0, []), (1, []), (2, []), (3, []), (4, []), (5, []), (6, []), (7, []), (8, []), (9, []), (10, []), (11, []), (12, []), (13, []), (14, []), (15, []), (16, []), (17, []), (18, []), (19, []), (20, [])], [(22, 42)]))], 43, [], []⟩
theorem es_ctab : EsOk Try.prog [E_vcap, E_find] [] := es_cons E_vcap_ok (es_cons E_find_ok (es_nil))
def Lt_ctab : Nat → LD := ldT []
noncomputable def M_ctab (f : Nat) (a : (List (SPT)) × SCp) : Option (Int) := (runX (C_ctab) Lt_ctab (Kret Try.prog [.tmp 4] [.v (.int .i64)]) f [.code (bodyOf Try.f53)] (initX [.rd tSPT, .g tSCp] a) : Option (ResT [.v (.int .i64)]))
theorem M_ctab_eq (f : Nat) (ts : List (SPT)) (table : SCp) : M_ctab (f + 1) (ts, table) =
    bif !vcapB table then some 5 else bif table.1 != 3 then some 5 else bif len40n ts then bif decide (ftS ts table.2.1 ≥ 0) then bif decide (0 ≤ ftS ts table.2.1) && decide (ftS ts table.2.1 < (↑ts.length : Int)) then bif (ts.getD (ftS ts table.2.1).toNat (0, 0, 0, [])).2.1 != table.2.2.2.2.1 then some 5 else bif decide (0 ≤ ftS ts table.2.1) && decide (ftS ts table.2.1 < (↑ts.length : Int)) then bif (ts.getD (ftS ts table.2.1).toNat (0, 0, 0, [])).2.2.1 != table.2.2.2.2.2.1 then some 5 else some 0 else none else none else some 0 else none := by kernel_rfl
noncomputable def F_ctab : ((List (SPT)) × SCp) → Int
  | (ts, table) => bif !vcapB table then 5 else bif table.1 != 3 then 5 else bif decide (ftS ts table.2.1 ≥ 0) then bif (ts.getD (ftS ts table.2.1).toNat (0, 0, 0, [])).2.1 != table.2.2.2.2.1 then 5 else bif (ts.getD (ftS ts table.2.1).toNat (0, 0, 0, [])).2.2.1 != table.2.2.2.2.2.1 then 5 else 0 else 0
noncomputable def P_ctab : ((List (SPT)) × SCp) → Bool
  | (ts, table) => bif !vcapB table then true else bif table.1 != 3 then true else len40n ts && bif decide (ftS ts table.2.1 ≥ 0) then decide (0 ≤ ftS ts table.2.1) && decide (ftS ts table.2.1 < (↑ts.length : Int)) && bif (ts.getD (ftS ts table.2.1).toNat (0, 0, 0, [])).2.1 != table.2.2.2.2.1 then true else decide (0 ≤ ftS ts table.2.1) && decide (ftS ts table.2.1 < (↑ts.length : Int)) else true
theorem ctab_auto : ∀ a : (List (SPT)) × SCp, Rns (fun f => M_ctab f a) (P_ctab a) (F_ctab a)
  | (ts, table) => ev_step (fun f => M_ctab_eq f _ _) (ev_bif ev_some (ev_bif ev_some (ev_chk (ev_bif (ev_chk (ev_bif ev_some (ev_chk1 (ev_bift ev_some ev_some)))) ev_some))))
theorem ctab_both : ∀ a : List SPT × SCp, len40n a.1 = true → P_ctab a = true ∧ F_ctab a = ctabS a := by
  rintro ⟨l, t⟩ h
  have h : len40n l = true := h
  have ez : ((0, 0, 0, []) : SPT) = zPT := rfl
  have hlt := ftS_lt l t.2.1
  simp only [P_ctab, F_ctab, ctabS, kindS, ez, bneI, h, Bool.true_and]
  cases vcapB t
  · exact ⟨rfl, rfl⟩
  cases decide (t.1 = 3)
  · exact ⟨rfl, rfl⟩
  by_cases hf : ftS l t.2.1 < 0
  · rw [decide_eq_true hf, decide_eq_false (show ¬ ftS l t.2.1 ≥ 0 by omega)]; exact ⟨rfl, rfl⟩
  · rw [decide_eq_false hf, decide_eq_true (show ftS l t.2.1 ≥ 0 by omega), decide_eq_true hlt]
    cases decide ((l.getD (ftS l t.2.1).toNat zPT).2.1 = t.2.2.2.2.1) <;> cases decide ((l.getD (ftS l t.2.1).toNat zPT).2.2.1 = t.2.2.2.2.2.1) <;> exact ⟨rfl, rfl⟩
theorem ctab_P : ∀ a : List SPT × SCp, len40n a.1 = true → P_ctab a = true := fun a h => (ctab_both a h).1
theorem ctab_F : ∀ a : List SPT × SCp, len40n a.1 = true → F_ctab a = ctabS a := fun a h => (ctab_both a h).2
theorem ctab_run : ∀ a, (fun a => len40n a.1 : (List (SPT)) × SCp → Bool) a = true → ∃ f, M_ctab f a = some ((ctabS : (List (SPT)) × SCp → Int) a) := fun a h => by have h1 := ctab_auto a (ctab_P a h); rw [ctab_F a h] at h1; exact h1
noncomputable def E_ctab : Ent := ⟨53, [.rd tSPT, .g tSCp], [.v (.int .i64)], fun a => (fun a => len40n a.1 : (List (SPT)) × SCp → Bool) a, fun a => (ctabS : (List (SPT)) × SCp → Int) a⟩
theorem E_ctab_ok : E_ctab.Ok Try.prog := fun a hp vs hv => (ctab_run a hp).elim fun f h => fnX_ok (C := C_ctab) (Lt := Lt_ctab) (fn := Try.f53) (rs := [.tmp 4]) [.rd tSPT, .g tSCp] [.v (.int .i64)] mixed es_ctab Try.func53 rfl rfl rfl (by kernel_rfl) (by kernel_rfl) f h vs hv
noncomputable def C_tcl : Cfg := ⟨Try.prog, [], pmT [], 8, [], []⟩
theorem es_tcl : EsOk Try.prog [] := es_nil
theorem X_tcl (l : List (SPT)) : (runX C_tcl (fun _ => ⟨[], [], 0⟩) (Kret Try.prog [.tmp 2] [.o 60 4 tSPT]) 1 [.code (bodyOf Try.f93)] (initX [.rd tSPT] l) : Option (ResT [.o 60 4 tSPT])) = bif Decidable.decide (0 < l.length) && Bool.true then bif Decidable.decide ((([] : List Nat).length + l.length) * (bytesOf Try.prog 60) ≤ 140737488355328) then some l else none else none := by kernel_rfl
noncomputable def E_tcl : Ent := ⟨93, [.rd tSPT], [.o 60 4 tSPT], fun a => len40n (a : List (SPT)), fun a => (a : List (SPT))⟩
theorem E_tcl_ok : E_tcl.Ok Try.prog := fun a hp vs hv => clone_ok (τ := tSPT) (t := 60) (es := 4)
    (fun a h0 h1 vs hv => fnX_ok (C := C_tcl) (Lt := fun _ => ⟨[], [], 0⟩) (fn := Try.f93) (rs := [.tmp 2]) [.rd tSPT] [.o 60 4 tSPT] mixed es_tcl Try.func93 rfl rfl rfl (by kernel_rfl) (by kernel_rfl) 1 ((X_tcl a).trans (clone_len h0 h1 (by decide +kernel))) vs hv)
    (fnX_ok (C := C_tcl) (Lt := fun _ => ⟨[], [], 0⟩) (fn := Try.f93) (rs := [.tmp 2]) (a := ()) [.raw (.slice none 0 0)] [.o 60 4 tSPT] mixed es_tcl Try.func93 rfl rfl rfl (by kernel_rfl) (by kernel_rfl) 1 (by kernel_rfl) _ (by simp only [ArgsV, ArgsV1, ArgV]; exact ⟨_, rfl, rfl⟩))
    (fun b c => fnX_ok (C := C_tcl) (Lt := fun _ => ⟨[], [], 0⟩) (fn := Try.f93) (rs := [.tmp 2]) (a := ()) [.raw (.slice (some b) 0 c)] [.o 60 4 tSPT] mixed es_tcl Try.func93 rfl rfl rfl (by kernel_rfl) (by kernel_rfl) 1 (by kernel_rfl) _ (by simp only [ArgsV, ArgsV1, ArgV]; exact ⟨_, rfl, rfl⟩))
    a (of_decide_eq_true hp) vs hv
noncomputable def C_mcl : Cfg := ⟨Try.prog, [], pmT [], 8, [], []⟩
theorem es_mcl : EsOk Try.prog [] := es_nil
theorem X_mcl (l : List (SMp)) : (runX C_mcl (fun _ => ⟨[], [], 0⟩) (Kret Try.prog [.tmp 2] [.o 64 6 tSMp]) 1 [.code (bodyOf Try.f94)] (initX [.rd tSMp] l) : Option (ResT [.o 64 6 tSMp])) = bif Decidable.decide (0 < l.length) && Bool.true then bif Decidable.decide ((([] : List Nat).length + l.length) * (bytesOf Try.prog 64) ≤ 140737488355328) then some l else none else none := by kernel_rfl
noncomputable def E_mcl : Ent := ⟨94, [.rd tSMp], [.o 64 6 tSMp], fun a => len40n (a : List (SMp)), fun a => (a : List (SMp))⟩
theorem E_mcl_ok : E_mcl.Ok Try.prog := fun a hp vs hv => clone_ok (τ := tSMp) (t := 64) (es := 6)
    (fun a h0 h1 vs hv => fnX_ok (C := C_mcl) (Lt := fun _ => ⟨[], [], 0⟩) (fn := Try.f94) (rs := [.tmp 2]) [.rd tSMp] [.o 64 6 tSMp] mixed es_mcl Try.func94 rfl rfl rfl (by kernel_rfl) (by kernel_rfl) 1 ((X_mcl a).trans (clone_len h0 h1 (by decide +kernel))) vs hv)
    (fnX_ok (C := C_mcl) (Lt := fun _ => ⟨[], [], 0⟩) (fn := Try.f94) (rs := [.tmp 2]) (a := ()) [.raw (.slice none 0 0)] [.o 64 6 tSMp] mixed es_mcl Try.func94 rfl rfl rfl (by kernel_rfl) (by kernel_rfl) 1 (by kernel_rfl) _ (by simp only [ArgsV, ArgsV1, ArgV]; exact ⟨_, rfl, rfl⟩))
    (fun b c => fnX_ok (C := C_mcl) (Lt := fun _ => ⟨[], [], 0⟩) (fn := Try.f94) (rs := [.tmp 2]) (a := ()) [.raw (.slice (some b) 0 c)] [.o 64 6 tSMp] mixed es_mcl Try.func94 rfl rfl rfl (by kernel_rfl) (by kernel_rfl) 1 (by kernel_rfl) _ (by simp only [ArgsV, ArgsV1, ArgV]; exact ⟨_, rfl, rfl⟩))
    a (of_decide_eq_true hp) vs hv
def trPre (t : STr) : Bool := len36n t.2.2.2.2.1 && len36n t.2.2.2.2.2
end Go.AL
