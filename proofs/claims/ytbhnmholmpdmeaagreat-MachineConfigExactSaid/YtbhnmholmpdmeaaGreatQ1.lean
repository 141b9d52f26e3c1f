/-
  Layer 17: when a configuration is valid. By an AI agent.
-/
import Derived.Test.YtbhnmholmpdmeaaGreatQg0
namespace Go.AL
open Go.Proofs
set_option linter.unusedVariables false
set_option linter.unusedSimpArgs false
abbrev tSRn : List Ty := [.int .i64, .int .i64, .bool]
abbrev SRn := Int × Int × Bool
abbrev tSCf : List Ty := [.sl [.int .i64], .int .i64, .int .i64, .sl [.int .i64, .int .i64, .bool], .sl [.int .i64]]
abbrev SCf := (List (Int)) × Int × Int × (List (Int × Int × Bool)) × (List (Int))
def rgn (r : SRn) : Rg := (r.1, r.2.1)
noncomputable def C_rrr : Cfg := ⟨Tryz.prog, [], pmT [], 8, [], [], [], []⟩
theorem es_rrr : EsOk Tryz.prog [] [] [] := es_nil
def Lt_rrr : Nat → LD := ldT []
noncomputable def M_rrr (f : Nat) (a : SRn) : Option (Int × Int) := (runX (C_rrr) Lt_rrr (Kret Tryz.prog [.cell 2 78] [.g [.int .i64, .int .i64]]) f [.code (bodyOf Tryz.f29)] (initX [.g tSRn] a) : Option (ResT [.g [.int .i64, .int .i64]]))
theorem M_rrr_eq (f : Nat) (r : SRn) : M_rrr (f + 1) r =
    some (r.1, r.2.1) := by kernel_rfl
noncomputable def F_rrr : SRn → Int × Int
  | r => (r.1, r.2.1)
noncomputable def P_rrr : SRn → Bool
  | r => true
theorem rrr_auto : ∀ a : SRn, Rns (fun f => M_rrr f a) (P_rrr a) (F_rrr a)
  | r => ev_step (fun f => M_rrr_eq f _) ev_some
theorem rrr_P : ∀ a : SRn, (fun _ => true : SRn → Bool) a = true → P_rrr a = true := fun _ _ => rfl
theorem rrr_F : ∀ a : SRn, (fun _ => true : SRn → Bool) a = true → F_rrr a = rgn a := fun _ _ => rfl
theorem rrr_run : ∀ a, (fun _ => true : SRn → Bool) a = true → ∃ f, M_rrr f a = some ((rgn : SRn → Int × Int) a) := fun a h => by have h1 := rrr_auto a (rrr_P a h); rw [rrr_F a h] at h1; exact h1
noncomputable def E_rrr : Ent := ⟨29, [.g tSRn], [.g [.int .i64, .int .i64]], fun a => (fun _ => true : SRn → Bool) a, fun a => (rgn : SRn → Int × Int) a⟩
theorem E_rrr_ok : E_rrr.Ok Tryz.prog := fun a hp vs hv => (rrr_run a hp).elim fun f h => fnX_ok (C := C_rrr) (Lt := Lt_rrr) (fn := Tryz.f29) (rs := [.cell 2 78]) [.g tSRn] [.g [.int .i64, .int .i64]] mixed es_rrr Tryz.func29 rfl rfl rfl (by kernel_rfl) (by kernel_rfl) f h vs hv
noncomputable def C_crr : Cfg := ⟨Tryz.prog, [], pmT [], 8, [], [], [], []⟩
theorem es_crr : EsOk Tryz.prog [] [] [] := es_nil
def Lt_crr : Nat → LD := ldT []
noncomputable def M_crr (f : Nat) (a : SRn) : Option (Int × Int) := (runX (C_crr) Lt_crr (Kret Tryz.prog [.cell 2 78] [.g [.int .i64, .int .i64]]) f [.code (bodyOf Tryz.f32)] (initX [.g tSRn] a) : Option (ResT [.g [.int .i64, .int .i64]]))
theorem M_crr_eq (f : Nat) (r : SRn) : M_crr (f + 1) r =
    some (r.1, r.2.1) := by kernel_rfl
noncomputable def F_crr : SRn → Int × Int
  | r => (r.1, r.2.1)
noncomputable def P_crr : SRn → Bool
  | r => true
theorem crr_auto : ∀ a : SRn, Rns (fun f => M_crr f a) (P_crr a) (F_crr a)
  | r => ev_step (fun f => M_crr_eq f _) ev_some
theorem crr_P : ∀ a : SRn, (fun _ => true : SRn → Bool) a = true → P_crr a = true := fun _ _ => rfl
theorem crr_F : ∀ a : SRn, (fun _ => true : SRn → Bool) a = true → F_crr a = rgn a := fun _ _ => rfl
theorem crr_run : ∀ a, (fun _ => true : SRn → Bool) a = true → ∃ f, M_crr f a = some ((rgn : SRn → Int × Int) a) := fun a h => by have h1 := crr_auto a (crr_P a h); rw [crr_F a h] at h1; exact h1
noncomputable def E_crr : Ent := ⟨32, [.g tSRn], [.g [.int .i64, .int .i64]], fun a => (fun _ => true : SRn → Bool) a, fun a => (rgn : SRn → Int × Int) a⟩
theorem E_crr_ok : E_crr.Ok Tryz.prog := fun a hp vs hv => (crr_run a hp).elim fun f h => fnX_ok (C := C_crr) (Lt := Lt_crr) (fn := Tryz.f32) (rs := [.cell 2 78]) [.g tSRn] [.g [.int .i64, .int .i64]] mixed es_crr Tryz.func32 rfl rfl rfl (by kernel_rfl) (by kernel_rfl) f h vs hv
def rgS (c : SCf) : List SRn → Nat → Bool
  | [], _ => true
  | u :: r, i => valid (rgn u) && (decide (0 ≤ c.2.2.2.2.getD i 0) && (decide (c.2.2.2.2.getD i 0 < c.2.1) && ((c.2.2.2.1.take i).all (fun s => !overlaps (rgn u, rgn s)) && rgS c r (i + 1))))
def hdC (c : SCf) : Bool := decide (1 ≤ c.1.length) && (decide (c.1.length ≤ 32) && (decide (1 ≤ c.2.1) && (decide (c.2.1 ≤ c.1.length) && (decide (1 ≤ c.2.2.1) && (decide (c.2.2.1 ≤ 64) && (decide (c.2.2.2.1.length ≤ 16) && decide (c.2.2.2.2.length = c.2.2.2.1.length)))))))
def vcS (c : SCf) : Bool := hdC c && (c.1.all (fun w => w == 32 || w == 39) && rgS c c.2.2.2.1 0)
noncomputable def C_rvc : Cfg := ⟨Tryz.prog, [E_rrr, E_rvalid, E_rover], pmT [(13, ([(0, []), (1, []), (2, []), (3, []), (4, []), (5, []), (6, []), (7, []), (8, []), (9, []), (10, []), (11, []), (12, []), (13, []), (14, []), (15, []), (16, []), (17, []), (18, []), (19, []), (20, []), (21, []), (22, []), (23, []), (24, []), (25, [])], [(80, 105)])), (18, ([(0, []), (1, []), (2, []), (3, []), (4, []), (6, []), (7, []), (8, []), (9, []), (10, []), (5, []), (11, []), (12, [])], [(111, 123)]))], 124, [], [], [], []⟩
theorem es_rvc : EsOk Tryz.prog [E_rrr, E_rvalid, E_rover] [] [] := es_cons E_rrr_ok (es_cons E_rvalid_ok (es_cons E_rover_ok (es_nil)))
def Lt_rvc : Nat → LD := ldT [(0, ⟨[.box 1 1 29 5 tSCf, .c 3 (.int .i64)], [], 0⟩), (2, ⟨[.box 1 1 29 5 tSCf, .c 4 (.int .i64)], [], 0⟩), (4, ⟨[.box 1 1 29 5 tSCf, .c 4 (.int .i64), .c 5 (.int .i64)], [], 0⟩)]
noncomputable def M_rvc (f : Nat) (a : SCf) : Option (Bool) := (runX (C_rvc) Lt_rvc (Kret Tryz.prog [.tmp 2] [.v (.bool)]) f [.code (bodyOf Tryz.f11)] (initX [.g tSCf] a) : Option (ResT [.v (.bool)]))
noncomputable def L_rvc_0 (f : Nat) (x : SCf × Int) : Option (Bool) := (runX (C_rvc) Lt_rvc (Kret Tryz.prog [.tmp 2] [.v (.bool)]) f (headOf Tryz.f11 0) ((Lt_rvc 0).mk' x) : Option (ResT [.v (.bool)]))
noncomputable def L_rvc_2 (f : Nat) (x : SCf × Int) : Option (Bool) := (runX (C_rvc) Lt_rvc (Kret Tryz.prog [.tmp 2] [.v (.bool)]) f (headOf Tryz.f11 2) ((Lt_rvc 2).mk' x) : Option (ResT [.v (.bool)]))
noncomputable def L_rvc_4 (f : Nat) (x : SCf × Int × Int) : Option (Bool) := (runX (C_rvc) Lt_rvc (Kret Tryz.prog [.tmp 2] [.v (.bool)]) f (headOf Tryz.f11 4) ((Lt_rvc 4).mk' x) : Option (ResT [.v (.bool)]))
theorem M_rvc_eq (f : Nat) (c : SCf) : M_rvc (f + 1) c =
    bif decide ((↑(List.length c.1) : Int) < 1) then some false else bif decide ((↑(List.length c.1) : Int) > 32) then some false else bif decide (c.2.1 < 1) then some false else bif decide (c.2.1 > (↑(List.length c.1) : Int)) then some false else bif decide (c.2.2.1 < 1) then some false else bif decide (c.2.2.1 > 64) then some false else bif decide ((↑(List.length c.2.2.2.1) : Int) > 16) then some false else bif (↑(List.length c.2.2.2.2) : Int) != (↑(List.length c.2.2.2.1) : Int) then some false else L_rvc_0 f (c, 0) := by kernel_rfl
theorem L_rvc_0_eq (f : Nat) (c : SCf) (i : Int) : L_rvc_0 (f + 1) (c, i) =
    bif decide (i < (↑(List.length c.1) : Int)) then bif decide (0 ≤ i) && decide (i < (↑(List.length c.1) : Int)) then bif List.getD c.1 i.toNat 0 != 32 then bif decide (0 ≤ i) && decide (i < (↑(List.length c.1) : Int)) then bif List.getD c.1 i.toNat 0 != 39 then some false else L_rvc_0 f (c, IntKind.i64.wrap (i + 1)) else none else L_rvc_0 f (c, IntKind.i64.wrap (i + 1)) else none else L_rvc_2 f (c, 0) := by kernel_rfl
theorem L_rvc_2_eq (f : Nat) (c : SCf) (i : Int) : L_rvc_2 (f + 1) (c, i) =
    bif decide (i < (↑(List.length c.2.2.2.1) : Int)) then bif decide (0 ≤ i) && decide (i < (↑(List.length c.2.2.2.2) : Int)) then bif decide (List.getD c.2.2.2.2 i.toNat 0 < 0) then some false else bif decide (0 ≤ i) && decide (i < (↑(List.length c.2.2.2.2) : Int)) then bif decide (List.getD c.2.2.2.2 i.toNat 0 ≥ c.2.1) then some false else bif decide (0 ≤ i) && decide (i < (↑(List.length c.2.2.2.1) : Int)) then bif !valid (rgn (List.getD c.2.2.2.1 i.toNat (0, 0, false))) then some false else L_rvc_4 f (c, i, 0) else none else none else none else some true := by kernel_rfl
theorem L_rvc_4_eq (f : Nat) (c : SCf) (i : Int) (k : Int) : L_rvc_4 (f + 1) (c, i, k) =
    bif decide (k < i) then bif decide (0 ≤ i) && decide (i < (↑(List.length c.2.2.2.1) : Int)) then bif decide (0 ≤ k) && decide (k < (↑(List.length c.2.2.2.1) : Int)) then bif overlaps (rgn (List.getD c.2.2.2.1 i.toNat (0, 0, false)), rgn (List.getD c.2.2.2.1 k.toNat (0, 0, false))) then some false else L_rvc_4 f (c, i, IntKind.i64.wrap (k + 1)) else none else none else L_rvc_2 f (c, IntKind.i64.wrap (i + 1)) := by kernel_rfl
theorem rvc_4 {c : SCf} {i : Nat} (hi : i < c.2.2.2.1.length) (hl : c.2.2.2.1.length ≤ 16) {K : Bool} (hK : Rns (fun f => L_rvc_2 f (c, ((i + 1 : Nat) : Int))) true K) :
    ∀ n k, k + n = i → Rns (fun f => L_rvc_4 f (c, (i : Int), (k : Int))) true (((c.2.2.2.1.drop k).take n).all (fun s => !overlaps (rgn (c.2.2.2.1.getD i (0, 0, false)), rgn s)) && K)
  | 0, k, h => by
    have : k = i := by omega
    subst this
    refine ev_step (T := fun f => L_rvc_2 f (c, ((k + 1 : Nat) : Int))) (fun f => ?_) hK
    rw [L_rvc_4_eq, decide_eq_false (show ¬ (k : Int) < (k : Int) by omega), cond_false, i64_id (n := (k : Int) + 1) (by omega) (by omega)]
    rfl
  | n + 1, k, h => by
    have hk : k < c.2.2.2.1.length := by omega
    have ih := rvc_4 hi hl hK n (k + 1) (by omega)
    have e : c.2.2.2.1.drop k = c.2.2.2.1.getD k (0, 0, false) :: c.2.2.2.1.drop (k + 1) := by
      rw [List.drop_eq_getElem_cons hk, List.getD_eq_getElem?_getD, List.getElem?_eq_getElem hk]; rfl
    rw [e, List.take_succ_cons, List.all_cons]
    refine ev_step (T := fun f => bif overlaps (rgn (c.2.2.2.1.getD i (0, 0, false)), rgn (c.2.2.2.1.getD k (0, 0, false))) then some false else L_rvc_4 f (c, (i : Int), ((k + 1 : Nat) : Int))) (fun f => ?_) ?_
    · rw [L_rvc_4_eq, decide_eq_true (show (k : Int) < (i : Int) by omega), decide_eq_true (show (0 : Int) ≤ (i : Int) by omega), decide_eq_true (show (0 : Int) ≤ (k : Int) by omega), decide_eq_true (show (i : Int) < (c.2.2.2.1.length : Int) by omega), decide_eq_true (show (k : Int) < (c.2.2.2.1.length : Int) by omega), i64_id (n := (k : Int) + 1) (by omega) (by omega)]
      rfl
    · cases overlaps (rgn (c.2.2.2.1.getD i (0, 0, false)), rgn (c.2.2.2.1.getD k (0, 0, false)))
      · simpa using ih
      · exact ev_some
theorem rvc_2 {c : SCf} (hl : c.2.2.2.1.length ≤ 16) (ho : c.2.2.2.2.length = c.2.2.2.1.length) : ∀ (rest : List SRn) (i : Nat), c.2.2.2.1.drop i = rest → Rns (fun f => L_rvc_2 f (c, (i : Int))) true (rgS c rest i)
  | [], i, h => by
    have hi : c.2.2.2.1.length ≤ i := List.drop_eq_nil_iff.1 h
    refine ev_step (T := fun f => some true) (fun f => ?_) ev_some
    rw [L_rvc_2_eq, decide_eq_false (show ¬ (i : Int) < (c.2.2.2.1.length : Int) by omega)]
    rfl
  | u :: rest, i, h => by
    have hi : i < c.2.2.2.1.length := by
      by_cases hi : i < c.2.2.2.1.length
      · exact hi
      · rw [List.drop_eq_nil_of_le (by omega)] at h; cases h
    have e := h
    rw [List.drop_eq_getElem_cons hi] at e
    simp only [List.cons.injEq] at e
    have hu : c.2.2.2.1.getD i (0, 0, false) = u := by rw [List.getD_eq_getElem?_getD, List.getElem?_eq_getElem hi]; exact e.1
    have ih := rvc_2 hl ho rest (i + 1) e.2
    have h4 := rvc_4 hi hl ih i 0 (by omega)
    rw [hu, List.drop_zero] at h4
    refine ev_step (T := fun f => bif decide (c.2.2.2.2.getD i 0 < 0) then some false else bif decide (c.2.2.2.2.getD i 0 ≥ c.2.1) then some false else bif !valid (rgn u) then some false else L_rvc_4 f (c, (i : Int), 0)) (fun f => ?_) ?_
    · rw [L_rvc_2_eq, decide_eq_true (show (i : Int) < (c.2.2.2.1.length : Int) by omega), decide_eq_true (show (0 : Int) ≤ (i : Int) by omega), decide_eq_true (show (i : Int) < (c.2.2.2.2.length : Int) by omega), Int.toNat_natCast, hu]
      rfl
    · unfold rgS
      generalize c.2.2.2.2.getD i 0 = o
      by_cases h1 : o < 0
      · rw [decide_eq_true h1, decide_eq_false (show ¬ 0 ≤ o by omega)]
        simpa using (ev_some (x := false))
      rw [decide_eq_false h1, decide_eq_true (show 0 ≤ o by omega)]
      by_cases h2 : o ≥ c.2.1
      · rw [decide_eq_true h2, decide_eq_false (show ¬ o < c.2.1 by omega)]
        simpa using (ev_some (x := false))
      rw [decide_eq_false h2, decide_eq_true (show o < c.2.1 by omega)]
      cases valid (rgn u)
      · exact ev_some
      · exact h4
theorem rvc_0 {c : SCf} (hw : c.1.length ≤ 32) (hl : c.2.2.2.1.length ≤ 16) (ho : c.2.2.2.2.length = c.2.2.2.1.length) : ∀ (rest : List Int) (i : Nat), c.1.drop i = rest → Rns (fun f => L_rvc_0 f (c, (i : Int))) true (rest.all (fun w => w == 32 || w == 39) && rgS c c.2.2.2.1 0)
  | [], i, h => by
    have hi : c.1.length ≤ i := List.drop_eq_nil_iff.1 h
    refine ev_step (T := fun f => L_rvc_2 f (c, ((0 : Nat) : Int))) (fun f => ?_) (rvc_2 hl ho _ 0 rfl)
    rw [L_rvc_0_eq, decide_eq_false (show ¬ (i : Int) < (c.1.length : Int) by omega)]
    rfl
  | u :: rest, i, h => by
    have hi : i < c.1.length := by
      by_cases hi : i < c.1.length
      · exact hi
      · rw [List.drop_eq_nil_of_le (by omega)] at h; cases h
    have e := h
    rw [List.drop_eq_getElem_cons hi] at e
    simp only [List.cons.injEq] at e
    have hu : c.1.getD i 0 = u := by rw [List.getD_eq_getElem?_getD, List.getElem?_eq_getElem hi]; exact e.1
    have ih := rvc_0 hw hl ho rest (i + 1) e.2
    refine ev_step (T := fun f => bif u != 32 then bif u != 39 then some false else L_rvc_0 f (c, ((i + 1 : Nat) : Int)) else L_rvc_0 f (c, ((i + 1 : Nat) : Int))) (fun f => ?_) ?_
    · rw [L_rvc_0_eq, decide_eq_true (show (i : Int) < (c.1.length : Int) by omega), decide_eq_true (show (0 : Int) ≤ (i : Int) by omega), Int.toNat_natCast, hu, i64_id (n := (i : Int) + 1) (by omega) (by omega)]
      rfl
    · rw [List.all_cons]
      unfold bne
      cases h1 : u == 32
      · cases h2 : u == 39
        · exact ev_some
        · simpa using ih
      · simpa using ih
theorem hdC_iff {c : SCf} : hdC c = true ↔ 1 ≤ c.1.length ∧ c.1.length ≤ 32 ∧ 1 ≤ c.2.1 ∧ c.2.1 ≤ c.1.length ∧ 1 ≤ c.2.2.1 ∧ c.2.2.1 ≤ 64 ∧ c.2.2.2.1.length ≤ 16 ∧ c.2.2.2.2.length = c.2.2.2.1.length := by
  simp only [hdC, Bool.and_eq_true, decide_eq_true_eq]
theorem hd_run {c : SCf} {T : Nat → Option Bool} {p x : Bool} (h : hdC c = true → Rns T p x) : Rns (fun f => bif decide ((c.1.length : Int) < 1) then some false else bif decide ((c.1.length : Int) > 32) then some false else bif decide (c.2.1 < 1) then some false else bif decide (c.2.1 > (c.1.length : Int)) then some false else bif decide (c.2.2.1 < 1) then some false else bif decide (c.2.2.1 > 64) then some false else bif decide ((c.2.2.2.1.length : Int) > 16) then some false else bif (c.2.2.2.2.length : Int) != (c.2.2.2.1.length : Int) then some false else T f) (!hdC c || p) (hdC c && x) := by
  have no : hdC c = false → Rns (fun _ => some false) (!hdC c || p) (hdC c && x) := fun e => by rw [e]; exact ev_some
  have nn : ∀ q : Prop, (hdC c = true → q) → ¬ q → hdC c = false := fun q h hq => by
    cases hc : hdC c
    · rfl
    · exact absurd (h hc) hq
  by_cases h1 : (c.1.length : Int) < 1
  · rw [decide_eq_true h1]; exact no (nn _ (fun h => (hdC_iff.1 h).1) (by omega))
  by_cases h2 : (c.1.length : Int) > 32
  · rw [decide_eq_false h1, decide_eq_true h2]; exact no (nn _ (fun h => (hdC_iff.1 h).2.1) (by omega))
  by_cases h3 : c.2.1 < 1
  · rw [decide_eq_false h1, decide_eq_false h2, decide_eq_true h3]; exact no (nn _ (fun h => (hdC_iff.1 h).2.2.1) (by omega))
  by_cases h4 : c.2.1 > (c.1.length : Int)
  · rw [decide_eq_false h1, decide_eq_false h2, decide_eq_false h3, decide_eq_true h4]; exact no (nn _ (fun h => (hdC_iff.1 h).2.2.2.1) (by omega))
  by_cases h5 : c.2.2.1 < 1
  · rw [decide_eq_false h1, decide_eq_false h2, decide_eq_false h3, decide_eq_false h4, decide_eq_true h5]; exact no (nn _ (fun h => (hdC_iff.1 h).2.2.2.2.1) (by omega))
  by_cases h6 : c.2.2.1 > 64
  · rw [decide_eq_false h1, decide_eq_false h2, decide_eq_false h3, decide_eq_false h4, decide_eq_false h5, decide_eq_true h6]; exact no (nn _ (fun h => (hdC_iff.1 h).2.2.2.2.2.1) (by omega))
  by_cases h7 : (c.2.2.2.1.length : Int) > 16
  · rw [decide_eq_false h1, decide_eq_false h2, decide_eq_false h3, decide_eq_false h4, decide_eq_false h5, decide_eq_false h6, decide_eq_true h7]; exact no (nn _ (fun h => (hdC_iff.1 h).2.2.2.2.2.2.1) (by omega))
  rw [decide_eq_false h1, decide_eq_false h2, decide_eq_false h3, decide_eq_false h4, decide_eq_false h5, decide_eq_false h6, decide_eq_false h7]
  by_cases h8 : c.2.2.2.2.length = c.2.2.2.1.length
  · have hc : hdC c = true := hdC_iff.2 ⟨by omega, by omega, by omega, by omega, by omega, by omega, by omega, h8⟩
    rw [h8, hc]
    simpa using h hc
  · have e : ((c.2.2.2.2.length : Int) != (c.2.2.2.1.length : Int)) = true := by simpa using (by omega : ¬ (c.2.2.2.2.length : Int) = (c.2.2.2.1.length : Int))
    rw [e]
    exact no (nn _ (fun h => (hdC_iff.1 h).2.2.2.2.2.2.2) h8)
theorem rvc_run : ∀ c : SCf, (fun _ => true : SCf → Bool) c = true → ∃ f, M_rvc f c = some (vcS c) := fun c _ => by
  have h : Rns (fun f => M_rvc f c) (!hdC c || true) (hdC c && (c.1.all (fun w => w == 32 || w == 39) && rgS c c.2.2.2.1 0)) := ev_step (fun f => M_rvc_eq f c) (hd_run (c := c) (T := fun f => L_rvc_0 f (c, 0)) (p := true) (x := c.1.all (fun w => w == 32 || w == 39) && rgS c c.2.2.2.1 0) fun h => by
    obtain ⟨h1, h2, h3, h4, h5, h6, h7, h8⟩ := hdC_iff.1 h
    exact rvc_0 h2 h7 h8 c.1 0 rfl)
  exact h (by simp)
noncomputable def E_rvc : Ent := ⟨11, [.g tSCf], [.v (.bool)], fun a => (fun _ => true : SCf → Bool) a, fun a => (vcS : SCf → Bool) a⟩
theorem E_rvc_ok : E_rvc.Ok Tryz.prog := fun a hp vs hv => (rvc_run a hp).elim fun f h => fnX_ok (C := C_rvc) (Lt := Lt_rvc) (fn := Tryz.f11) (rs := [.tmp 2]) [.g tSCf] [.v (.bool)] mixed es_rvc Tryz.func11 rfl rfl rfl (by kernel_rfl) (by kernel_rfl) f h vs hv
noncomputable def C_cvc : Cfg := ⟨Tryz.prog, [E_crr, E_valid, E_over], pmT [(12, ([(0, []), (1, []), (2, []), (3, []), (4, []), (5, []), (6, []), (7, []), (8, []), (9, []), (10, []), (11, []), (12, []), (13, []), (14, []), (15, []), (16, []), (17, []), (18, []), (19, []), (20, []), (21, [])], [(79, 100)])), (17, ([(0, []), (2, []), (1, []), (3, []), (4, [])], [(110, 114)]))], 117, [], [], [], []⟩
theorem es_cvc : EsOk Tryz.prog [E_crr, E_valid, E_over] [] [] := es_cons E_crr_ok (es_cons E_valid_ok (es_cons E_over_ok (es_nil)))
def Lt_cvc : Nat → LD := ldT [(0, ⟨[.box 1 1 29 5 tSCf, .c 58 (.sl [.int .i64]), .c 59 (.int .i64), .c 60 (.int .i64)], [], 0⟩), (2, ⟨[.box 1 1 29 5 tSCf, .c 72 (.sl tSRn), .c 73 (.int .i64), .c 74 (.int .i64)], [], 0⟩), (4, ⟨[.box 1 1 29 5 tSCf, .box 6 6 51 3 tSRn, .c 72 (.sl tSRn), .c 73 (.int .i64), .c 74 (.int .i64), .c 104 (.sl tSRn), .c 105 (.int .i64), .c 106 (.int .i64)], [], 0⟩)]
noncomputable def M_cvc (f : Nat) (a : SCf) : Option (Bool) := (runX (C_cvc) Lt_cvc (Kret Tryz.prog [.tmp 2] [.v (.bool)]) f [.code (bodyOf Tryz.f12)] (initX [.g tSCf] a) : Option (ResT [.v (.bool)]))
noncomputable def L_cvc_0 (f : Nat) (x : SCf × (List (Int)) × Int × Int) : Option (Bool) := (runX (C_cvc) Lt_cvc (Kret Tryz.prog [.tmp 2] [.v (.bool)]) f (headOf Tryz.f12 0) ((Lt_cvc 0).mk' x) : Option (ResT [.v (.bool)]))
noncomputable def L_cvc_2 (f : Nat) (x : SCf × (List (SRn)) × Int × Int) : Option (Bool) := (runX (C_cvc) Lt_cvc (Kret Tryz.prog [.tmp 2] [.v (.bool)]) f (headOf Tryz.f12 2) ((Lt_cvc 2).mk' x) : Option (ResT [.v (.bool)]))
noncomputable def L_cvc_4 (f : Nat) (x : SCf × SRn × (List (SRn)) × Int × Int × (List (SRn)) × Int × Int) : Option (Bool) := (runX (C_cvc) Lt_cvc (Kret Tryz.prog [.tmp 2] [.v (.bool)]) f (headOf Tryz.f12 4) ((Lt_cvc 4).mk' x) : Option (ResT [.v (.bool)]))
theorem M_cvc_eq (f : Nat) (c : SCf) : M_cvc (f + 1) c =
    bif decide ((↑(List.length c.1) : Int) < 1) then some false else bif decide ((↑(List.length c.1) : Int) > 32) then some false else bif decide (c.2.1 < 1) then some false else bif decide (c.2.1 > (↑(List.length c.1) : Int)) then some false else bif decide (c.2.2.1 < 1) then some false else bif decide (c.2.2.1 > 64) then some false else bif decide ((↑(List.length c.2.2.2.1) : Int) > 16) then some false else bif (↑(List.length c.2.2.2.2) : Int) != (↑(List.length c.2.2.2.1) : Int) then some false else L_cvc_0 f (c, c.1, (↑(List.length c.1) : Int), 0) := by kernel_rfl
theorem L_cvc_0_eq (f : Nat) (c : SCf) (x58 : List (Int)) (x59 : Int) (x60 : Int) : L_cvc_0 (f + 1) (c, x58, x59, x60) =
    bif decide (x60 < x59) then bif decide (0 ≤ x60) && decide (x60 < (↑x58.length : Int)) then bif x58.getD x60.toNat 0 != 32 then bif x58.getD x60.toNat 0 != 39 then some false else L_cvc_0 f (c, x58, x59, IntKind.i64.wrap (x60 + 1)) else L_cvc_0 f (c, x58, x59, IntKind.i64.wrap (x60 + 1)) else none else L_cvc_2 f (c, c.2.2.2.1, (↑(List.length c.2.2.2.1) : Int), 0) := by kernel_rfl
theorem L_cvc_2_eq (f : Nat) (c : SCf) (x72 : List (SRn)) (x73 : Int) (x74 : Int) : L_cvc_2 (f + 1) (c, x72, x73, x74) =
    bif decide (x74 < x73) then bif decide (0 ≤ x74) && decide (x74 < (↑x72.length : Int)) then bif !valid (rgn (x72.getD x74.toNat (0, 0, false))) then some false else bif decide (0 ≤ x74) && decide (x74 < (↑(List.length c.2.2.2.2) : Int)) then bif decide (List.getD c.2.2.2.2 x74.toNat 0 < 0) then some false else bif decide (0 ≤ x74) && decide (x74 < (↑(List.length c.2.2.2.2) : Int)) then bif decide (List.getD c.2.2.2.2 x74.toNat 0 ≥ c.2.1) then some false else bif decide (0 ≤ x74) && decide (x74 ≤ (↑(List.length c.2.2.2.1) : Int)) then L_cvc_4 f (c, x72.getD x74.toNat (0, 0, false), x72, x73, x74, List.take x74.toNat c.2.2.2.1, (↑(List.take x74.toNat c.2.2.2.1).length : Int), 0) else none else none else none else none else some true := by kernel_rfl
theorem L_cvc_4_eq (f : Nat) (c : SCf) (r : SRn) (x72 : List (SRn)) (x73 : Int) (x74 : Int) (x104 : List (SRn)) (x105 : Int) (x106 : Int) : L_cvc_4 (f + 1) (c, r, x72, x73, x74, x104, x105, x106) =
    bif decide (x106 < x105) then bif decide (0 ≤ x106) && decide (x106 < (↑x104.length : Int)) then bif overlaps (rgn r, rgn (x104.getD x106.toNat (0, 0, false))) then some false else L_cvc_4 f (c, r, x72, x73, x74, x104, x105, IntKind.i64.wrap (x106 + 1)) else none else L_cvc_2 f (c, x72, x73, IntKind.i64.wrap (x74 + 1)) := by kernel_rfl
noncomputable def F_cvc_4 (K_2 : (SCf × (List (SRn)) × Int × Nat) → Bool) : List (SRn) → (SCf × SRn × (List (SRn)) × Int × Nat × (List (SRn)) × Int × Nat) → Bool
  | [], (c, r, x72, x73, x74, x104, x105, x106) => K_2 (c, x72, x73, x74 + 1)
  | uu :: rest, (c, r, x72, x73, x74, x104, x105, x106) => bif overlaps (rgn r, rgn uu) then false else F_cvc_4 K_2 rest (c, r, x72, x73, x74, x104, x105, x106 + 1)
noncomputable def P_cvc_4 (KP_2 : (SCf × (List (SRn)) × Int × Nat) → Bool) : List (SRn) → (SCf × SRn × (List (SRn)) × Int × Nat × (List (SRn)) × Int × Nat) → Bool
  | [], (c, r, x72, x73, x74, x104, x105, x106) => KP_2 (c, x72, x73, x74 + 1)
  | uu :: rest, (c, r, x72, x73, x74, x104, x105, x106) => bif overlaps (rgn r, rgn uu) then true else P_cvc_4 KP_2 rest (c, r, x72, x73, x74, x104, x105, x106 + 1)
theorem A_cvc_4 {K_2 : (SCf × (List (SRn)) × Int × Nat) → Bool} {KP_2 : (SCf × (List (SRn)) × Int × Nat) → Bool} {rest_2 : List (SRn)} (hK_2 : ∀ (c : SCf) (x72 : List (SRn)) (x73 : Int) (x74 : Nat) (hd : x72.drop x74 = rest_2) (hn : x73 = ((x72.length : Nat) : Int)) (hl : x72.length ≤ 1099511627776), Rns (fun f => L_cvc_2 f (c, x72, x73, ((x74 : Nat) : Int))) (KP_2 (c, x72, x73, x74)) (K_2 (c, x72, x73, x74))) : ∀ (rest : List (SRn)) (c : SCf) (r : SRn) (x72 : List (SRn)) (x73 : Int) (x74 : Nat) (x104 : List (SRn)) (x105 : Int) (x106 : Nat) (hd : x104.drop x106 = rest) (hn : x105 = ((x104.length : Nat) : Int)) (hl : x104.length ≤ 1099511627776) (hd_2 : x72.drop (x74 + 1) = rest_2) (hn_2 : x73 = ((x72.length : Nat) : Int)) (hl_2 : x72.length ≤ 1099511627776) (ht_2 : x74 < x72.length), Rns (fun f => L_cvc_4 f (c, r, x72, x73, ((x74 : Nat) : Int), x104, x105, ((x106 : Nat) : Int))) (P_cvc_4 KP_2 rest (c, r, x72, x73, x74, x104, x105, x106)) (F_cvc_4 K_2 rest (c, r, x72, x73, x74, x104, x105, x106))
  | [], c, r, x72, x73, x74, x104, x105, x106, hd, hn, hl, hd_2, hn_2, hl_2, ht_2 => ev_step (T := fun f => L_cvc_2 f (c, x72, x73, (↑(x74 + 1) : Int))) (fun f => (L_cvc_4_eq f _ _ _ _ _ _ _ _).trans (by simp only [ge_decn hn (drop_ge hd), ge0, Bool.and_self, Bool.true_and, cond_true, cond_false, List.length_set, wrap_succ ht_2 hl_2, lt_dec ht_2, getD_set ht_2, lt_decn hn_2 ht_2] <;> rfl)) (hK_2 _ _ _ _ (by first | exact hd_2 | exact drop_setS hd_2 | exact drop_setS (drop_setS hd_2)) (by first | exact hn_2 | simpa using hn_2) (by first | exact hl_2 | simpa using hl_2))
  | uu :: rest, c, r, x72, x73, x74, x104, x105, x106, hd, hn, hl, hd_2, hn_2, hl_2, ht_2 => ev_step (T := fun f => bif overlaps (rgn r, rgn uu) then some false else L_cvc_4 f (c, r, x72, x73, (↑x74 : Int), x104, x105, (↑(x106 + 1) : Int))) (fun f => (L_cvc_4_eq f _ _ _ _ _ _ _ _).trans (by simp only [lt_decn hn (drop_lt hd), lt_dec (drop_lt hd), drop_get hd, wrap_succ (drop_lt hd) hl, getD_set (drop_lt hd), ge0, Bool.and_self, Bool.true_and, cond_true, cond_false, List.length_set, wrap_succ ht_2 hl_2, lt_dec ht_2, getD_set ht_2, lt_decn hn_2 ht_2] <;> rfl)) (ev_bif ev_some (A_cvc_4 hK_2 rest _ _ _ _ _ _ _ _ (by first | exact drop_succ hd | exact drop_set hd | exact drop_setS (drop_set hd)) (by first | exact hn | simpa using hn) (by first | exact hl | simpa using hl) (by first | exact hd_2 | exact drop_setS hd_2 | exact drop_setS (drop_setS hd_2)) (by first | exact hn_2 | simpa using hn_2) (by first | exact hl_2 | simpa using hl_2) (by first | exact ht_2 | simpa using ht_2)))
noncomputable def F_cvc_2 : List (SRn) → (SCf × (List (SRn)) × Int × Nat) → Bool
  | [], (c, x72, x73, x74) => true
  | uu :: rest, (c, x72, x73, x74) => bif !valid (rgn uu) then false else bif decide (List.getD c.2.2.2.2 (↑x74 : Int).toNat 0 < 0) then false else bif decide (List.getD c.2.2.2.2 (↑x74 : Int).toNat 0 ≥ c.2.1) then false else F_cvc_4 (F_cvc_2 rest) (List.take (↑x74 : Int).toNat c.2.2.2.1) (c, uu, x72, x73, x74, List.take (↑x74 : Int).toNat c.2.2.2.1, (↑(List.take (↑x74 : Int).toNat c.2.2.2.1).length : Int), 0)
noncomputable def P_cvc_2 : List (SRn) → (SCf × (List (SRn)) × Int × Nat) → Bool
  | [], (c, x72, x73, x74) => true
  | uu :: rest, (c, x72, x73, x74) => bif !valid (rgn uu) then true else decide ((↑x74 : Int) < (↑(List.length c.2.2.2.2) : Int)) && bif decide (List.getD c.2.2.2.2 (↑x74 : Int).toNat 0 < 0) then true else decide ((↑x74 : Int) < (↑(List.length c.2.2.2.2) : Int)) && bif decide (List.getD c.2.2.2.2 (↑x74 : Int).toNat 0 ≥ c.2.1) then true else decide ((↑x74 : Int) ≤ (↑(List.length c.2.2.2.1) : Int)) && (decide ((List.take (↑x74 : Int).toNat c.2.2.2.1).length ≤ 1099511627776) && P_cvc_4 (P_cvc_2 rest) (List.take (↑x74 : Int).toNat c.2.2.2.1) (c, uu, x72, x73, x74, List.take (↑x74 : Int).toNat c.2.2.2.1, (↑(List.take (↑x74 : Int).toNat c.2.2.2.1).length : Int), 0))
theorem A_cvc_2 : ∀ (rest : List (SRn)) (c : SCf) (x72 : List (SRn)) (x73 : Int) (x74 : Nat) (hd : x72.drop x74 = rest) (hn : x73 = ((x72.length : Nat) : Int)) (hl : x72.length ≤ 1099511627776), Rns (fun f => L_cvc_2 f (c, x72, x73, ((x74 : Nat) : Int))) (P_cvc_2 rest (c, x72, x73, x74)) (F_cvc_2 rest (c, x72, x73, x74))
  | [], c, x72, x73, x74, hd, hn, hl => ev_step (T := fun f => some true) (fun f => (L_cvc_2_eq f _ _ _ _).trans (by simp only [ge_decn hn (drop_ge hd), ge0, Bool.and_self, Bool.true_and, cond_true, cond_false, List.length_set] <;> rfl)) ev_some
  | uu :: rest, c, x72, x73, x74, hd, hn, hl => ev_step (T := fun f => bif !valid (rgn uu) then some false else bif decide ((↑x74 : Int) < (↑(List.length c.2.2.2.2) : Int)) then bif decide (List.getD c.2.2.2.2 (↑x74 : Int).toNat 0 < 0) then some false else bif decide ((↑x74 : Int) < (↑(List.length c.2.2.2.2) : Int)) then bif decide (List.getD c.2.2.2.2 (↑x74 : Int).toNat 0 ≥ c.2.1) then some false else bif decide ((↑x74 : Int) ≤ (↑(List.length c.2.2.2.1) : Int)) then L_cvc_4 f (c, uu, x72, x73, (↑x74 : Int), List.take (↑x74 : Int).toNat c.2.2.2.1, (↑(List.take (↑x74 : Int).toNat c.2.2.2.1).length : Int), 0) else none else none else none) (fun f => (L_cvc_2_eq f _ _ _ _).trans (by simp only [lt_decn hn (drop_lt hd), lt_dec (drop_lt hd), drop_get hd, wrap_succ (drop_lt hd) hl, getD_set (drop_lt hd), ge0, Bool.and_self, Bool.true_and, cond_true, cond_false, List.length_set] <;> rfl)) (ev_bif ev_some (ev_chk (ev_bif ev_some (ev_chk (ev_bif ev_some (ev_chk (ev_and fun hh => A_cvc_4 (A_cvc_2 rest) _ _ _ _ _ _ _ _ _ rfl (by first | rfl | simp) (of_decide_eq_true hh) (by first | exact drop_succ hd | exact drop_set hd | exact drop_setS (drop_set hd)) (by first | exact hn | simpa using hn) (by first | exact hl | simpa using hl) (by first | exact drop_lt hd | simpa using drop_lt hd))))))))
noncomputable def F_cvc_0 : List (Int) → (SCf × (List (Int)) × Int × Nat) → Bool
  | [], (c, x58, x59, x60) => F_cvc_2 c.2.2.2.1 (c, c.2.2.2.1, (↑(List.length c.2.2.2.1) : Int), 0)
  | uu :: rest, (c, x58, x59, x60) => bif uu != 32 then bif uu != 39 then false else F_cvc_0 rest (c, x58, x59, x60 + 1) else F_cvc_0 rest (c, x58, x59, x60 + 1)
noncomputable def P_cvc_0 : List (Int) → (SCf × (List (Int)) × Int × Nat) → Bool
  | [], (c, x58, x59, x60) => decide (List.length c.2.2.2.1 ≤ 1099511627776) && P_cvc_2 c.2.2.2.1 (c, c.2.2.2.1, (↑(List.length c.2.2.2.1) : Int), 0)
  | uu :: rest, (c, x58, x59, x60) => bif uu != 32 then bif uu != 39 then true else P_cvc_0 rest (c, x58, x59, x60 + 1) else P_cvc_0 rest (c, x58, x59, x60 + 1)
theorem A_cvc_0 : ∀ (rest : List (Int)) (c : SCf) (x58 : List (Int)) (x59 : Int) (x60 : Nat) (hd : x58.drop x60 = rest) (hn : x59 = ((x58.length : Nat) : Int)) (hl : x58.length ≤ 1099511627776), Rns (fun f => L_cvc_0 f (c, x58, x59, ((x60 : Nat) : Int))) (P_cvc_0 rest (c, x58, x59, x60)) (F_cvc_0 rest (c, x58, x59, x60))
  | [], c, x58, x59, x60, hd, hn, hl => ev_step (T := fun f => L_cvc_2 f (c, c.2.2.2.1, (↑(List.length c.2.2.2.1) : Int), 0)) (fun f => (L_cvc_0_eq f _ _ _ _).trans (by simp only [ge_decn hn (drop_ge hd), ge0, Bool.and_self, Bool.true_and, cond_true, cond_false, List.length_set] <;> rfl)) (ev_and fun hh => A_cvc_2 _ _ _ _ _ rfl (by first | rfl | simp) (of_decide_eq_true hh))
  | uu :: rest, c, x58, x59, x60, hd, hn, hl => ev_step (T := fun f => bif uu != 32 then bif uu != 39 then some false else L_cvc_0 f (c, x58, x59, (↑(x60 + 1) : Int)) else L_cvc_0 f (c, x58, x59, (↑(x60 + 1) : Int))) (fun f => (L_cvc_0_eq f _ _ _ _).trans (by simp only [lt_decn hn (drop_lt hd), lt_dec (drop_lt hd), drop_get hd, wrap_succ (drop_lt hd) hl, getD_set (drop_lt hd), ge0, Bool.and_self, Bool.true_and, cond_true, cond_false, List.length_set] <;> rfl)) (ev_bif (ev_bif ev_some (A_cvc_0 rest _ _ _ _ (by first | exact drop_succ hd | exact drop_set hd | exact drop_setS (drop_set hd)) (by first | exact hn | simpa using hn) (by first | exact hl | simpa using hl))) (A_cvc_0 rest _ _ _ _ (by first | exact drop_succ hd | exact drop_set hd | exact drop_setS (drop_set hd)) (by first | exact hn | simpa using hn) (by first | exact hl | simpa using hl)))
noncomputable def F_cvc : SCf → Bool
  | c => bif decide ((↑(List.length c.1) : Int) < 1) then false else bif decide ((↑(List.length c.1) : Int) > 32) then false else bif decide (c.2.1 < 1) then false else bif decide (c.2.1 > (↑(List.length c.1) : Int)) then false else bif decide (c.2.2.1 < 1) then false else bif decide (c.2.2.1 > 64) then false else bif decide ((↑(List.length c.2.2.2.1) : Int) > 16) then false else bif (↑(List.length c.2.2.2.2) : Int) != (↑(List.length c.2.2.2.1) : Int) then false else F_cvc_0 c.1 (c, c.1, (↑(List.length c.1) : Int), 0)
noncomputable def P_cvc : SCf → Bool
  | c => bif decide ((↑(List.length c.1) : Int) < 1) then true else bif decide ((↑(List.length c.1) : Int) > 32) then true else bif decide (c.2.1 < 1) then true else bif decide (c.2.1 > (↑(List.length c.1) : Int)) then true else bif decide (c.2.2.1 < 1) then true else bif decide (c.2.2.1 > 64) then true else bif decide ((↑(List.length c.2.2.2.1) : Int) > 16) then true else bif (↑(List.length c.2.2.2.2) : Int) != (↑(List.length c.2.2.2.1) : Int) then true else decide (List.length c.1 ≤ 1099511627776) && P_cvc_0 c.1 (c, c.1, (↑(List.length c.1) : Int), 0)
theorem cvc_auto : ∀ a : SCf, Rns (fun f => M_cvc f a) (P_cvc a) (F_cvc a)
  | c => ev_step (fun f => M_cvc_eq f _) (ev_bif ev_some (ev_bif ev_some (ev_bif ev_some (ev_bif ev_some (ev_bif ev_some (ev_bif ev_some (ev_bif ev_some (ev_bif ev_some (ev_and fun hh => A_cvc_0 _ _ _ _ _ rfl (by first | rfl | simp) (of_decide_eq_true hh))))))))))
theorem cvc_4 {c : SCf} {u : SRn} {x : List SRn} {n : Int} {i : Nat} {K KP : SCf × List SRn × Int × Nat → Bool} : ∀ (rest y : List SRn) (m : Int) (k : Nat), F_cvc_4 K rest (c, u, x, n, i, y, m, k) = (rest.all (fun s => !overlaps (rgn u, rgn s)) && K (c, x, n, i + 1)) ∧ (KP (c, x, n, i + 1) = true → P_cvc_4 KP rest (c, u, x, n, i, y, m, k) = true)
  | [], y, m, k => ⟨rfl, fun h => h⟩
  | s :: rest, y, m, k => by
    obtain ⟨i1, i2⟩ := cvc_4 (K := K) (KP := KP) rest y m (k + 1)
    simp only [F_cvc_4, P_cvc_4, List.all_cons]
    cases overlaps (rgn u, rgn s)
    · exact ⟨by simpa using i1, i2⟩
    · exact ⟨rfl, fun _ => rfl⟩
theorem cvc_2 {c : SCf} (hl : c.2.2.2.1.length ≤ 16) (ho : c.2.2.2.2.length = c.2.2.2.1.length) : ∀ (rest : List SRn) (i : Nat) (x : List SRn) (n : Int), i + rest.length = c.2.2.2.1.length → F_cvc_2 rest (c, x, n, i) = rgS c rest i ∧ P_cvc_2 rest (c, x, n, i) = true
  | [], i, x, n, h => ⟨rfl, rfl⟩
  | u :: rest, i, x, n, h => by
    simp only [List.length_cons] at h
    obtain ⟨i1, i2⟩ := cvc_2 hl ho rest (i + 1) x n (by omega)
    obtain ⟨j1, j2⟩ := cvc_4 (c := c) (u := u) (x := x) (n := n) (i := i) (K := F_cvc_2 rest) (KP := P_cvc_2 rest) (List.take i c.2.2.2.1) (List.take i c.2.2.2.1) ((List.take i c.2.2.2.1).length : Int) 0
    simp only [F_cvc_2, P_cvc_2, rgS, Int.toNat_natCast, j1, j2 i2, i1, decide_eq_true (show (i : Int) < (c.2.2.2.2.length : Int) by omega), decide_eq_true (show (i : Int) ≤ (c.2.2.2.1.length : Int) by omega), decide_eq_true (show (List.take i c.2.2.2.1).length ≤ 1099511627776 by rw [List.length_take]; omega), Bool.true_and]
    by_cases h1 : c.2.2.2.2.getD i 0 < 0
    · simp only [decide_eq_true h1, decide_eq_false (show ¬ 0 ≤ c.2.2.2.2.getD i 0 by omega)]
      cases valid (rgn u) <;> exact ⟨rfl, rfl⟩
    by_cases h2 : c.2.2.2.2.getD i 0 ≥ c.2.1
    · simp only [decide_eq_false h1, decide_eq_true h2, decide_eq_true (show 0 ≤ c.2.2.2.2.getD i 0 by omega), decide_eq_false (show ¬ c.2.2.2.2.getD i 0 < c.2.1 by omega)]
      cases valid (rgn u) <;> exact ⟨rfl, rfl⟩
    simp only [decide_eq_false h1, decide_eq_false h2, decide_eq_true (show 0 ≤ c.2.2.2.2.getD i 0 by omega), decide_eq_true (show c.2.2.2.2.getD i 0 < c.2.1 by omega)]
    cases valid (rgn u) <;> exact ⟨rfl, rfl⟩
theorem cvc_0 {c : SCf} (hl : c.2.2.2.1.length ≤ 16) (ho : c.2.2.2.2.length = c.2.2.2.1.length) : ∀ (rest x : List Int) (n : Int) (i : Nat), F_cvc_0 rest (c, x, n, i) = (rest.all (fun w => w == 32 || w == 39) && rgS c c.2.2.2.1 0) ∧ P_cvc_0 rest (c, x, n, i) = true
  | [], x, n, i => by
    obtain ⟨i1, i2⟩ := cvc_2 hl ho c.2.2.2.1 0 c.2.2.2.1 (c.2.2.2.1.length : Int) (by omega)
    simp only [F_cvc_0, P_cvc_0, i1, i2, decide_eq_true (show c.2.2.2.1.length ≤ 1099511627776 by omega)]
    exact ⟨rfl, rfl⟩
  | u :: rest, x, n, i => by
    obtain ⟨i1, i2⟩ := cvc_0 hl ho rest x n (i + 1)
    simp only [F_cvc_0, P_cvc_0, i1, i2, List.all_cons]
    unfold bne
    cases u == 32 <;> cases u == 39 <;> exact ⟨rfl, rfl⟩
theorem cvc_all (c : SCf) : F_cvc c = vcS c ∧ P_cvc c = true := by
  have key : ∀ {F P : Bool}, F = (c.1.all (fun w => w == 32 || w == 39) && rgS c c.2.2.2.1 0) → True := fun _ => trivial
  cases hc : hdC c with
  | true =>
    obtain ⟨h1, h2, h3, h4, h5, h6, h7, h8⟩ := hdC_iff.1 hc
    obtain ⟨i1, i2⟩ := cvc_0 h7 h8 c.1 c.1 (c.1.length : Int) 0
    simp only [F_cvc, P_cvc, i1, i2, vcS, hc, decide_eq_false (show ¬ (c.1.length : Int) < 1 by omega), decide_eq_false (show ¬ (c.1.length : Int) > 32 by omega), decide_eq_false (show ¬ c.2.1 < 1 by omega), decide_eq_false (show ¬ c.2.1 > (c.1.length : Int) by omega), decide_eq_false (show ¬ c.2.2.1 < 1 by omega), decide_eq_false (show ¬ c.2.2.1 > 64 by omega), decide_eq_false (show ¬ (c.2.2.2.1.length : Int) > 16 by omega), h8, bne_self_eq_false, decide_eq_true (show c.1.length ≤ 1099511627776 by omega), cond_false]
    exact ⟨rfl, rfl⟩
  | false =>
    have h := hd_run (c := c) (T := fun _ => none) (p := true) (x := true) (fun h => by rw [hc] at h; cases h)
    rw [hc] at h
    obtain ⟨f, hf⟩ := h rfl
    have e : vcS c = false := by simp [vcS, hc]
    rw [e]
    simp only [F_cvc, P_cvc]
    simp only at hf
    cases h1 : decide ((c.1.length : Int) < 1) <;> rw [h1] at hf <;> try exact ⟨rfl, rfl⟩
    cases h2 : decide ((c.1.length : Int) > 32) <;> rw [h2] at hf <;> try exact ⟨rfl, rfl⟩
    cases h3 : decide (c.2.1 < 1) <;> rw [h3] at hf <;> try exact ⟨rfl, rfl⟩
    cases h4 : decide (c.2.1 > (c.1.length : Int)) <;> rw [h4] at hf <;> try exact ⟨rfl, rfl⟩
    cases h5 : decide (c.2.2.1 < 1) <;> rw [h5] at hf <;> try exact ⟨rfl, rfl⟩
    cases h6 : decide (c.2.2.1 > 64) <;> rw [h6] at hf <;> try exact ⟨rfl, rfl⟩
    cases h7 : decide ((c.2.2.2.1.length : Int) > 16) <;> rw [h7] at hf <;> try exact ⟨rfl, rfl⟩
    cases h8 : ((c.2.2.2.2.length : Int) != (c.2.2.2.1.length : Int)) <;> rw [h8] at hf <;> try exact ⟨rfl, rfl⟩
    simp at hf
theorem cvc_P : ∀ a : SCf, (fun _ => true : SCf → Bool) a = true → P_cvc a = true := fun a _ => (cvc_all a).2
theorem cvc_F : ∀ a : SCf, (fun _ => true : SCf → Bool) a = true → F_cvc a = vcS a := fun a _ => (cvc_all a).1
theorem cvc_run : ∀ a, (fun _ => true : SCf → Bool) a = true → ∃ f, M_cvc f a = some ((vcS : SCf → Bool) a) := fun a h => by have h1 := cvc_auto a (cvc_P a h); rw [cvc_F a h] at h1; exact h1
noncomputable def E_cvc : Ent := ⟨12, [.g tSCf], [.v (.bool)], fun a => (fun _ => true : SCf → Bool) a, fun a => (vcS : SCf → Bool) a⟩
theorem E_cvc_ok : E_cvc.Ok Tryz.prog := fun a hp vs hv => (cvc_run a hp).elim fun f h => fnX_ok (C := C_cvc) (Lt := Lt_cvc) (fn := Tryz.f12) (rs := [.tmp 2]) [.g tSCf] [.v (.bool)] mixed es_cvc Tryz.func12 rfl rfl rfl (by kernel_rfl) (by kernel_rfl) f h vs hv
end Go.AL
