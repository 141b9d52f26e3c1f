/-
  Contracts of Find (memrange's and the reference's), copied, SameRanges, awake. By an AI agent.
-/
import Derived.Test.YtoidpheldjllaaaMr2
namespace Go.AL
open Go.Proofs
set_option linter.unusedVariables false
set_option linter.unusedSimpArgs false
def findL (bits : Int) : List Rg → Rg × Bool
  | [] => ((0, 0), false)
  | x :: l => bif decide (bits ≤ x.2) then ((x.1, bits), true) else findL bits l
def findS (a : Rg × List Rg × Int) : Rg × Bool := bif decide (a.2.2 < 6) then ((0, 0), false) else findL a.2.2 (free (a.1, a.2.1))
def smallF3 (a : Rg × List Rg × Int) : Bool := decide (a.2.1.length ≤ 1000)
noncomputable def C_find : Cfg := ⟨Try.prog, [E_free], pmT [], 31, []⟩
theorem es_find : EsOk Try.prog [E_free] [] := es_cons E_free_ok (es_nil)
def Lt_find : Nat → LD := ldT [(0, ⟨[.c 2 (.int .i64), .box 6 6 23 2 tRg, .list 15 999 23 2 tRg, .c 16 (.int .i64), .c 17 (.int .i64)], []⟩)]
noncomputable def M_find (f : Nat) (a : Rg × (List (Rg)) × Int) : Option (Rg × Bool) := (runX (C_find) Lt_find (Kret Try.prog [.cell 6 23, .tmp 7] [.g tRg, .v (.bool)]) f [.code (bodyOf Try.f30)] (initX [.g tRg, .rd tRg, .c (.int .i64)] a) : Option (ResT [.g tRg, .v (.bool)]))
noncomputable def L_find_0 (f : Nat) (x : Int × Rg × (List (Rg)) × Int × Int) : Option (Rg × Bool) := (runX (C_find) Lt_find (Kret Try.prog [.cell 6 23, .tmp 7] [.g tRg, .v (.bool)]) f (headOf Try.f30 0) ((Lt_find 0).mk' x) : Option (ResT [.g tRg, .v (.bool)]))
theorem M_find_eq (f : Nat) (r : Rg) (used : List (Rg)) (bits : Int) : M_find (f + 1) (r, used, bits) =
    bif decide (bits < 6) then some ((0, 0), false) else bif smallF ((r.1, r.2), used) then L_find_0 f (bits, (0, 0), free ((r.1, r.2), used), (↑(free ((r.1, r.2), used)).length : Int), 0) else none := by kernel_rfl
theorem L_find_0_eq (f : Nat) (bits : Int) (x6 : Rg) (x15 : List (Rg)) (x16 : Int) (x17 : Int) : L_find_0 (f + 1) (bits, x6, x15, x16, x17) =
    bif decide (x17 < x16) then bif decide (0 ≤ x17) && decide (x17 < (↑x15.length : Int)) then bif decide ((x15.getD x17.toNat (0, 0)).2 ≥ bits) then some (((x15.getD x17.toNat (0, 0)).1, bits), true) else L_find_0 f (bits, (x6.1, x6.2), x15, x16, IntKind.i64.wrap (x17 + 1)) else none else some ((0, 0), false) := by kernel_rfl
theorem find_loop (bits : Int) (x6 : Rg) : ∀ (rest pre : List Rg), (pre ++ rest).length ≤ 1099511627776 →
    ∃ f, L_find_0 f (bits, x6, pre ++ rest, (((pre ++ rest).length : Nat) : Int), ((pre.length : Nat) : Int)) = some (findL bits rest)
  | [], pre, hl => by
    refine ⟨1, (L_find_0_eq 0 _ _ _ _ _).trans ?_⟩
    rw [lt_end]; rfl
  | u :: rest, pre, hl => by
    have hl' : pre.length < 1099511627776 := by simp at hl; omega
    obtain ⟨f, hf⟩ := find_loop bits x6 rest (pre ++ [u]) (by simpa using hl)
    refine ⟨f + 1, (L_find_0_eq f _ _ _ _ _).trans ?_⟩
    simp only [lt_mid, ge0, Bool.and_self, cond_true, getD_mid, i64_succ u (by omega : pre.length < 4611686018427387904), findL, ge_iff_le]
    cases decide (bits ≤ u.2)
    · rw [app_mid pre u rest]; exact hf
    · rfl
theorem find_run : ∀ a, smallF3 a = true → ∃ f, M_find f a = some (findS a) := by
  rintro ⟨r, used, bits⟩ h
  have h : used.length ≤ 1000 := of_decide_eq_true h
  obtain ⟨f, hf⟩ := find_loop bits (0, 0) (free (r, used)) [] (by simpa using free_len (r, used))
  refine ⟨f + 1, (M_find_eq f _ _ _).trans ?_⟩
  simp only [findS]
  cases decide (bits < 6)
  · rw [show smallF ((r.1, r.2), used) = true from decide_eq_true h]
    simpa using hf
  · rfl
noncomputable def E_find : Ent := ⟨30, [.g tRg, .rd tRg, .c (.int .i64)], [.g tRg, .v (.bool)], fun a => (smallF3 : Rg × (List (Rg)) × Int → Bool) a, fun a => (findS : Rg × (List (Rg)) × Int → Rg × Bool) a⟩
theorem E_find_ok : E_find.Ok Try.prog := fun a hp vs hv => (find_run a hp).elim fun f h => fnX_ok (C := C_find) (Lt := Lt_find) (fn := Try.f30) (rs := [.cell 6 23, .tmp 7]) [.g tRg, .rd tRg, .c (.int .i64)] [.g tRg, .v (.bool)] mixed es_find Try.func30 rfl rfl rfl (by kernel_rfl) (by kernel_rfl) f h vs hv
noncomputable def C_rfind : Cfg := ⟨Try.prog, [E_rfree], pmT [], 38, []⟩
theorem es_rfind : EsOk Try.prog [E_rfree] [] := es_cons E_rfree_ok (es_nil)
def Lt_rfind : Nat → LD := ldT [(0, ⟨[.c 2 (.int .i64), .box 6 6 23 2 tRg, .list 8 999 23 2 tRg, .c 9 (.int .i64)], []⟩)]
noncomputable def M_rfind (f : Nat) (a : Rg × (List (Rg)) × Int) : Option (Rg × Bool) := (runX (C_rfind) Lt_rfind (Kret Try.prog [.cell 6 23, .tmp 7] [.g tRg, .v (.bool)]) f [.code (bodyOf Try.f31)] (initX [.g tRg, .rd tRg, .c (.int .i64)] a) : Option (ResT [.g tRg, .v (.bool)]))
noncomputable def L_rfind_0 (f : Nat) (x : Int × Rg × (List (Rg)) × Int) : Option (Rg × Bool) := (runX (C_rfind) Lt_rfind (Kret Try.prog [.cell 6 23, .tmp 7] [.g tRg, .v (.bool)]) f (headOf Try.f31 0) ((Lt_rfind 0).mk' x) : Option (ResT [.g tRg, .v (.bool)]))
theorem M_rfind_eq (f : Nat) (r : Rg) (used : List (Rg)) (bits : Int) : M_rfind (f + 1) (r, used, bits) =
    bif smallF ((r.1, r.2), used) then L_rfind_0 f (bits, (0, 0), free ((r.1, r.2), used), 0) else none := by kernel_rfl
theorem L_rfind_0_eq (f : Nat) (bits : Int) (x6 : Rg) (l : List (Rg)) (i : Int) : L_rfind_0 (f + 1) (bits, x6, l, i) =
    bif decide (i < (↑l.length : Int)) then bif decide (bits ≥ 6) then bif decide (0 ≤ i) && decide (i < (↑l.length : Int)) then bif decide ((l.getD i.toNat (0, 0)).2 ≥ bits) then bif decide (0 ≤ i) && decide (i < (↑l.length : Int)) then some (((l.getD i.toNat (0, 0)).1, bits), true) else none else L_rfind_0 f (bits, (x6.1, x6.2), l, IntKind.i64.wrap (i + 1)) else none else some ((0, 0), false) else some ((0, 0), false) := by kernel_rfl
theorem rfind_loop (bits : Int) (h6 : 6 ≤ bits) (x6 : Rg) : ∀ (rest pre : List Rg), (pre ++ rest).length ≤ 1099511627776 →
    ∃ f, L_rfind_0 f (bits, x6, pre ++ rest, ((pre.length : Nat) : Int)) = some (findL bits rest)
  | [], pre, hl => by
    refine ⟨1, (L_rfind_0_eq 0 _ _ _ _).trans ?_⟩
    rw [lt_end]; rfl
  | u :: rest, pre, hl => by
    have hl' : pre.length < 1099511627776 := by simp at hl; omega
    obtain ⟨f, hf⟩ := rfind_loop bits h6 x6 rest (pre ++ [u]) (by simpa using hl)
    refine ⟨f + 1, (L_rfind_0_eq f _ _ _ _).trans ?_⟩
    have d6 : decide (bits ≥ 6) = true := decide_eq_true h6
    simp only [lt_mid, ge0, Bool.and_self, cond_true, getD_mid, i64_succ u (by omega : pre.length < 4611686018427387904), findL, d6]
    simp only [ge_iff_le]
    cases decide (bits ≤ u.2)
    · rw [app_mid pre u rest]; exact hf
    · rfl
theorem rfind_run : ∀ a, smallF3 a = true → ∃ f, M_rfind f a = some (findS a) := by
  rintro ⟨r, used, bits⟩ h
  have h : used.length ≤ 1000 := of_decide_eq_true h
  have hs : smallF ((r.1, r.2), used) = true := decide_eq_true h
  by_cases h6 : bits < 6
  · refine ⟨2, (M_rfind_eq 1 _ _ _).trans ?_⟩
    rw [hs]
    simp only [cond_true]
    refine (L_rfind_0_eq 0 _ _ _ _).trans ?_
    simp only [findS, decide_eq_true h6, cond_true, show decide (bits ≥ 6) = false from decide_eq_false (by omega), cond_false]
    cases decide ((0 : Int) < ((free ((r.1, r.2), used)).length : Nat)) <;> rfl
  · obtain ⟨f, hf⟩ := rfind_loop bits (by omega) (0, 0) (free (r, used)) [] (by simpa using free_len (r, used))
    refine ⟨f + 1, (M_rfind_eq f _ _ _).trans ?_⟩
    rw [hs]
    simp only [findS, decide_eq_false h6, cond_false]
    simpa using hf
noncomputable def E_rfind : Ent := ⟨31, [.g tRg, .rd tRg, .c (.int .i64)], [.g tRg, .v (.bool)], fun a => (smallF3 : Rg × (List (Rg)) × Int → Bool) a, fun a => (findS : Rg × (List (Rg)) × Int → Rg × Bool) a⟩
theorem E_rfind_ok : E_rfind.Ok Try.prog := fun a hp vs hv => (rfind_run a hp).elim fun f h => fnX_ok (C := C_rfind) (Lt := Lt_rfind) (fn := Try.f31) (rs := [.cell 6 23, .tmp 7]) [.g tRg, .rd tRg, .c (.int .i64)] [.g tRg, .v (.bool)] mixed es_rfind Try.func31 rfl rfl rfl (by kernel_rfl) (by kernel_rfl) f h vs hv
def len40 (l : List Rg) : Bool := decide (l.length ≤ 1099511627776)
noncomputable def C_copied : Cfg := ⟨Try.prog, [], pmT [], 5, []⟩
theorem es_copied : EsOk Try.prog [] [] := es_nil
def Lt_copied : Nat → LD := ldT []
noncomputable def M_copied (f : Nat) (a : (List (Rg))) : Option ((List (Rg))) := (runX (C_copied) Lt_copied (Kret Try.prog [.tmp 2] [.o 23 2 tRg]) f [.code (bodyOf Try.f28)] (initX [.rd tRg] a) : Option (ResT [.o 23 2 tRg]))
theorem M_copied_eq (f : Nat) (l : List (Rg)) : M_copied (f + 1) l =
    bif decide (l.length * 16 ≤ 140737488355328) then some l else none := by kernel_rfl
theorem copied_run : ∀ a, len40 a = true → ∃ f, M_copied f a = some a := by
  intro a h
  have h : a.length ≤ 1099511627776 := of_decide_eq_true h
  refine ⟨1, (M_copied_eq 0 _).trans ?_⟩
  rw [bif_pos (by omega)]
noncomputable def E_copied : Ent := ⟨28, [.rd tRg], [.o 23 2 tRg], fun a => (len40 : (List (Rg)) → Bool) a, fun a => (fun a => a : (List (Rg)) → (List (Rg))) a⟩
theorem E_copied_ok : E_copied.Ok Try.prog := fun a hp vs hv => (copied_run a hp).elim fun f h => fnX_ok (C := C_copied) (Lt := Lt_copied) (fn := Try.f28) (rs := [.tmp 2]) [.rd tRg] [.o 23 2 tRg] mixed es_copied Try.func28 rfl rfl rfl (by kernel_rfl) (by kernel_rfl) f h vs hv
def len40b (a : List Rg × List Rg) : Bool := decide (a.1.length ≤ 1099511627776)
def sameL : List Rg → List Rg → Bool
  | [], [] => true
  | x :: l, y :: m => bif (x.1 == y.1 && x.2 == y.2) then sameL l m else false
  | _, _ => false
theorem same_refl : ∀ l : List Rg, sameL l l = true
  | [] => rfl
  | x :: l => by simp [sameL, same_refl l]
noncomputable def C_same : Cfg := ⟨Try.prog, [], pmT [(6, ([(0, []), (1, []), (2, []), (3, []), (4, []), (5, []), (6, []), (7, []), (8, [])], [(17, 25)]))], 26, []⟩
theorem es_same : EsOk Try.prog [] [] := es_nil
def Lt_same : Nat → LD := ldT [(0, ⟨[.rd 0 tRg, .rd 1 tRg, .c 5 (.int .i64)], []⟩)]
noncomputable def M_same (f : Nat) (a : (List (Rg)) × (List (Rg))) : Option (Bool) := (runX (C_same) Lt_same (Kret Try.prog [.tmp 4] [.v (.bool)]) f [.code (bodyOf Try.f26)] (initX [.rd tRg, .rd tRg] a) : Option (ResT [.v (.bool)]))
noncomputable def L_same_0 (f : Nat) (x : (List (Rg)) × (List (Rg)) × Int) : Option (Bool) := (runX (C_same) Lt_same (Kret Try.prog [.tmp 4] [.v (.bool)]) f (headOf Try.f26 0) ((Lt_same 0).mk' x) : Option (ResT [.v (.bool)]))
theorem M_same_eq (f : Nat) (a : List (Rg)) (b : List (Rg)) : M_same (f + 1) (a, b) =
    bif (↑a.length : Int) != (↑b.length : Int) then some false else L_same_0 f (a, b, 0) := by kernel_rfl
theorem L_same_0_eq (f : Nat) (a : List (Rg)) (b : List (Rg)) (i : Int) : L_same_0 (f + 1) (a, b, i) =
    bif decide (i < (↑a.length : Int)) then bif decide (0 ≤ i) && decide (i < (↑a.length : Int)) then bif decide (0 ≤ i) && decide (i < (↑b.length : Int)) then bif !((a.getD i.toNat (0, 0)).1 == (b.getD i.toNat (0, 0)).1 && ((a.getD i.toNat (0, 0)).2 == (b.getD i.toNat (0, 0)).2 && true)) then some false else L_same_0 f (a, b, IntKind.i64.wrap (i + 1)) else none else none else some true := by kernel_rfl
theorem same_loop : ∀ (r1 r2 p1 p2 : List Rg), (p1 ++ r1).length ≤ 1099511627776 → r1.length = r2.length → p1.length = p2.length →
    ∃ f, L_same_0 f (p1 ++ r1, p2 ++ r2, ((p1.length : Nat) : Int)) = some (sameL r1 r2)
  | [], [], p1, p2, hl, e1, e2 => by
    refine ⟨1, (L_same_0_eq 0 _ _ _).trans ?_⟩
    rw [lt_end]; rfl
  | [], v :: r2, p1, p2, hl, e1, e2 => by simp at e1
  | u :: r1, [], p1, p2, hl, e1, e2 => by simp at e1
  | u :: r1, v :: r2, p1, p2, hl, e1, e2 => by
    have hl' : p1.length < 1099511627776 := by simp at hl; omega
    obtain ⟨f, hf⟩ := same_loop r1 r2 (p1 ++ [u]) (p2 ++ [v]) (by simpa using hl) (by simpa using e1) (by simpa using e2)
    refine ⟨f + 1, (L_same_0_eq f _ _ _).trans ?_⟩
    have g1 := lt_mid p2 v r2; rw [← e2] at g1
    have g2 := getD_mid p2 v r2 (0, 0); rw [← e2] at g2
    simp only [lt_mid, ge0, Bool.and_self, cond_true, getD_mid, i64_succ u (by omega : p1.length < 4611686018427387904), sameL, g1, g2, Bool.and_true]
    rw [app_mid p1 u r1, app_mid p2 v r2]
    cases (u.1 == v.1 && u.2 == v.2)
    · rfl
    · exact hf
theorem sameL_len : ∀ {a b : List Rg}, sameL a b = true → a.length = b.length
  | [], [], _ => rfl
  | [], _ :: _, h => by simp [sameL] at h
  | _ :: _, [], h => by simp [sameL] at h
  | x :: l, y :: m, h => by
    have : sameL l m = true := by
      simp only [sameL] at h
      cases e : (x.1 == y.1 && x.2 == y.2) <;> rw [e] at h
      · cases h
      · exact h
    simp [sameL_len this]
theorem same_run : ∀ a, len40b a = true → ∃ f, M_same f a = some (sameL a.1 a.2) := by
  rintro ⟨a, b⟩ h
  have h : a.length ≤ 1099511627776 := of_decide_eq_true h
  by_cases e : a.length = b.length
  · obtain ⟨f, hf⟩ := same_loop a b [] [] (by simpa using h) e rfl
    refine ⟨f + 1, (M_same_eq f _ _).trans ?_⟩
    rw [show (((a.length : Nat) : Int) != ((b.length : Nat) : Int)) = false by simp [e]]
    simpa using hf
  · refine ⟨1, (M_same_eq 0 _ _).trans ?_⟩
    rw [show (((a.length : Nat) : Int) != ((b.length : Nat) : Int)) = true by simp; omega]
    cases hs : sameL a b
    · rfl
    · exact absurd (sameL_len hs) e
noncomputable def E_same : Ent := ⟨26, [.rd tRg, .rd tRg], [.v (.bool)], fun a => (len40b : (List (Rg)) × (List (Rg)) → Bool) a, fun a => (fun a => sameL a.1 a.2 : (List (Rg)) × (List (Rg)) → Bool) a⟩
theorem E_same_ok : E_same.Ok Try.prog := fun a hp vs hv => (same_run a hp).elim fun f h => fnX_ok (C := C_same) (Lt := Lt_same) (fn := Try.f26) (rs := [.tmp 4]) [.rd tRg, .rd tRg] [.v (.bool)] mixed es_same Try.func26 rfl rfl rfl (by kernel_rfl) (by kernel_rfl) f h vs hv
noncomputable def C_awake : Cfg := ⟨Try.prog, [E_free, E_find, E_valid], pmT [], 37, []⟩
theorem es_awake : EsOk Try.prog [E_free, E_find, E_valid] [] := es_cons E_free_ok (es_cons E_find_ok (es_cons E_valid_ok (es_nil)))
def Lt_awake : Nat → LD := ldT []
noncomputable def M_awake (f : Nat) (a : Unit) : Option (Bool) := (runX (C_awake) Lt_awake (Kret Try.prog [.tmp 0] [.v (.bool)]) f [.code (bodyOf Try.f25)] (initX [] a) : Option (ResT [.v (.bool)]))
theorem M_awake_eq (f : Nat)  : M_awake (f + 1) () =
    some (valid ((findS ((0, 8), [(64, 6)], 6)).1.1, (findS ((0, 8), [(64, 6)], 6)).1.2)) := by kernel_rfl
theorem awake_run : ∀ a, (fun _ => true) a = true → ∃ f, M_awake f a = some true := fun a _ => ⟨1, by kernel_rfl⟩
noncomputable def E_awake : Ent := ⟨25, [], [.v (.bool)], fun a => (fun _ => true : Unit → Bool) a, fun a => (fun _ => true : Unit → Bool) a⟩
theorem E_awake_ok : E_awake.Ok Try.prog := fun a hp vs hv => (awake_run a hp).elim fun f h => fnX_ok (C := C_awake) (Lt := Lt_awake) (fn := Try.f25) (rs := [.tmp 0]) [] [.v (.bool)] mixed es_awake Try.func25 rfl rfl rfl (by kernel_rfl) (by kernel_rfl) f h vs hv
end Go.AL
