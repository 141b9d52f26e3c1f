/-
  Layer 16: page tables: places, formats, indices. By an AI agent.
-/
import Derived.Test.YtcpdakiailaneaaWg1
namespace Go.AL
open Go.Proofs
set_option linter.unusedVariables false
set_option linter.unusedSimpArgs false
abbrev tSMp : List Ty := [.int .i64, .int .i64, .int .i64, .int .i64, .int .i64, .int .i64]
abbrev SMp := Int × Int × Int × Int × Int × Int
abbrev tSPT : List Ty := [.int .i64, .int .i64, .int .i64, .sl [.int .i64, .int .i64, .int .i64, .int .i64, .int .i64, .int .i64]]
abbrev SPT := Int × Int × Int × (List (Int × Int × Int × Int × Int × Int))
abbrev tSTr : List Ty := [.int .i64, .int .i64, .int .i64, .int .i64, .sl [.int .i64, .int .i64, .int .i64], .sl [.int .i64]]
abbrev STr := Int × Int × Int × Int × (List (Int × Int × Int)) × (List (Int))
def place (a : Int × Int) : Int := bif decide (a.2 < 1) then 0 else a.1 % a.2
def findI {α : Type} (p : α → Bool) : List α → Int → Int
  | [], _ => -1
  | u :: r, k => bif p u then k else findI p r (k + 1)
theorem findI_lt {α : Type} (p : α → Bool) : ∀ (l : List α) (k : Int), 0 ≤ k → findI p l k < k + l.length
  | [], k, h => by simp only [findI, List.length_nil]; omega
  | u :: r, k, h => by
    have := findI_lt p r (k + 1) (by omega)
    simp only [findI, List.length_cons]
    cases p u
    · simp only [cond_false]; omega
    · simp only [cond_true]; omega
noncomputable def C_hasInt : Cfg := ⟨Try.prog, [], pmT [], 18, [], []⟩
theorem es_hasInt : EsOk Try.prog [] [] := es_nil
def Lt_hasInt : Nat → LD := ldT [(0, ⟨[.rd 0 [.int .i64], .c 1 (.int .i64), .c 5 (.int .i64)], []⟩)]
noncomputable def M_hasInt (f : Nat) (a : (List (Int)) × Int) : Option (Bool) := (runX (C_hasInt) Lt_hasInt (Kret Try.prog [.tmp 4] [.v (.bool)]) f [.code (bodyOf Try.f31)] (initX [.rd [.int .i64], .c (.int .i64)] a) : Option (ResT [.v (.bool)]))
noncomputable def L_hasInt_0 (f : Nat) (x : (List (Int)) × Int × Int) : Option (Bool) := (runX (C_hasInt) Lt_hasInt (Kret Try.prog [.tmp 4] [.v (.bool)]) f (headOf Try.f31 0) ((Lt_hasInt 0).mk' x) : Option (ResT [.v (.bool)]))
theorem M_hasInt_eq (f : Nat) (l : List (Int)) (v : Int) : M_hasInt (f + 1) (l, v) =
    L_hasInt_0 f (l, v, 0) := by kernel_rfl
theorem L_hasInt_0_eq (f : Nat) (l : List (Int)) (n : Int) (i : Int) : L_hasInt_0 (f + 1) (l, n, i) =
    bif decide (i < (↑l.length : Int)) then bif decide (0 ≤ i) && decide (i < (↑l.length : Int)) then bif l.getD i.toNat 0 == n then some true else L_hasInt_0 f (l, n, IntKind.i64.wrap (i + 1)) else none else some false := by kernel_rfl
noncomputable def F_hasInt_0 : List (Int) → ((List (Int)) × Int × Nat) → Bool
  | [], (l, n, i) => false
  | uu :: rest, (l, n, i) => bif uu == n then true else F_hasInt_0 rest (l, n, i + 1)
noncomputable def P_hasInt_0 : List (Int) → ((List (Int)) × Int × Nat) → Bool
  | [], (l, n, i) => true
  | uu :: rest, (l, n, i) => bif uu == n then true else P_hasInt_0 rest (l, n, i + 1)
theorem A_hasInt_0 : ∀ (rest : List (Int)) (l : List (Int)) (n : Int) (i : Nat) (hd : l.drop i = rest) (hl : l.length ≤ 1099511627776), Rns (fun f => L_hasInt_0 f (l, n, ((i : Nat) : Int))) (P_hasInt_0 rest (l, n, i)) (F_hasInt_0 rest (l, n, i))
  | [], l, n, i, hd, hl => ev_step (T := fun f => some false) (fun f => (L_hasInt_0_eq f _ _ _).trans (by simp only [ge_dec (drop_ge hd), ge0, Bool.and_self, Bool.true_and, cond_true, cond_false, List.length_set] <;> rfl)) ev_some
  | uu :: rest, l, n, i, hd, hl => ev_step (T := fun f => bif uu == n then some true else L_hasInt_0 f (l, n, (↑(i + 1) : Int))) (fun f => (L_hasInt_0_eq f _ _ _).trans (by simp only [lt_dec (drop_lt hd), drop_get hd, wrap_succ (drop_lt hd) hl, getD_set (drop_lt hd), ge0, Bool.and_self, Bool.true_and, cond_true, cond_false, List.length_set] <;> rfl)) (ev_bif ev_some (A_hasInt_0 rest _ _ _ (by first | exact drop_succ hd | exact drop_set hd | exact drop_setS (drop_set hd)) (by first | exact hl | simpa using hl)))
noncomputable def F_hasInt : ((List (Int)) × Int) → Bool
  | (l, v) => F_hasInt_0 l (l, v, 0)
noncomputable def P_hasInt : ((List (Int)) × Int) → Bool
  | (l, v) => decide (l.length ≤ 1099511627776) && P_hasInt_0 l (l, v, 0)
theorem hasInt_auto : ∀ a : (List (Int)) × Int, Rns (fun f => M_hasInt f a) (P_hasInt a) (F_hasInt a)
  | (l, v) => ev_step (fun f => M_hasInt_eq f _ _) (ev_and fun hh => A_hasInt_0 _ _ _ _ rfl (of_decide_eq_true hh))
theorem hasInt_0P (v : Int) : ∀ (rest l : List Int) (k : Nat), P_hasInt_0 rest (l, v, k) = true
  | [], l, k => rfl
  | u :: r, l, k => by simp only [P_hasInt_0]; rw [hasInt_0P v r]; simp
theorem hasInt_0F (v : Int) : ∀ (rest l : List Int) (k : Nat), F_hasInt_0 rest (l, v, k) = memD v rest
  | [], l, k => rfl
  | u :: r, l, k => by
    simp only [F_hasInt_0, beqI]; rw [hasInt_0F v r, memD_cons]
    cases decide (u = v) <;> rfl
theorem hasInt_P : ∀ a : List Int × Int, len40n a.1 = true → P_hasInt a = true := fun a h => by simp only [P_hasInt, hasInt_0P, Bool.and_true]; exact h
theorem hasInt_F : ∀ a : List Int × Int, len40n a.1 = true → F_hasInt a = memD a.2 a.1 := fun a h => by simp only [F_hasInt, hasInt_0F]
theorem hasInt_run : ∀ a, (fun a => len40n a.1 : (List (Int)) × Int → Bool) a = true → ∃ f, M_hasInt f a = some ((fun a => memD a.2 a.1 : (List (Int)) × Int → Bool) a) := fun a h => by have h1 := hasInt_auto a (hasInt_P a h); rw [hasInt_F a h] at h1; exact h1
noncomputable def E_hasInt : Ent := ⟨31, [.rd [.int .i64], .c (.int .i64)], [.v (.bool)], fun a => (fun a => len40n a.1 : (List (Int)) × Int → Bool) a, fun a => (fun a => memD a.2 a.1 : (List (Int)) × Int → Bool) a⟩
theorem E_hasInt_ok : E_hasInt.Ok Try.prog := fun a hp vs hv => (hasInt_run a hp).elim fun f h => fnX_ok (C := C_hasInt) (Lt := Lt_hasInt) (fn := Try.f31) (rs := [.tmp 4]) [.rd [.int .i64], .c (.int .i64)] [.v (.bool)] mixed es_hasInt Try.func31 rfl rfl rfl (by kernel_rfl) (by kernel_rfl) f h vs hv
noncomputable def C_sints : Cfg := ⟨Try.prog, [], pmT [(6, ([(0, []), (1, []), (2, []), (3, []), (4, []), (5, []), (6, []), (7, []), (8, [])], [(17, 25)]))], 26, [], []⟩
theorem es_sints : EsOk Try.prog [] [] := es_nil
def Lt_sints : Nat → LD := ldT [(0, ⟨[.rd 0 [.int .i64], .rd 1 [.int .i64], .c 5 (.int .i64)], []⟩)]
noncomputable def M_sints (f : Nat) (a : (List (Int)) × (List (Int))) : Option (Bool) := (runX (C_sints) Lt_sints (Kret Try.prog [.tmp 4] [.v (.bool)]) f [.code (bodyOf Try.f23)] (initX [.rd [.int .i64], .rd [.int .i64]] a) : Option (ResT [.v (.bool)]))
noncomputable def L_sints_0 (f : Nat) (x : (List (Int)) × (List (Int)) × Int) : Option (Bool) := (runX (C_sints) Lt_sints (Kret Try.prog [.tmp 4] [.v (.bool)]) f (headOf Try.f23 0) ((Lt_sints 0).mk' x) : Option (ResT [.v (.bool)]))
theorem M_sints_eq (f : Nat) (a : List (Int)) (b : List (Int)) : M_sints (f + 1) (a, b) =
    bif (↑a.length : Int) != (↑b.length : Int) then some false else L_sints_0 f (a, b, 0) := by kernel_rfl
theorem L_sints_0_eq (f : Nat) (a : List (Int)) (b : List (Int)) (i : Int) : L_sints_0 (f + 1) (a, b, i) =
    bif decide (i < (↑a.length : Int)) then bif decide (0 ≤ i) && decide (i < (↑a.length : Int)) then bif decide (0 ≤ i) && decide (i < (↑b.length : Int)) then bif a.getD i.toNat 0 != b.getD i.toNat 0 then some false else L_sints_0 f (a, b, IntKind.i64.wrap (i + 1)) else none else none else some true := by kernel_rfl
noncomputable def F_sints_0 : List (Int) → ((List (Int)) × (List (Int)) × Nat) → Bool
  | [], (a, b, i) => true
  | uu :: rest, (a, b, i) => bif uu != b.getD (↑i : Int).toNat 0 then false else F_sints_0 rest (a, b, i + 1)
noncomputable def P_sints_0 : List (Int) → ((List (Int)) × (List (Int)) × Nat) → Bool
  | [], (a, b, i) => true
  | uu :: rest, (a, b, i) => decide ((↑i : Int) < (↑b.length : Int)) && bif uu != b.getD (↑i : Int).toNat 0 then true else P_sints_0 rest (a, b, i + 1)
theorem A_sints_0 : ∀ (rest : List (Int)) (a : List (Int)) (b : List (Int)) (i : Nat) (hd : a.drop i = rest) (hl : a.length ≤ 1099511627776), Rns (fun f => L_sints_0 f (a, b, ((i : Nat) : Int))) (P_sints_0 rest (a, b, i)) (F_sints_0 rest (a, b, i))
  | [], a, b, i, hd, hl => ev_step (T := fun f => some true) (fun f => (L_sints_0_eq f _ _ _).trans (by simp only [ge_dec (drop_ge hd), ge0, Bool.and_self, Bool.true_and, cond_true, cond_false, List.length_set] <;> rfl)) ev_some
  | uu :: rest, a, b, i, hd, hl => ev_step (T := fun f => bif decide ((↑i : Int) < (↑b.length : Int)) then bif uu != b.getD (↑i : Int).toNat 0 then some false else L_sints_0 f (a, b, (↑(i + 1) : Int)) else none) (fun f => (L_sints_0_eq f _ _ _).trans (by simp only [lt_dec (drop_lt hd), drop_get hd, wrap_succ (drop_lt hd) hl, getD_set (drop_lt hd), ge0, Bool.and_self, Bool.true_and, cond_true, cond_false, List.length_set] <;> rfl)) (ev_chk (ev_bif ev_some (A_sints_0 rest _ _ _ (by first | exact drop_succ hd | exact drop_set hd | exact drop_setS (drop_set hd)) (by first | exact hl | simpa using hl))))
noncomputable def F_sints : ((List (Int)) × (List (Int))) → Bool
  | (a, b) => bif (↑a.length : Int) != (↑b.length : Int) then false else F_sints_0 a (a, b, 0)
noncomputable def P_sints : ((List (Int)) × (List (Int))) → Bool
  | (a, b) => bif (↑a.length : Int) != (↑b.length : Int) then true else decide (a.length ≤ 1099511627776) && P_sints_0 a (a, b, 0)
theorem sints_auto : ∀ a : (List (Int)) × (List (Int)), Rns (fun f => M_sints f a) (P_sints a) (F_sints a)
  | (a, b) => ev_step (fun f => M_sints_eq f _ _) (ev_bif ev_some (ev_and fun hh => A_sints_0 _ _ _ _ rfl (of_decide_eq_true hh)))
theorem sints_0 : ∀ (r a b t : List Int) (k : Nat), b.drop k = t → r.length = t.length → F_sints_0 r (a, b, k) = decide (r = t) ∧ P_sints_0 r (a, b, k) = true := by
  refine same_loop F_sints_0 P_sints_0 (fun _ _ _ => ⟨rfl, rfl⟩) fun u r a b k v t h => ?_
  simp only [F_sints_0, P_sints_0, drop_get h, lt_dec (drop_lt h), bneI, Bool.true_and]
  constructor
  · by_cases e : u = v
    · subst e; simp
    · simp [e]
  · intro h; rw [h]; simp
theorem sints_P : ∀ a : List Int × List Int, len40n a.1 = true → P_sints a = true := fun a h => by
  simp only [P_sints, len_bne]
  by_cases e : a.1.length = a.2.length
  · rw [(sints_0 a.1 a.1 a.2 a.2 0 rfl e).2]; simp [e]; rw [← e]; exact of_decide_eq_true h
  · simp [e]
theorem sints_F : ∀ a : List Int × List Int, len40n a.1 = true → F_sints a = decide (a.1 = a.2) := fun a h => by
  simp only [F_sints, len_bne]
  by_cases e : a.1.length = a.2.length
  · rw [(sints_0 a.1 a.1 a.2 a.2 0 rfl e).1]; simp [e]
  · have : ¬ a.1 = a.2 := fun h => e (by rw [h])
    simp [e, this]
theorem sints_run : ∀ a, (fun a => len40n a.1 : (List (Int)) × (List (Int)) → Bool) a = true → ∃ f, M_sints f a = some ((fun a => decide (a.1 = a.2) : (List (Int)) × (List (Int)) → Bool) a) := fun a h => by have h1 := sints_auto a (sints_P a h); rw [sints_F a h] at h1; exact h1
noncomputable def E_sints : Ent := ⟨23, [.rd [.int .i64], .rd [.int .i64]], [.v (.bool)], fun a => (fun a => len40n a.1 : (List (Int)) × (List (Int)) → Bool) a, fun a => (fun a => decide (a.1 = a.2) : (List (Int)) × (List (Int)) → Bool) a⟩
theorem E_sints_ok : E_sints.Ok Try.prog := fun a hp vs hv => (sints_run a hp).elim fun f h => fnX_ok (C := C_sints) (Lt := Lt_sints) (fn := Try.f23) (rs := [.tmp 4]) [.rd [.int .i64], .rd [.int .i64]] [.v (.bool)] mixed es_sints Try.func23 rfl rfl rfl (by kernel_rfl) (by kernel_rfl) f h vs hv
def geoS (w : Int) : Int × Int × Int × Bool := bif decide (w = 32) then (2, 10, 4, true) else bif decide (w = 39) then (3, 9, 8, true) else (0, 0, 0, false)
noncomputable def C_geom : Cfg := ⟨Try.prog, [], pmT [], 11, [], []⟩
theorem es_geom : EsOk Try.prog [] [] := es_nil
def Lt_geom : Nat → LD := ldT []
noncomputable def M_geom (f : Nat) (a : Int) : Option (Int × Int × Int × Bool) := (runX (C_geom) Lt_geom (Kret Try.prog [.tmp 2, .tmp 3, .tmp 4, .tmp 5] [.v (.int .i64), .v (.int .i64), .v (.int .i64), .v (.bool)]) f [.code (bodyOf Try.f62)] (initX [.c (.int .i64)] a) : Option (ResT [.v (.int .i64), .v (.int .i64), .v (.int .i64), .v (.bool)]))
theorem M_geom_eq (f : Nat) (width : Int) : M_geom (f + 1) width =
    bif width == 32 then some (2, 10, 4, true) else bif width == 39 then some (3, 9, 8, true) else some (0, 0, 0, false) := by kernel_rfl
noncomputable def F_geom : Int → Int × Int × Int × Bool
  | width => bif width == 32 then (2, 10, 4, true) else bif width == 39 then (3, 9, 8, true) else (0, 0, 0, false)
noncomputable def P_geom : Int → Bool
  | width => true
theorem geom_auto : ∀ a : Int, Rns (fun f => M_geom f a) (P_geom a) (F_geom a)
  | width => ev_step (fun f => M_geom_eq f _) (ev_bift ev_some (ev_bift ev_some ev_some))
theorem geom_P : ∀ a, (fun _ => true) a = true → P_geom a = true := fun a h => rfl
theorem geom_F : ∀ a, (fun _ => true) a = true → F_geom a = geoS a := fun a h => by simp only [F_geom, geoS, beqI]
theorem geom_run : ∀ a, (fun _ => true : Int → Bool) a = true → ∃ f, M_geom f a = some ((geoS : Int → Int × Int × Int × Bool) a) := fun a h => by have h1 := geom_auto a (geom_P a h); rw [geom_F a h] at h1; exact h1
noncomputable def E_geom : Ent := ⟨62, [.c (.int .i64)], [.v (.int .i64), .v (.int .i64), .v (.int .i64), .v (.bool)], fun a => (fun _ => true : Int → Bool) a, fun a => (geoS : Int → Int × Int × Int × Bool) a⟩
theorem E_geom_ok : E_geom.Ok Try.prog := fun a hp vs hv => (geom_run a hp).elim fun f h => fnX_ok (C := C_geom) (Lt := Lt_geom) (fn := Try.f62) (rs := [.tmp 2, .tmp 3, .tmp 4, .tmp 5]) [.c (.int .i64)] [.v (.int .i64), .v (.int .i64), .v (.int .i64), .v (.bool)] mixed es_geom Try.func62 rfl rfl rfl (by kernel_rfl) (by kernel_rfl) f h vs hv
def palS (b : Int) : Bool := decide (b ≥ 0) && (decide (b < 1099511627776) && decide (Int.tmod b 4096 = 0))
noncomputable def C_pal : Cfg := ⟨Try.prog, [], pmT [], 14, [], []⟩
theorem es_pal : EsOk Try.prog [] [] := es_nil
def Lt_pal : Nat → LD := ldT []
noncomputable def M_pal (f : Nat) (a : Int) : Option (Bool) := (runX (C_pal) Lt_pal (Kret Try.prog [.tmp 2] [.v (.bool)]) f [.code (bodyOf Try.f108)] (initX [.c (.int .i64)] a) : Option (ResT [.v (.bool)]))
theorem M_pal_eq (f : Nat) (base : Int) : M_pal (f + 1) base =
    bif decide (base ≥ 0) then bif decide (base < 1099511627776) then some (base.tmod 4096 == 0) else some false else some false := by kernel_rfl
noncomputable def F_pal : Int → Bool
  | base => bif decide (base ≥ 0) then bif decide (base < 1099511627776) then base.tmod 4096 == 0 else false else false
noncomputable def P_pal : Int → Bool
  | base => true
theorem pal_auto : ∀ a : Int, Rns (fun f => M_pal f a) (P_pal a) (F_pal a)
  | base => ev_step (fun f => M_pal_eq f _) (ev_bift (ev_bift ev_some ev_some) ev_some)
theorem pal_P : ∀ a, (fun _ => true) a = true → P_pal a = true := fun a h => rfl
theorem pal_F : ∀ a, (fun _ => true) a = true → F_pal a = palS a := fun a h => by
  simp only [F_pal, palS, beqI]; cases decide (a ≥ 0) <;> cases decide (a < 1099511627776) <;> rfl
theorem pal_run : ∀ a, (fun _ => true : Int → Bool) a = true → ∃ f, M_pal f a = some ((palS : Int → Bool) a) := fun a h => by have h1 := pal_auto a (pal_P a h); rw [pal_F a h] at h1; exact h1
noncomputable def E_pal : Ent := ⟨108, [.c (.int .i64)], [.v (.bool)], fun a => (fun _ => true : Int → Bool) a, fun a => (palS : Int → Bool) a⟩
theorem E_pal_ok : E_pal.Ok Try.prog := fun a hp vs hv => (pal_run a hp).elim fun f h => fnX_ok (C := C_pal) (Lt := Lt_pal) (fn := Try.f108) (rs := [.tmp 2]) [.c (.int .i64)] [.v (.bool)] mixed es_pal Try.func108 rfl rfl rfl (by kernel_rfl) (by kernel_rfl) f h vs hv
def ftS (ts : List SPT) (base : Int) : Int := findI (fun t => decide (t.1 = base)) ts 0
def fmS (l : List SMp) (index : Int) : Int := findI (fun m => decide (m.1 = index)) l 0
noncomputable def C_top : Cfg := ⟨Try.prog, [], pmT [], 2, [], []⟩
theorem es_top : EsOk Try.prog [] [] := es_nil
def Lt_top : Nat → LD := ldT []
noncomputable def M_top (f : Nat) (a : Unit) : Option (SCp) := (runX (C_top) Lt_top (Kret Try.prog [.cell 0 25] [.g tSCp]) f [.code (bodyOf Try.f19)] (initX [] a) : Option (ResT [.g tSCp]))
theorem M_top_eq (f : Nat)  : M_top (f + 1) () =
    some (3, 4096, 12, 7, 32, 1, false) := by kernel_rfl
noncomputable def F_top : Unit → SCp
  | () => (3, 4096, 12, 7, 32, 1, false)
noncomputable def P_top : Unit → Bool
  | () => true
theorem top_auto : ∀ a : Unit, Rns (fun f => M_top f a) (P_top a) (F_top a)
  | () => ev_step (fun f => M_top_eq f ) ev_some
theorem top_P : ∀ a, (fun _ => true) a = true → P_top a = true := fun a h => rfl
theorem top_F : ∀ a, (fun _ => true) a = true → F_top a = (fun _ => ((3, 4096, 12, 7, 32, 1, false) : SCp)) a := fun a h => rfl
theorem top_run : ∀ a, (fun _ => true : Unit → Bool) a = true → ∃ f, M_top f a = some ((fun _ => ((3, 4096, 12, 7, 32, 1, false) : SCp) : Unit → SCp) a) := fun a h => by have h1 := top_auto a (top_P a h); rw [top_F a h] at h1; exact h1
noncomputable def E_top : Ent := ⟨19, [], [.g tSCp], fun a => (fun _ => true : Unit → Bool) a, fun a => (fun _ => ((3, 4096, 12, 7, 32, 1, false) : SCp) : Unit → SCp) a⟩
theorem E_top_ok : E_top.Ok Try.prog := fun a hp vs hv => (top_run a hp).elim fun f h => fnX_ok (C := C_top) (Lt := Lt_top) (fn := Try.f19) (rs := [.cell 0 25]) [] [.g tSCp] mixed es_top Try.func19 rfl rfl rfl (by kernel_rfl) (by kernel_rfl) f h vs hv
noncomputable def C_low : Cfg := ⟨Try.prog, [], pmT [], 2, [], []⟩
theorem es_low : EsOk Try.prog [] [] := es_nil
def Lt_low : Nat → LD := ldT []
noncomputable def M_low (f : Nat) (a : Unit) : Option (SCp) := (runX (C_low) Lt_low (Kret Try.prog [.cell 0 25] [.g tSCp]) f [.code (bodyOf Try.f20)] (initX [] a) : Option (ResT [.g tSCp]))
theorem M_low_eq (f : Nat)  : M_low (f + 1) () =
    some (3, 8192, 12, 7, 32, 0, false) := by kernel_rfl
noncomputable def F_low : Unit → SCp
  | () => (3, 8192, 12, 7, 32, 0, false)
noncomputable def P_low : Unit → Bool
  | () => true
theorem low_auto : ∀ a : Unit, Rns (fun f => M_low f a) (P_low a) (F_low a)
  | () => ev_step (fun f => M_low_eq f ) ev_some
theorem low_P : ∀ a, (fun _ => true) a = true → P_low a = true := fun a h => rfl
theorem low_F : ∀ a, (fun _ => true) a = true → F_low a = (fun _ => ((3, 8192, 12, 7, 32, 0, false) : SCp)) a := fun a h => rfl
theorem low_run : ∀ a, (fun _ => true : Unit → Bool) a = true → ∃ f, M_low f a = some ((fun _ => ((3, 8192, 12, 7, 32, 0, false) : SCp) : Unit → SCp) a) := fun a h => by have h1 := low_auto a (low_P a h); rw [low_F a h] at h1; exact h1
noncomputable def E_low : Ent := ⟨20, [], [.g tSCp], fun a => (fun _ => true : Unit → Bool) a, fun a => (fun _ => ((3, 8192, 12, 7, 32, 0, false) : SCp) : Unit → SCp) a⟩
theorem E_low_ok : E_low.Ok Try.prog := fun a hp vs hv => (low_run a hp).elim fun f h => fnX_ok (C := C_low) (Lt := Lt_low) (fn := Try.f20) (rs := [.cell 0 25]) [] [.g tSCp] mixed es_low Try.func20 rfl rfl rfl (by kernel_rfl) (by kernel_rfl) f h vs hv
noncomputable def C_page : Cfg := ⟨Try.prog, [], pmT [], 2, [], []⟩
theorem es_page : EsOk Try.prog [] [] := es_nil
def Lt_page : Nat → LD := ldT []
noncomputable def M_page (f : Nat) (a : Unit) : Option (SCp) := (runX (C_page) Lt_page (Kret Try.prog [.cell 0 25] [.g tSCp]) f [.code (bodyOf Try.f17)] (initX [] a) : Option (ResT [.g tSCp]))
theorem M_page_eq (f : Nat)  : M_page (f + 1) () =
    some (2, 1048576, 12, 3, 0, 0, false) := by kernel_rfl
noncomputable def F_page : Unit → SCp
  | () => (2, 1048576, 12, 3, 0, 0, false)
noncomputable def P_page : Unit → Bool
  | () => true
theorem page_auto : ∀ a : Unit, Rns (fun f => M_page f a) (P_page a) (F_page a)
  | () => ev_step (fun f => M_page_eq f ) ev_some
theorem page_P : ∀ a, (fun _ => true) a = true → P_page a = true := fun a h => rfl
theorem page_F : ∀ a, (fun _ => true) a = true → F_page a = (fun _ => ((2, 1048576, 12, 3, 0, 0, false) : SCp)) a := fun a h => rfl
theorem page_run : ∀ a, (fun _ => true : Unit → Bool) a = true → ∃ f, M_page f a = some ((fun _ => ((2, 1048576, 12, 3, 0, 0, false) : SCp) : Unit → SCp) a) := fun a h => by have h1 := page_auto a (page_P a h); rw [page_F a h] at h1; exact h1
noncomputable def E_page : Ent := ⟨17, [], [.g tSCp], fun a => (fun _ => true : Unit → Bool) a, fun a => (fun _ => ((2, 1048576, 12, 3, 0, 0, false) : SCp) : Unit → SCp) a⟩
theorem E_page_ok : E_page.Ok Try.prog := fun a hp vs hv => (page_run a hp).elim fun f h => fnX_ok (C := C_page) (Lt := Lt_page) (fn := Try.f17) (rs := [.cell 0 25]) [] [.g tSCp] mixed es_page Try.func17 rfl rfl rfl (by kernel_rfl) (by kernel_rfl) f h vs hv
noncomputable def F_rmbl : (SCp × SCp) → Bool
  | (table, c) => bif table.2.2.2.2.2.1 == 0 then bif c.1 == 2 then c.2.2.1 == 12 else false else bif c.1 == 3 then bif c.2.2.2.2.1 == table.2.2.2.2.1 then c.2.2.2.2.2.1 == IntKind.i64.wrap (table.2.2.2.2.2.1 - 1) else false else false
noncomputable def C_mbl : Cfg := ⟨Try.prog, [], pmT [], 34, [], []⟩
theorem es_mbl : EsOk Try.prog [] [] := es_nil
def Lt_mbl : Nat → LD := ldT []
noncomputable def M_mbl (f : Nat) (a : SCp × SCp) : Option (Bool) := (runX (C_mbl) Lt_mbl (Kret Try.prog [.tmp 4] [.v (.bool)]) f [.code (bodyOf Try.f54)] (initX [.g tSCp, .g tSCp] a) : Option (ResT [.v (.bool)]))
theorem M_mbl_eq (f : Nat) (table : SCp) (c : SCp) : M_mbl (f + 1) (table, c) =
    bif table.2.2.2.2.2.1 == 0 then bif c.1 == 2 then some (c.2.2.1 == 12) else some false else bif c.1 == 3 then bif c.2.2.2.2.1 == table.2.2.2.2.1 then some (c.2.2.2.2.2.1 == IntKind.i64.wrap (table.2.2.2.2.2.1 - 1)) else some false else some false := by kernel_rfl
noncomputable def F_mbl : (SCp × SCp) → Bool
  | (table, c) => bif table.2.2.2.2.2.1 == 0 then bif c.1 == 2 then c.2.2.1 == 12 else false else bif c.1 == 3 then bif c.2.2.2.2.1 == table.2.2.2.2.1 then c.2.2.2.2.2.1 == IntKind.i64.wrap (table.2.2.2.2.2.1 - 1) else false else false
noncomputable def P_mbl : (SCp × SCp) → Bool
  | (table, c) => true
theorem mbl_auto : ∀ a : SCp × SCp, Rns (fun f => M_mbl f a) (P_mbl a) (F_mbl a)
  | (table, c) => ev_step (fun f => M_mbl_eq f _ _) (ev_bift (ev_bift ev_some ev_some) (ev_bift (ev_bift ev_some ev_some) ev_some))
theorem mbl_P : ∀ a, (fun _ => true) a = true → P_mbl a = true := fun a h => rfl
theorem mbl_F : ∀ a, (fun _ => true) a = true → F_mbl a = F_rmbl a := fun a h => rfl
theorem mbl_run : ∀ a, (fun _ => true : SCp × SCp → Bool) a = true → ∃ f, M_mbl f a = some ((F_rmbl : SCp × SCp → Bool) a) := fun a h => by have h1 := mbl_auto a (mbl_P a h); rw [mbl_F a h] at h1; exact h1
noncomputable def E_mbl : Ent := ⟨54, [.g tSCp, .g tSCp], [.v (.bool)], fun a => (fun _ => true : SCp × SCp → Bool) a, fun a => (F_rmbl : SCp × SCp → Bool) a⟩
theorem E_mbl_ok : E_mbl.Ok Try.prog := fun a hp vs hv => (mbl_run a hp).elim fun f h => fnX_ok (C := C_mbl) (Lt := Lt_mbl) (fn := Try.f54) (rs := [.tmp 4]) [.g tSCp, .g tSCp] [.v (.bool)] mixed es_mbl Try.func54 rfl rfl rfl (by kernel_rfl) (by kernel_rfl) f h vs hv
end Go.AL
