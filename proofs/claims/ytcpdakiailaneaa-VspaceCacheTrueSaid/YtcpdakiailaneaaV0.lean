/-
  Layer 16: page tables: places, formats, indices. By an AI agent.
-/
import Derived.Test.YtcpdakiailaneaaWg1
namespace Go.AL
open Go.Proofs
set_option linter.unusedVariables false
set_option linter.unusedSimpArgs false
abbrev tSMp : List Ty := [.int .i64, .int .i64, .int .i64, .int .i64, .int .i64, .int .i64]
abbrev SMp := Int × Int × Int × Int × Int × Int
abbrev tSPT : List Ty := [.int .i64, .int .i64, .int .i64, .sl [.int .i64, .int .i64, .int .i64, .int .i64, .int .i64, .int .i64]]
abbrev SPT := Int × Int × Int × (List (Int × Int × Int × Int × Int × Int))
abbrev tSTr : List Ty := [.int .i64, .int .i64, .int .i64, .int .i64, .sl [.int .i64, .int .i64, .int .i64], .sl [.int .i64]]
abbrev STr := Int × Int × Int × Int × (List (Int × Int × Int)) × (List (Int))
abbrev tSAc : List Ty := [.int .i64, .int .i64, .int .i64, .int .i64, .int .i64]
abbrev SAc := Int × Int × Int × Int × Int
def place (a : Int × Int) : Int := bif decide (a.2 < 1) then 0 else a.1 % a.2
def place_pre (a : Int × Int) : Bool := decide (a.2 ≤ 4611686018427387904)
noncomputable def C_place : Cfg := ⟨Try.prog, [], pmT [], 16, [], []⟩
theorem es_place : EsOk Try.prog [] [] := es_nil
def Lt_place : Nat → LD := ldT []
noncomputable def M_place (f : Nat) (a : Int × Int) : Option (Int) := (runX (C_place) Lt_place (Kret Try.prog [.tmp 4] [.v (.int .i64)]) f [.code (bodyOf Try.f14)] (initX [.c (.int .i64), .c (.int .i64)] a) : Option (ResT [.v (.int .i64)]))
theorem M_place_eq (f : Nat) (n : Int) (size : Int) : M_place (f + 1) (n, size) =
    bif decide (size < 1) then some 0 else bif size != 0 then bif decide (n.tmod size < 0) then some (IntKind.i64.wrap (n.tmod size + size)) else some (n.tmod size) else none := by kernel_rfl
theorem tmod_emod {n s : Int} (h : 0 < s) : n % s = if n.tmod s < 0 then n.tmod s + s else n.tmod s := by
  have h1 := Int.mul_tdiv_add_tmod n s
  have h2 := Int.tmod_lt_of_pos n h
  have h3 : -s < n.tmod s := by
    have := Int.tmod_lt_of_pos (-n) h
    rw [Int.neg_tmod] at this; omega
  have e : n % s = (n.tmod s) % s := by
    have : (s * n.tdiv s + n.tmod s) % s = n.tmod s % s := by rw [Int.mul_add_emod_self_left]
    rwa [h1] at this
  rw [e]
  split
  · rename_i h4
    have : (n.tmod s + s) % s = n.tmod s % s := by rw [Int.add_emod_right]
    rw [← this]
    exact Int.emod_eq_of_lt (by omega) (by omega)
  · rename_i h4
    exact Int.emod_eq_of_lt (by omega) h2
theorem place_run : ∀ a, place_pre a = true → ∃ f, M_place f a = some (place a) := by
  rintro ⟨n, s⟩ h
  have h : s ≤ 4611686018427387904 := of_decide_eq_true h
  refine ⟨1, (M_place_eq 0 _ _).trans ?_⟩
  unfold place
  by_cases h1 : s < 1
  · rw [bif_pos h1, bif_pos h1]
  · rw [bif_neg h1, bif_neg h1]
    have h2 : (s != 0) = true := by simp; omega
    have h3 := Int.tmod_lt_of_pos n (by omega : 0 < s)
    have h4 : -s < n.tmod s := by
      have := Int.tmod_lt_of_pos (-n) (by omega : 0 < s)
      rw [Int.neg_tmod] at this; omega
    rw [h2, cond_true, tmod_emod (by omega : 0 < s)]
    by_cases h5 : n.tmod s < 0
    · rw [bif_pos h5, if_pos h5, i64_id (by omega) (by omega)]
    · rw [bif_neg h5, if_neg h5]
theorem place_lo (n s : Int) : 0 ≤ place (n, s) := by
  unfold place
  by_cases h : s < 1
  · rw [bif_pos h]; omega
  · rw [bif_neg h]; exact Int.emod_nonneg _ (by show s ≠ 0; omega)
theorem place_hi (n : Int) {s : Int} (h : 0 < s) : place (n, s) < s := by
  unfold place
  rw [bif_neg (by show ¬ s < 1; omega)]; exact Int.emod_lt_of_pos _ h
noncomputable def E_place : Ent := ⟨14, [.c (.int .i64), .c (.int .i64)], [.v (.int .i64)], fun a => (place_pre : Int × Int → Bool) a, fun a => (place : Int × Int → Int) a⟩
theorem E_place_ok : E_place.Ok Try.prog := fun a hp vs hv => (place_run a hp).elim fun f h => fnX_ok (C := C_place) (Lt := Lt_place) (fn := Try.f14) (rs := [.tmp 4]) [.c (.int .i64), .c (.int .i64)] [.v (.int .i64)] mixed es_place Try.func14 rfl rfl rfl (by kernel_rfl) (by kernel_rfl) f h vs hv
def findI {α : Type} (p : α → Bool) : List α → Int → Int
  | [], _ => -1
  | u :: r, k => bif p u then k else findI p r (k + 1)
theorem findI_lt {α : Type} (p : α → Bool) : ∀ (l : List α) (k : Int), 0 ≤ k → findI p l k < k + l.length
  | [], k, h => by simp only [findI, List.length_nil]; omega
  | u :: r, k, h => by
    have := findI_lt p r (k + 1) (by omega)
    simp only [findI, List.length_cons]
    cases p u
    · simp only [cond_false]; omega
    · simp only [cond_true]; omega
theorem findI_some {α : Type} {p : α → Bool} : ∀ {l : List α} {k : Int}, 0 ≤ k → 0 ≤ findI p l k → ∃ j x, findI p l k = k + (j : Nat) ∧ l[j]? = some x ∧ p x = true ∧ ∀ i, i < j → ∀ y, l[i]? = some y → p y = false
  | [], k, h, h2 => by simp [findI] at h2
  | u :: r, k, h, h2 => by
    simp only [findI] at h2 ⊢
    cases hp : p u
    · rw [hp] at h2
      simp only [cond_false] at h2 ⊢
      obtain ⟨j, x, e1, e2, e3, e4⟩ := findI_some (p := p) (l := r) (k := k + 1) (by omega) h2
      refine ⟨j + 1, x, by rw [e1]; omega, by simpa using e2, e3, fun i hi y hy => ?_⟩
      cases i with
      | zero => simp at hy; subst hy; exact hp
      | succ i => exact e4 i (by omega) y (by simpa using hy)
    · exact ⟨0, u, by simp, rfl, hp, fun i hi => by omega⟩
noncomputable def C_sints : Cfg := ⟨Try.prog, [], pmT [(6, ([(0, []), (1, []), (2, []), (3, []), (4, []), (5, []), (6, []), (7, []), (8, [])], [(17, 25)]))], 26, [], []⟩
theorem es_sints : EsOk Try.prog [] [] := es_nil
def Lt_sints : Nat → LD := ldT [(0, ⟨[.rd 0 [.int .i64], .rd 1 [.int .i64], .c 5 (.int .i64)], [], 0⟩)]
noncomputable def M_sints (f : Nat) (a : (List (Int)) × (List (Int))) : Option (Bool) := (runX (C_sints) Lt_sints (Kret Try.prog [.tmp 4] [.v (.bool)]) f [.code (bodyOf Try.f23)] (initX [.rd [.int .i64], .rd [.int .i64]] a) : Option (ResT [.v (.bool)]))
noncomputable def L_sints_0 (f : Nat) (x : (List (Int)) × (List (Int)) × Int) : Option (Bool) := (runX (C_sints) Lt_sints (Kret Try.prog [.tmp 4] [.v (.bool)]) f (headOf Try.f23 0) ((Lt_sints 0).mk' x) : Option (ResT [.v (.bool)]))
theorem M_sints_eq (f : Nat) (a : List (Int)) (b : List (Int)) : M_sints (f + 1) (a, b) =
    bif (↑a.length : Int) != (↑b.length : Int) then some false else L_sints_0 f (a, b, 0) := by kernel_rfl
theorem L_sints_0_eq (f : Nat) (a : List (Int)) (b : List (Int)) (i : Int) : L_sints_0 (f + 1) (a, b, i) =
    bif decide (i < (↑a.length : Int)) then bif decide (0 ≤ i) && decide (i < (↑a.length : Int)) then bif decide (0 ≤ i) && decide (i < (↑b.length : Int)) then bif a.getD i.toNat 0 != b.getD i.toNat 0 then some false else L_sints_0 f (a, b, IntKind.i64.wrap (i + 1)) else none else none else some true := by kernel_rfl
noncomputable def F_sints_0 : List (Int) → ((List (Int)) × (List (Int)) × Nat) → Bool
  | [], (a, b, i) => true
  | uu :: rest, (a, b, i) => bif uu != b.getD (↑i : Int).toNat 0 then false else F_sints_0 rest (a, b, i + 1)
noncomputable def P_sints_0 : List (Int) → ((List (Int)) × (List (Int)) × Nat) → Bool
  | [], (a, b, i) => true
  | uu :: rest, (a, b, i) => decide ((↑i : Int) < (↑b.length : Int)) && bif uu != b.getD (↑i : Int).toNat 0 then true else P_sints_0 rest (a, b, i + 1)
theorem A_sints_0 : ∀ (rest : List (Int)) (a : List (Int)) (b : List (Int)) (i : Nat) (hd : a.drop i = rest) (hl : a.length ≤ 1099511627776), Rns (fun f => L_sints_0 f (a, b, ((i : Nat) : Int))) (P_sints_0 rest (a, b, i)) (F_sints_0 rest (a, b, i))
  | [], a, b, i, hd, hl => ev_step (T := fun f => some true) (fun f => (L_sints_0_eq f _ _ _).trans (by simp only [ge_dec (drop_ge hd), ge0, Bool.and_self, Bool.true_and, cond_true, cond_false, List.length_set] <;> rfl)) ev_some
  | uu :: rest, a, b, i, hd, hl => ev_step (T := fun f => bif decide ((↑i : Int) < (↑b.length : Int)) then bif uu != b.getD (↑i : Int).toNat 0 then some false else L_sints_0 f (a, b, (↑(i + 1) : Int)) else none) (fun f => (L_sints_0_eq f _ _ _).trans (by simp only [lt_dec (drop_lt hd), drop_get hd, wrap_succ (drop_lt hd) hl, getD_set (drop_lt hd), ge0, Bool.and_self, Bool.true_and, cond_true, cond_false, List.length_set] <;> rfl)) (ev_chk (ev_bif ev_some (A_sints_0 rest _ _ _ (by first | exact drop_succ hd | exact drop_set hd | exact drop_setS (drop_set hd)) (by first | exact hl | simpa using hl))))
noncomputable def F_sints : ((List (Int)) × (List (Int))) → Bool
  | (a, b) => bif (↑a.length : Int) != (↑b.length : Int) then false else F_sints_0 a (a, b, 0)
noncomputable def P_sints : ((List (Int)) × (List (Int))) → Bool
  | (a, b) => bif (↑a.length : Int) != (↑b.length : Int) then true else decide (a.length ≤ 1099511627776) && P_sints_0 a (a, b, 0)
theorem sints_auto : ∀ a : (List (Int)) × (List (Int)), Rns (fun f => M_sints f a) (P_sints a) (F_sints a)
  | (a, b) => ev_step (fun f => M_sints_eq f _ _) (ev_bif ev_some (ev_and fun hh => A_sints_0 _ _ _ _ rfl (of_decide_eq_true hh)))
theorem sints_0 : ∀ (r a b t : List Int) (k : Nat), b.drop k = t → r.length = t.length → F_sints_0 r (a, b, k) = decide (r = t) ∧ P_sints_0 r (a, b, k) = true := by
  refine same_loop F_sints_0 P_sints_0 (fun _ _ _ => ⟨rfl, rfl⟩) fun u r a b k v t h => ?_
  simp only [F_sints_0, P_sints_0, drop_get h, lt_dec (drop_lt h), bneI, Bool.true_and]
  constructor
  · by_cases e : u = v
    · subst e; simp
    · simp [e]
  · intro h; rw [h]; simp
theorem sints_P : ∀ a : List Int × List Int, len40n a.1 = true → P_sints a = true := fun a h => by
  simp only [P_sints, len_bne]
  by_cases e : a.1.length = a.2.length
  · rw [(sints_0 a.1 a.1 a.2 a.2 0 rfl e).2]; simp [e]; rw [← e]; exact of_decide_eq_true h
  · simp [e]
theorem sints_F : ∀ a : List Int × List Int, len40n a.1 = true → F_sints a = decide (a.1 = a.2) := fun a h => by
  simp only [F_sints, len_bne]
  by_cases e : a.1.length = a.2.length
  · rw [(sints_0 a.1 a.1 a.2 a.2 0 rfl e).1]; simp [e]
  · have : ¬ a.1 = a.2 := fun h => e (by rw [h])
    simp [e, this]
theorem sints_run : ∀ a, (fun a => len40n a.1 : (List (Int)) × (List (Int)) → Bool) a = true → ∃ f, M_sints f a = some ((fun a => decide (a.1 = a.2) : (List (Int)) × (List (Int)) → Bool) a) := fun a h => by have h1 := sints_auto a (sints_P a h); rw [sints_F a h] at h1; exact h1
noncomputable def E_sints : Ent := ⟨23, [.rd [.int .i64], .rd [.int .i64]], [.v (.bool)], fun a => (fun a => len40n a.1 : (List (Int)) × (List (Int)) → Bool) a, fun a => (fun a => decide (a.1 = a.2) : (List (Int)) × (List (Int)) → Bool) a⟩
theorem E_sints_ok : E_sints.Ok Try.prog := fun a hp vs hv => (sints_run a hp).elim fun f h => fnX_ok (C := C_sints) (Lt := Lt_sints) (fn := Try.f23) (rs := [.tmp 4]) [.rd [.int .i64], .rd [.int .i64]] [.v (.bool)] mixed es_sints Try.func23 rfl rfl rfl (by kernel_rfl) (by kernel_rfl) f h vs hv
def geoS (w : Int) : Int × Int × Int × Bool := bif decide (w = 32) then (2, 10, 4, true) else bif decide (w = 39) then (3, 9, 8, true) else (0, 0, 0, false)
noncomputable def C_geom : Cfg := ⟨Try.prog, [], pmT [], 11, [], []⟩
theorem es_geom : EsOk Try.prog [] [] := es_nil
def Lt_geom : Nat → LD := ldT []
noncomputable def M_geom (f : Nat) (a : Int) : Option (Int × Int × Int × Bool) := (runX (C_geom) Lt_geom (Kret Try.prog [.tmp 2, .tmp 3, .tmp 4, .tmp 5] [.v (.int .i64), .v (.int .i64), .v (.int .i64), .v (.bool)]) f [.code (bodyOf Try.f62)] (initX [.c (.int .i64)] a) : Option (ResT [.v (.int .i64), .v (.int .i64), .v (.int .i64), .v (.bool)]))
theorem M_geom_eq (f : Nat) (width : Int) : M_geom (f + 1) width =
    bif width == 32 then some (2, 10, 4, true) else bif width == 39 then some (3, 9, 8, true) else some (0, 0, 0, false) := by kernel_rfl
noncomputable def F_geom : Int → Int × Int × Int × Bool
  | width => bif width == 32 then (2, 10, 4, true) else bif width == 39 then (3, 9, 8, true) else (0, 0, 0, false)
noncomputable def P_geom : Int → Bool
  | width => true
theorem geom_auto : ∀ a : Int, Rns (fun f => M_geom f a) (P_geom a) (F_geom a)
  | width => ev_step (fun f => M_geom_eq f _) (ev_bift ev_some (ev_bift ev_some ev_some))
theorem geom_P : ∀ a, (fun _ => true) a = true → P_geom a = true := fun a h => rfl
theorem geom_F : ∀ a, (fun _ => true) a = true → F_geom a = geoS a := fun a h => by simp only [F_geom, geoS, beqI]
theorem geom_run : ∀ a, (fun _ => true : Int → Bool) a = true → ∃ f, M_geom f a = some ((geoS : Int → Int × Int × Int × Bool) a) := fun a h => by have h1 := geom_auto a (geom_P a h); rw [geom_F a h] at h1; exact h1
noncomputable def E_geom : Ent := ⟨62, [.c (.int .i64)], [.v (.int .i64), .v (.int .i64), .v (.int .i64), .v (.bool)], fun a => (fun _ => true : Int → Bool) a, fun a => (geoS : Int → Int × Int × Int × Bool) a⟩
theorem E_geom_ok : E_geom.Ok Try.prog := fun a hp vs hv => (geom_run a hp).elim fun f h => fnX_ok (C := C_geom) (Lt := Lt_geom) (fn := Try.f62) (rs := [.tmp 2, .tmp 3, .tmp 4, .tmp 5]) [.c (.int .i64)] [.v (.int .i64), .v (.int .i64), .v (.int .i64), .v (.bool)] mixed es_geom Try.func62 rfl rfl rfl (by kernel_rfl) (by kernel_rfl) f h vs hv
def palS (b : Int) : Bool := decide (b ≥ 0) && (decide (b < 1099511627776) && decide (Int.tmod b 4096 = 0))
noncomputable def C_pal : Cfg := ⟨Try.prog, [], pmT [], 14, [], []⟩
theorem es_pal : EsOk Try.prog [] [] := es_nil
def Lt_pal : Nat → LD := ldT []
noncomputable def M_pal (f : Nat) (a : Int) : Option (Bool) := (runX (C_pal) Lt_pal (Kret Try.prog [.tmp 2] [.v (.bool)]) f [.code (bodyOf Try.f108)] (initX [.c (.int .i64)] a) : Option (ResT [.v (.bool)]))
theorem M_pal_eq (f : Nat) (base : Int) : M_pal (f + 1) base =
    bif decide (base ≥ 0) then bif decide (base < 1099511627776) then some (base.tmod 4096 == 0) else some false else some false := by kernel_rfl
noncomputable def F_pal : Int → Bool
  | base => bif decide (base ≥ 0) then bif decide (base < 1099511627776) then base.tmod 4096 == 0 else false else false
noncomputable def P_pal : Int → Bool
  | base => true
theorem pal_auto : ∀ a : Int, Rns (fun f => M_pal f a) (P_pal a) (F_pal a)
  | base => ev_step (fun f => M_pal_eq f _) (ev_bift (ev_bift ev_some ev_some) ev_some)
theorem pal_P : ∀ a, (fun _ => true) a = true → P_pal a = true := fun a h => rfl
theorem pal_F : ∀ a, (fun _ => true) a = true → F_pal a = palS a := fun a h => by
  simp only [F_pal, palS, beqI]; cases decide (a ≥ 0) <;> cases decide (a < 1099511627776) <;> rfl
theorem pal_run : ∀ a, (fun _ => true : Int → Bool) a = true → ∃ f, M_pal f a = some ((palS : Int → Bool) a) := fun a h => by have h1 := pal_auto a (pal_P a h); rw [pal_F a h] at h1; exact h1
noncomputable def E_pal : Ent := ⟨108, [.c (.int .i64)], [.v (.bool)], fun a => (fun _ => true : Int → Bool) a, fun a => (palS : Int → Bool) a⟩
theorem E_pal_ok : E_pal.Ok Try.prog := fun a hp vs hv => (pal_run a hp).elim fun f h => fnX_ok (C := C_pal) (Lt := Lt_pal) (fn := Try.f108) (rs := [.tmp 2]) [.c (.int .i64)] [.v (.bool)] mixed es_pal Try.func108 rfl rfl rfl (by kernel_rfl) (by kernel_rfl) f h vs hv
def ftS (ts : List SPT) (base : Int) : Int := findI (fun t => decide (t.1 = base)) ts 0
def fmS (l : List SMp) (index : Int) : Int := findI (fun m => decide (m.1 = index)) l 0
noncomputable def C_top : Cfg := ⟨Try.prog, [], pmT [], 2, [], []⟩
theorem es_top : EsOk Try.prog [] [] := es_nil
def Lt_top : Nat → LD := ldT []
noncomputable def M_top (f : Nat) (a : Unit) : Option (SCp) := (runX (C_top) Lt_top (Kret Try.prog [.cell 0 25] [.g tSCp]) f [.code (bodyOf Try.f19)] (initX [] a) : Option (ResT [.g tSCp]))
theorem M_top_eq (f : Nat)  : M_top (f + 1) () =
    some (3, 4096, 12, 7, 32, 1, false) := by kernel_rfl
noncomputable def F_top : Unit → SCp
  | () => (3, 4096, 12, 7, 32, 1, false)
noncomputable def P_top : Unit → Bool
  | () => true
theorem top_auto : ∀ a : Unit, Rns (fun f => M_top f a) (P_top a) (F_top a)
  | () => ev_step (fun f => M_top_eq f ) ev_some
theorem top_P : ∀ a, (fun _ => true) a = true → P_top a = true := fun a h => rfl
theorem top_F : ∀ a, (fun _ => true) a = true → F_top a = (fun _ => ((3, 4096, 12, 7, 32, 1, false) : SCp)) a := fun a h => rfl
theorem top_run : ∀ a, (fun _ => true : Unit → Bool) a = true → ∃ f, M_top f a = some ((fun _ => ((3, 4096, 12, 7, 32, 1, false) : SCp) : Unit → SCp) a) := fun a h => by have h1 := top_auto a (top_P a h); rw [top_F a h] at h1; exact h1
noncomputable def E_top : Ent := ⟨19, [], [.g tSCp], fun a => (fun _ => true : Unit → Bool) a, fun a => (fun _ => ((3, 4096, 12, 7, 32, 1, false) : SCp) : Unit → SCp) a⟩
theorem E_top_ok : E_top.Ok Try.prog := fun a hp vs hv => (top_run a hp).elim fun f h => fnX_ok (C := C_top) (Lt := Lt_top) (fn := Try.f19) (rs := [.cell 0 25]) [] [.g tSCp] mixed es_top Try.func19 rfl rfl rfl (by kernel_rfl) (by kernel_rfl) f h vs hv
noncomputable def C_low : Cfg := ⟨Try.prog, [], pmT [], 2, [], []⟩
theorem es_low : EsOk Try.prog [] [] := es_nil
def Lt_low : Nat → LD := ldT []
noncomputable def M_low (f : Nat) (a : Unit) : Option (SCp) := (runX (C_low) Lt_low (Kret Try.prog [.cell 0 25] [.g tSCp]) f [.code (bodyOf Try.f20)] (initX [] a) : Option (ResT [.g tSCp]))
theorem M_low_eq (f : Nat)  : M_low (f + 1) () =
    some (3, 8192, 12, 7, 32, 0, false) := by kernel_rfl
noncomputable def F_low : Unit → SCp
  | () => (3, 8192, 12, 7, 32, 0, false)
noncomputable def P_low : Unit → Bool
  | () => true
theorem low_auto : ∀ a : Unit, Rns (fun f => M_low f a) (P_low a) (F_low a)
  | () => ev_step (fun f => M_low_eq f ) ev_some
theorem low_P : ∀ a, (fun _ => true) a = true → P_low a = true := fun a h => rfl
theorem low_F : ∀ a, (fun _ => true) a = true → F_low a = (fun _ => ((3, 8192, 12, 7, 32, 0, false) : SCp)) a := fun a h => rfl
theorem low_run : ∀ a, (fun _ => true : Unit → Bool) a = true → ∃ f, M_low f a = some ((fun _ => ((3, 8192, 12, 7, 32, 0, false) : SCp) : Unit → SCp) a) := fun a h => by have h1 := low_auto a (low_P a h); rw [low_F a h] at h1; exact h1
noncomputable def E_low : Ent := ⟨20, [], [.g tSCp], fun a => (fun _ => true : Unit → Bool) a, fun a => (fun _ => ((3, 8192, 12, 7, 32, 0, false) : SCp) : Unit → SCp) a⟩
theorem E_low_ok : E_low.Ok Try.prog := fun a hp vs hv => (low_run a hp).elim fun f h => fnX_ok (C := C_low) (Lt := Lt_low) (fn := Try.f20) (rs := [.cell 0 25]) [] [.g tSCp] mixed es_low Try.func20 rfl rfl rfl (by kernel_rfl) (by kernel_rfl) f h vs hv
noncomputable def C_page : Cfg := ⟨Try.prog, [], pmT [], 2, [], []⟩
theorem es_page : EsOk Try.prog [] [] := es_nil
def Lt_page : Nat → LD := ldT []
noncomputable def M_page (f : Nat) (a : Unit) : Option (SCp) := (runX (C_page) Lt_page (Kret Try.prog [.cell 0 25] [.g tSCp]) f [.code (bodyOf Try.f17)] (initX [] a) : Option (ResT [.g tSCp]))
theorem M_page_eq (f : Nat)  : M_page (f + 1) () =
    some (2, 1048576, 12, 3, 0, 0, false) := by kernel_rfl
noncomputable def F_page : Unit → SCp
  | () => (2, 1048576, 12, 3, 0, 0, false)
noncomputable def P_page : Unit → Bool
  | () => true
theorem page_auto : ∀ a : Unit, Rns (fun f => M_page f a) (P_page a) (F_page a)
  | () => ev_step (fun f => M_page_eq f ) ev_some
theorem page_P : ∀ a, (fun _ => true) a = true → P_page a = true := fun a h => rfl
theorem page_F : ∀ a, (fun _ => true) a = true → F_page a = (fun _ => ((2, 1048576, 12, 3, 0, 0, false) : SCp)) a := fun a h => rfl
theorem page_run : ∀ a, (fun _ => true : Unit → Bool) a = true → ∃ f, M_page f a = some ((fun _ => ((2, 1048576, 12, 3, 0, 0, false) : SCp) : Unit → SCp) a) := fun a h => by have h1 := page_auto a (page_P a h); rw [page_F a h] at h1; exact h1
noncomputable def E_page : Ent := ⟨17, [], [.g tSCp], fun a => (fun _ => true : Unit → Bool) a, fun a => (fun _ => ((2, 1048576, 12, 3, 0, 0, false) : SCp) : Unit → SCp) a⟩
theorem E_page_ok : E_page.Ok Try.prog := fun a hp vs hv => (page_run a hp).elim fun f h => fnX_ok (C := C_page) (Lt := Lt_page) (fn := Try.f17) (rs := [.cell 0 25]) [] [.g tSCp] mixed es_page Try.func17 rfl rfl rfl (by kernel_rfl) (by kernel_rfl) f h vs hv
noncomputable def F_rmbl : (SCp × SCp) → Bool
  | (table, c) => bif table.2.2.2.2.2.1 == 0 then bif c.1 == 2 then c.2.2.1 == 12 else false else bif c.1 == 3 then bif c.2.2.2.2.1 == table.2.2.2.2.1 then c.2.2.2.2.2.1 == IntKind.i64.wrap (table.2.2.2.2.2.1 - 1) else false else false
noncomputable def C_mbl : Cfg := ⟨Try.prog, [], pmT [], 34, [], []⟩
theorem es_mbl : EsOk Try.prog [] [] := es_nil
def Lt_mbl : Nat → LD := ldT []
noncomputable def M_mbl (f : Nat) (a : SCp × SCp) : Option (Bool) := (runX (C_mbl) Lt_mbl (Kret Try.prog [.tmp 4] [.v (.bool)]) f [.code (bodyOf Try.f54)] (initX [.g tSCp, .g tSCp] a) : Option (ResT [.v (.bool)]))
theorem M_mbl_eq (f : Nat) (table : SCp) (c : SCp) : M_mbl (f + 1) (table, c) =
    bif table.2.2.2.2.2.1 == 0 then bif c.1 == 2 then some (c.2.2.1 == 12) else some false else bif c.1 == 3 then bif c.2.2.2.2.1 == table.2.2.2.2.1 then some (c.2.2.2.2.2.1 == IntKind.i64.wrap (table.2.2.2.2.2.1 - 1)) else some false else some false := by kernel_rfl
noncomputable def F_mbl : (SCp × SCp) → Bool
  | (table, c) => bif table.2.2.2.2.2.1 == 0 then bif c.1 == 2 then c.2.2.1 == 12 else false else bif c.1 == 3 then bif c.2.2.2.2.1 == table.2.2.2.2.1 then c.2.2.2.2.2.1 == IntKind.i64.wrap (table.2.2.2.2.2.1 - 1) else false else false
noncomputable def P_mbl : (SCp × SCp) → Bool
  | (table, c) => true
theorem mbl_auto : ∀ a : SCp × SCp, Rns (fun f => M_mbl f a) (P_mbl a) (F_mbl a)
  | (table, c) => ev_step (fun f => M_mbl_eq f _ _) (ev_bift (ev_bift ev_some ev_some) (ev_bift (ev_bift ev_some ev_some) ev_some))
theorem mbl_P : ∀ a, (fun _ => true) a = true → P_mbl a = true := fun a h => rfl
theorem mbl_F : ∀ a, (fun _ => true) a = true → F_mbl a = F_rmbl a := fun a h => rfl
theorem mbl_run : ∀ a, (fun _ => true : SCp × SCp → Bool) a = true → ∃ f, M_mbl f a = some ((F_rmbl : SCp × SCp → Bool) a) := fun a h => by have h1 := mbl_auto a (mbl_P a h); rw [mbl_F a h] at h1; exact h1
noncomputable def E_mbl : Ent := ⟨54, [.g tSCp, .g tSCp], [.v (.bool)], fun a => (fun _ => true : SCp × SCp → Bool) a, fun a => (F_rmbl : SCp × SCp → Bool) a⟩
theorem E_mbl_ok : E_mbl.Ok Try.prog := fun a hp vs hv => (mbl_run a hp).elim fun f h => fnX_ok (C := C_mbl) (Lt := Lt_mbl) (fn := Try.f54) (rs := [.tmp 4]) [.g tSCp, .g tSCp] [.v (.bool)] mixed es_mbl Try.func54 rfl rfl rfl (by kernel_rfl) (by kernel_rfl) f h vs hv
end Go.AL
