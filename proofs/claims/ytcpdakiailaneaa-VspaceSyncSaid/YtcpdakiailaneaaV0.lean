/-
  Layer 16: page tables: places, formats, indices. By an AI agent.
-/
import Derived.Test.YtcpdakiailaneaaWg1
namespace Go.AL
open Go.Proofs
set_option linter.unusedVariables false
set_option linter.unusedSimpArgs false
abbrev tSMp : List Ty := [.int .i64, .int .i64, .int .i64, .int .i64, .int .i64, .int .i64]
abbrev SMp := Int × Int × Int × Int × Int × Int
abbrev tSPT : List Ty := [.int .i64, .int .i64, .int .i64, .sl [.int .i64, .int .i64, .int .i64, .int .i64, .int .i64, .int .i64]]
abbrev SPT := Int × Int × Int × (List (Int × Int × Int × Int × Int × Int))
abbrev tSTr : List Ty := [.int .i64, .int .i64, .int .i64, .int .i64, .sl [.int .i64, .int .i64, .int .i64], .sl [.int .i64]]
abbrev STr := Int × Int × Int × Int × (List (Int × Int × Int)) × (List (Int))
abbrev tSAc : List Ty := [.int .i64, .int .i64, .int .i64, .int .i64, .int .i64]
abbrev SAc := Int × Int × Int × Int × Int
def place (a : Int × Int) : Int := bif decide (a.2 < 1) then 0 else a.1 % a.2
def place_pre (a : Int × Int) : Bool := decide (a.2 ≤ 4611686018427387904)
noncomputable def C_place : Cfg := ⟨Try.prog, [], pmT [], 16, [], []⟩
theorem es_place : EsOk Try.prog [] [] := es_nil
def Lt_place : Nat → LD := ldT []
noncomputable def M_place (f : Nat) (a : Int × Int) : Option (Int) := (runX (C_place) Lt_place (Kret Try.prog [.tmp 4] [.v (.int .i64)]) f [.code (bodyOf Try.f14)] (initX [.c (.int .i64), .c (.int .i64)] a) : Option (ResT [.v (.int .i64)]))
theorem M_place_eq (f : Nat) (n : Int) (size : Int) : M_place (f + 1) (n, size) =
    bif decide (size < 1) then some 0 else bif size != 0 then bif decide (n.tmod size < 0) then some (IntKind.i64.wrap (n.tmod size + size)) else some (n.tmod size) else none := by kernel_rfl
theorem tmod_emod {n s : Int} (h : 0 < s) : n % s = if n.tmod s < 0 then n.tmod s + s else n.tmod s := by
  have h1 := Int.mul_tdiv_add_tmod n s
  have h2 := Int.tmod_lt_of_pos n h
  have h3 : -s < n.tmod s := by
    have := Int.tmod_lt_of_pos (-n) h
    rw [Int.neg_tmod] at this; omega
  have e : n % s = (n.tmod s) % s := by
    have : (s * n.tdiv s + n.tmod s) % s = n.tmod s % s := by rw [Int.mul_add_emod_self_left]
    rwa [h1] at this
  rw [e]
  split
  · rename_i h4
    have : (n.tmod s + s) % s = n.tmod s % s := by rw [Int.add_emod_right]
    rw [← this]
    exact Int.emod_eq_of_lt (by omega) (by omega)
  · rename_i h4
    exact Int.emod_eq_of_lt (by omega) h2
theorem place_run : ∀ a, place_pre a = true → ∃ f, M_place f a = some (place a) := by
  rintro ⟨n, s⟩ h
  have h : s ≤ 4611686018427387904 := of_decide_eq_true h
  refine ⟨1, (M_place_eq 0 _ _).trans ?_⟩
  unfold place
  by_cases h1 : s < 1
  · rw [bif_pos h1, bif_pos h1]
  · rw [bif_neg h1, bif_neg h1]
    have h2 : (s != 0) = true := by simp; omega
    have h3 := Int.tmod_lt_of_pos n (by omega : 0 < s)
    have h4 : -s < n.tmod s := by
      have := Int.tmod_lt_of_pos (-n) (by omega : 0 < s)
      rw [Int.neg_tmod] at this; omega
    rw [h2, cond_true, tmod_emod (by omega : 0 < s)]
    by_cases h5 : n.tmod s < 0
    · rw [bif_pos h5, if_pos h5, i64_id (by omega) (by omega)]
    · rw [bif_neg h5, if_neg h5]
theorem place_lo (n s : Int) : 0 ≤ place (n, s) := by
  unfold place
  by_cases h : s < 1
  · rw [bif_pos h]; omega
  · rw [bif_neg h]; exact Int.emod_nonneg _ (by show s ≠ 0; omega)
theorem place_hi (n : Int) {s : Int} (h : 0 < s) : place (n, s) < s := by
  unfold place
  rw [bif_neg (by show ¬ s < 1; omega)]; exact Int.emod_lt_of_pos _ h
noncomputable def E_place : Ent := ⟨14, [.c (.int .i64), .c (.int .i64)], [.v (.int .i64)], fun a => (place_pre : Int × Int → Bool) a, fun a => (place : Int × Int → Int) a⟩
theorem E_place_ok : E_place.Ok Try.prog := fun a hp vs hv => (place_run a hp).elim fun f h => fnX_ok (C := C_place) (Lt := Lt_place) (fn := Try.f14) (rs := [.tmp 4]) [.c (.int .i64), .c (.int .i64)] [.v (.int .i64)] mixed es_place Try.func14 rfl rfl rfl (by kernel_rfl) (by kernel_rfl) f h vs hv
def findI {α : Type} (p : α → Bool) : List α → Int → Int
  | [], _ => -1
  | u :: r, k => bif p u then k else findI p r (k + 1)
theorem findI_lt {α : Type} (p : α → Bool) : ∀ (l : List α) (k : Int), 0 ≤ k → findI p l k < k + l.length
  | [], k, h => by simp only [findI, List.length_nil]; omega
  | u :: r, k, h => by
    have := findI_lt p r (k + 1) (by omega)
    simp only [findI, List.length_cons]
    cases p u
    · simp only [cond_false]; omega
    · simp only [cond_true]; omega
theorem findI_none {α : Type} {p : α → Bool} : ∀ {l : List α} {k : Int}, 0 ≤ k → ((∀ x ∈ l, p x = false) ↔ findI p l k = -1)
  | [], k, h => by simp [findI]
  | u :: r, k, h => by
    have ih := findI_none (p := p) (l := r) (k := k + 1) (by omega)
    simp only [findI, List.mem_cons, forall_eq_or_imp]
    cases hp : p u
    · simp only [cond_false]; rw [← ih]; simp
    · simp only [cond_true]; constructor
      · intro h; cases h.1
      · intro h; omega
theorem findI_ge {α : Type} {p : α → Bool} {l : List α} {k : Int} (hk : 0 ≤ k) : 0 ≤ findI p l k ∨ findI p l k = -1 := by
  by_cases h : ∀ x ∈ l, p x = false
  · exact .inr ((findI_none hk).1 h)
  · have : ¬ findI p l k = -1 := fun e => h ((findI_none hk).2 e)
    left
    induction l generalizing k with
    | nil => simp at h
    | cons u r ih =>
      simp only [findI] at this ⊢
      cases hp : p u
      · rw [hp] at this
        simp only [cond_false] at this ⊢
        exact ih (by omega) (fun h2 => h (fun x hx => by
          rcases List.mem_cons.1 hx with rfl | hx
          · exact hp
          · exact h2 x hx)) this
      · simpa using hk
theorem findI_neg {α : Type} {p : α → Bool} {l : List α} (h : decide (findI p l 0 ≥ 0) = false) : ∀ x ∈ l, p x = false := by
  have h1 := of_decide_eq_false h
  exact (findI_none (by omega)).2 ((findI_ge (p := p) (l := l) (k := 0) (by omega)).resolve_left (by omega))
noncomputable def C_hasInt : Cfg := ⟨Try.prog, [], pmT [], 18, [], []⟩
theorem es_hasInt : EsOk Try.prog [] [] := es_nil
def Lt_hasInt : Nat → LD := ldT [(0, ⟨[.rd 0 [.int .i64], .c 1 (.int .i64), .c 5 (.int .i64)], [], 0⟩)]
noncomputable def M_hasInt (f : Nat) (a : (List (Int)) × Int) : Option (Bool) := (runX (C_hasInt) Lt_hasInt (Kret Try.prog [.tmp 4] [.v (.bool)]) f [.code (bodyOf Try.f31)] (initX [.rd [.int .i64], .c (.int .i64)] a) : Option (ResT [.v (.bool)]))
noncomputable def L_hasInt_0 (f : Nat) (x : (List (Int)) × Int × Int) : Option (Bool) := (runX (C_hasInt) Lt_hasInt (Kret Try.prog [.tmp 4] [.v (.bool)]) f (headOf Try.f31 0) ((Lt_hasInt 0).mk' x) : Option (ResT [.v (.bool)]))
theorem M_hasInt_eq (f : Nat) (l : List (Int)) (v : Int) : M_hasInt (f + 1) (l, v) =
    L_hasInt_0 f (l, v, 0) := by kernel_rfl
theorem L_hasInt_0_eq (f : Nat) (l : List (Int)) (n : Int) (i : Int) : L_hasInt_0 (f + 1) (l, n, i) =
    bif decide (i < (↑l.length : Int)) then bif decide (0 ≤ i) && decide (i < (↑l.length : Int)) then bif l.getD i.toNat 0 == n then some true else L_hasInt_0 f (l, n, IntKind.i64.wrap (i + 1)) else none else some false := by kernel_rfl
noncomputable def F_hasInt_0 : List (Int) → ((List (Int)) × Int × Nat) → Bool
  | [], (l, n, i) => false
  | uu :: rest, (l, n, i) => bif uu == n then true else F_hasInt_0 rest (l, n, i + 1)
noncomputable def P_hasInt_0 : List (Int) → ((List (Int)) × Int × Nat) → Bool
  | [], (l, n, i) => true
  | uu :: rest, (l, n, i) => bif uu == n then true else P_hasInt_0 rest (l, n, i + 1)
theorem A_hasInt_0 : ∀ (rest : List (Int)) (l : List (Int)) (n : Int) (i : Nat) (hd : l.drop i = rest) (hl : l.length ≤ 1099511627776), Rns (fun f => L_hasInt_0 f (l, n, ((i : Nat) : Int))) (P_hasInt_0 rest (l, n, i)) (F_hasInt_0 rest (l, n, i))
  | [], l, n, i, hd, hl => ev_step (T := fun f => some false) (fun f => (L_hasInt_0_eq f _ _ _).trans (by simp only [ge_dec (drop_ge hd), ge0, Bool.and_self, Bool.true_and, cond_true, cond_false, List.length_set] <;> rfl)) ev_some
  | uu :: rest, l, n, i, hd, hl => ev_step (T := fun f => bif uu == n then some true else L_hasInt_0 f (l, n, (↑(i + 1) : Int))) (fun f => (L_hasInt_0_eq f _ _ _).trans (by simp only [lt_dec (drop_lt hd), drop_get hd, wrap_succ (drop_lt hd) hl, getD_set (drop_lt hd), ge0, Bool.and_self, Bool.true_and, cond_true, cond_false, List.length_set] <;> rfl)) (ev_bif ev_some (A_hasInt_0 rest _ _ _ (by first | exact drop_succ hd | exact drop_set hd | exact drop_setS (drop_set hd)) (by first | exact hl | simpa using hl)))
noncomputable def F_hasInt : ((List (Int)) × Int) → Bool
  | (l, v) => F_hasInt_0 l (l, v, 0)
noncomputable def P_hasInt : ((List (Int)) × Int) → Bool
  | (l, v) => decide (l.length ≤ 1099511627776) && P_hasInt_0 l (l, v, 0)
theorem hasInt_auto : ∀ a : (List (Int)) × Int, Rns (fun f => M_hasInt f a) (P_hasInt a) (F_hasInt a)
  | (l, v) => ev_step (fun f => M_hasInt_eq f _ _) (ev_and fun hh => A_hasInt_0 _ _ _ _ rfl (of_decide_eq_true hh))
theorem hasInt_0P (v : Int) : ∀ (rest l : List Int) (k : Nat), P_hasInt_0 rest (l, v, k) = true
  | [], l, k => rfl
  | u :: r, l, k => by simp only [P_hasInt_0]; rw [hasInt_0P v r]; simp
theorem hasInt_0F (v : Int) : ∀ (rest l : List Int) (k : Nat), F_hasInt_0 rest (l, v, k) = memD v rest
  | [], l, k => rfl
  | u :: r, l, k => by
    simp only [F_hasInt_0, beqI]; rw [hasInt_0F v r, memD_cons]
    cases decide (u = v) <;> rfl
theorem hasInt_P : ∀ a : List Int × Int, len40n a.1 = true → P_hasInt a = true := fun a h => by simp only [P_hasInt, hasInt_0P, Bool.and_true]; exact h
theorem hasInt_F : ∀ a : List Int × Int, len40n a.1 = true → F_hasInt a = memD a.2 a.1 := fun a h => by simp only [F_hasInt, hasInt_0F]
theorem hasInt_run : ∀ a, (fun a => len40n a.1 : (List (Int)) × Int → Bool) a = true → ∃ f, M_hasInt f a = some ((fun a => memD a.2 a.1 : (List (Int)) × Int → Bool) a) := fun a h => by have h1 := hasInt_auto a (hasInt_P a h); rw [hasInt_F a h] at h1; exact h1
noncomputable def E_hasInt : Ent := ⟨31, [.rd [.int .i64], .c (.int .i64)], [.v (.bool)], fun a => (fun a => len40n a.1 : (List (Int)) × Int → Bool) a, fun a => (fun a => memD a.2 a.1 : (List (Int)) × Int → Bool) a⟩
theorem E_hasInt_ok : E_hasInt.Ok Try.prog := fun a hp vs hv => (hasInt_run a hp).elim fun f h => fnX_ok (C := C_hasInt) (Lt := Lt_hasInt) (fn := Try.f31) (rs := [.tmp 4]) [.rd [.int .i64], .c (.int .i64)] [.v (.bool)] mixed es_hasInt Try.func31 rfl rfl rfl (by kernel_rfl) (by kernel_rfl) f h vs hv
def geoS (w : Int) : Int × Int × Int × Bool := bif decide (w = 32) then (2, 10, 4, true) else bif decide (w = 39) then (3, 9, 8, true) else (0, 0, 0, false)
noncomputable def C_geom : Cfg := ⟨Try.prog, [], pmT [], 11, [], []⟩
theorem es_geom : EsOk Try.prog [] [] := es_nil
def Lt_geom : Nat → LD := ldT []
noncomputable def M_geom (f : Nat) (a : Int) : Option (Int × Int × Int × Bool) := (runX (C_geom) Lt_geom (Kret Try.prog [.tmp 2, .tmp 3, .tmp 4, .tmp 5] [.v (.int .i64), .v (.int .i64), .v (.int .i64), .v (.bool)]) f [.code (bodyOf Try.f62)] (initX [.c (.int .i64)] a) : Option (ResT [.v (.int .i64), .v (.int .i64), .v (.int .i64), .v (.bool)]))
theorem M_geom_eq (f : Nat) (width : Int) : M_geom (f + 1) width =
    bif width == 32 then some (2, 10, 4, true) else bif width == 39 then some (3, 9, 8, true) else some (0, 0, 0, false) := by kernel_rfl
noncomputable def F_geom : Int → Int × Int × Int × Bool
  | width => bif width == 32 then (2, 10, 4, true) else bif width == 39 then (3, 9, 8, true) else (0, 0, 0, false)
noncomputable def P_geom : Int → Bool
  | width => true
theorem geom_auto : ∀ a : Int, Rns (fun f => M_geom f a) (P_geom a) (F_geom a)
  | width => ev_step (fun f => M_geom_eq f _) (ev_bift ev_some (ev_bift ev_some ev_some))
theorem geom_P : ∀ a, (fun _ => true) a = true → P_geom a = true := fun a h => rfl
theorem geom_F : ∀ a, (fun _ => true) a = true → F_geom a = geoS a := fun a h => by simp only [F_geom, geoS, beqI]
theorem geom_run : ∀ a, (fun _ => true : Int → Bool) a = true → ∃ f, M_geom f a = some ((geoS : Int → Int × Int × Int × Bool) a) := fun a h => by have h1 := geom_auto a (geom_P a h); rw [geom_F a h] at h1; exact h1
noncomputable def E_geom : Ent := ⟨62, [.c (.int .i64)], [.v (.int .i64), .v (.int .i64), .v (.int .i64), .v (.bool)], fun a => (fun _ => true : Int → Bool) a, fun a => (geoS : Int → Int × Int × Int × Bool) a⟩
theorem E_geom_ok : E_geom.Ok Try.prog := fun a hp vs hv => (geom_run a hp).elim fun f h => fnX_ok (C := C_geom) (Lt := Lt_geom) (fn := Try.f62) (rs := [.tmp 2, .tmp 3, .tmp 4, .tmp 5]) [.c (.int .i64)] [.v (.int .i64), .v (.int .i64), .v (.int .i64), .v (.bool)] mixed es_geom Try.func62 rfl rfl rfl (by kernel_rfl) (by kernel_rfl) f h vs hv
noncomputable def C_rlvs : Cfg := ⟨Try.prog, [], pmT [], 8, [], []⟩
theorem es_rlvs : EsOk Try.prog [] [] := es_nil
def Lt_rlvs : Nat → LD := ldT []
noncomputable def M_rlvs (f : Nat) (a : Int) : Option (Int) := (runX (C_rlvs) Lt_rlvs (Kret Try.prog [.tmp 2] [.v (.int .i64)]) f [.code (bodyOf Try.f89)] (initX [.c (.int .i64)] a) : Option (ResT [.v (.int .i64)]))
theorem M_rlvs_eq (f : Nat) (width : Int) : M_rlvs (f + 1) width =
    bif width == 32 then some 2 else bif width == 39 then some 3 else some 0 := by kernel_rfl
noncomputable def F_rlvs : Int → Int
  | width => bif width == 32 then 2 else bif width == 39 then 3 else 0
noncomputable def P_rlvs : Int → Bool
  | width => true
theorem rlvs_auto : ∀ a : Int, Rns (fun f => M_rlvs f a) (P_rlvs a) (F_rlvs a)
  | width => ev_step (fun f => M_rlvs_eq f _) (ev_bift ev_some (ev_bift ev_some ev_some))
theorem rlvs_P : ∀ a, (fun _ => true) a = true → P_rlvs a = true := fun a h => rfl
theorem rlvs_F : ∀ a, (fun _ => true) a = true → F_rlvs a = (geoS a).1 := fun a h => by
  simp only [F_rlvs, geoS, beqI]; cases decide (a = 32) <;> cases decide (a = 39) <;> rfl
theorem rlvs_run : ∀ a, (fun _ => true : Int → Bool) a = true → ∃ f, M_rlvs f a = some ((fun a => (geoS a).1 : Int → Int) a) := fun a h => by have h1 := rlvs_auto a (rlvs_P a h); rw [rlvs_F a h] at h1; exact h1
noncomputable def E_rlvs : Ent := ⟨89, [.c (.int .i64)], [.v (.int .i64)], fun a => (fun _ => true : Int → Bool) a, fun a => (fun a => (geoS a).1 : Int → Int) a⟩
theorem E_rlvs_ok : E_rlvs.Ok Try.prog := fun a hp vs hv => (rlvs_run a hp).elim fun f h => fnX_ok (C := C_rlvs) (Lt := Lt_rlvs) (fn := Try.f89) (rs := [.tmp 2]) [.c (.int .i64)] [.v (.int .i64)] mixed es_rlvs Try.func89 rfl rfl rfl (by kernel_rfl) (by kernel_rfl) f h vs hv
noncomputable def C_rib : Cfg := ⟨Try.prog, [], pmT [], 8, [], []⟩
theorem es_rib : EsOk Try.prog [] [] := es_nil
def Lt_rib : Nat → LD := ldT []
noncomputable def M_rib (f : Nat) (a : Int) : Option (Int) := (runX (C_rib) Lt_rib (Kret Try.prog [.tmp 2] [.v (.int .i64)]) f [.code (bodyOf Try.f87)] (initX [.c (.int .i64)] a) : Option (ResT [.v (.int .i64)]))
theorem M_rib_eq (f : Nat) (width : Int) : M_rib (f + 1) width =
    bif width == 32 then some 10 else bif width == 39 then some 9 else some 0 := by kernel_rfl
noncomputable def F_rib : Int → Int
  | width => bif width == 32 then 10 else bif width == 39 then 9 else 0
noncomputable def P_rib : Int → Bool
  | width => true
theorem rib_auto : ∀ a : Int, Rns (fun f => M_rib f a) (P_rib a) (F_rib a)
  | width => ev_step (fun f => M_rib_eq f _) (ev_bift ev_some (ev_bift ev_some ev_some))
theorem rib_P : ∀ a, (fun _ => true) a = true → P_rib a = true := fun a h => rfl
theorem rib_F : ∀ a, (fun _ => true) a = true → F_rib a = (geoS a).2.1 := fun a h => by
  simp only [F_rib, geoS, beqI]; cases decide (a = 32) <;> cases decide (a = 39) <;> rfl
theorem rib_run : ∀ a, (fun _ => true : Int → Bool) a = true → ∃ f, M_rib f a = some ((fun a => (geoS a).2.1 : Int → Int) a) := fun a h => by have h1 := rib_auto a (rib_P a h); rw [rib_F a h] at h1; exact h1
noncomputable def E_rib : Ent := ⟨87, [.c (.int .i64)], [.v (.int .i64)], fun a => (fun _ => true : Int → Bool) a, fun a => (fun a => (geoS a).2.1 : Int → Int) a⟩
theorem E_rib_ok : E_rib.Ok Try.prog := fun a hp vs hv => (rib_run a hp).elim fun f h => fnX_ok (C := C_rib) (Lt := Lt_rib) (fn := Try.f87) (rs := [.tmp 2]) [.c (.int .i64)] [.v (.int .i64)] mixed es_rib Try.func87 rfl rfl rfl (by kernel_rfl) (by kernel_rfl) f h vs hv
def palS (b : Int) : Bool := decide (b ≥ 0) && (decide (b < 1099511627776) && decide (Int.tmod b 4096 = 0))
noncomputable def C_pal : Cfg := ⟨Try.prog, [], pmT [], 14, [], []⟩
theorem es_pal : EsOk Try.prog [] [] := es_nil
def Lt_pal : Nat → LD := ldT []
noncomputable def M_pal (f : Nat) (a : Int) : Option (Bool) := (runX (C_pal) Lt_pal (Kret Try.prog [.tmp 2] [.v (.bool)]) f [.code (bodyOf Try.f108)] (initX [.c (.int .i64)] a) : Option (ResT [.v (.bool)]))
theorem M_pal_eq (f : Nat) (base : Int) : M_pal (f + 1) base =
    bif decide (base ≥ 0) then bif decide (base < 1099511627776) then some (base.tmod 4096 == 0) else some false else some false := by kernel_rfl
noncomputable def F_pal : Int → Bool
  | base => bif decide (base ≥ 0) then bif decide (base < 1099511627776) then base.tmod 4096 == 0 else false else false
noncomputable def P_pal : Int → Bool
  | base => true
theorem pal_auto : ∀ a : Int, Rns (fun f => M_pal f a) (P_pal a) (F_pal a)
  | base => ev_step (fun f => M_pal_eq f _) (ev_bift (ev_bift ev_some ev_some) ev_some)
theorem pal_P : ∀ a, (fun _ => true) a = true → P_pal a = true := fun a h => rfl
theorem pal_F : ∀ a, (fun _ => true) a = true → F_pal a = palS a := fun a h => by
  simp only [F_pal, palS, beqI]; cases decide (a ≥ 0) <;> cases decide (a < 1099511627776) <;> rfl
theorem pal_run : ∀ a, (fun _ => true : Int → Bool) a = true → ∃ f, M_pal f a = some ((palS : Int → Bool) a) := fun a h => by have h1 := pal_auto a (pal_P a h); rw [pal_F a h] at h1; exact h1
noncomputable def E_pal : Ent := ⟨108, [.c (.int .i64)], [.v (.bool)], fun a => (fun _ => true : Int → Bool) a, fun a => (palS : Int → Bool) a⟩
theorem E_pal_ok : E_pal.Ok Try.prog := fun a hp vs hv => (pal_run a hp).elim fun f h => fnX_ok (C := C_pal) (Lt := Lt_pal) (fn := Try.f108) (rs := [.tmp 2]) [.c (.int .i64)] [.v (.bool)] mixed es_pal Try.func108 rfl rfl rfl (by kernel_rfl) (by kernel_rfl) f h vs hv
noncomputable def C_rpag : Cfg := ⟨Try.prog, [], pmT [], 14, [], []⟩
theorem es_rpag : EsOk Try.prog [] [] := es_nil
def Lt_rpag : Nat → LD := ldT []
noncomputable def M_rpag (f : Nat) (a : Int) : Option (Bool) := (runX (C_rpag) Lt_rpag (Kret Try.prog [.tmp 2] [.v (.bool)]) f [.code (bodyOf Try.f121)] (initX [.c (.int .i64)] a) : Option (ResT [.v (.bool)]))
theorem M_rpag_eq (f : Nat) (base : Int) : M_rpag (f + 1) base =
    bif decide (base ≥ 0) then bif base.tmod 4096 == 0 then some (decide (base ≤ 1099511623680)) else some false else some false := by kernel_rfl
noncomputable def F_rpag : Int → Bool
  | base => bif decide (base ≥ 0) then bif base.tmod 4096 == 0 then decide (base ≤ 1099511623680) else false else false
noncomputable def P_rpag : Int → Bool
  | base => true
theorem rpag_auto : ∀ a : Int, Rns (fun f => M_rpag f a) (P_rpag a) (F_rpag a)
  | base => ev_step (fun f => M_rpag_eq f _) (ev_bift (ev_bift ev_some ev_some) ev_some)
theorem rpag_P : ∀ a, (fun _ => true) a = true → P_rpag a = true := fun a h => rfl
theorem rpag_F : ∀ a, (fun _ => true) a = true → F_rpag a = palS a := fun a h => by
  simp only [F_rpag, palS, beqI]
  by_cases h0 : a ≥ 0
  · rw [decide_eq_true h0]
    by_cases h1 : Int.tmod a 4096 = 0
    · have h2 := Int.mul_tdiv_add_tmod a 4096
      rw [decide_eq_true h1]
      have : decide (a ≤ 1099511623680) = decide (a < 1099511627776) := decide_eq_decide.2 (by omega)
      rw [this]; cases decide (a < 1099511627776) <;> rfl
    · rw [decide_eq_false h1]; cases decide (a < 1099511627776) <;> rfl
  · rw [decide_eq_false h0]; rfl
theorem rpag_run : ∀ a, (fun _ => true : Int → Bool) a = true → ∃ f, M_rpag f a = some ((palS : Int → Bool) a) := fun a h => by have h1 := rpag_auto a (rpag_P a h); rw [rpag_F a h] at h1; exact h1
noncomputable def E_rpag : Ent := ⟨121, [.c (.int .i64)], [.v (.bool)], fun a => (fun _ => true : Int → Bool) a, fun a => (palS : Int → Bool) a⟩
theorem E_rpag_ok : E_rpag.Ok Try.prog := fun a hp vs hv => (rpag_run a hp).elim fun f h => fnX_ok (C := C_rpag) (Lt := Lt_rpag) (fn := Try.f121) (rs := [.tmp 2]) [.c (.int .i64)] [.v (.bool)] mixed es_rpag Try.func121 rfl rfl rfl (by kernel_rfl) (by kernel_rfl) f h vs hv
def ftS (ts : List SPT) (base : Int) : Int := findI (fun t => decide (t.1 = base)) ts 0
def fmS (l : List SMp) (index : Int) : Int := findI (fun m => decide (m.1 = index)) l 0
noncomputable def C_ftab : Cfg := ⟨Try.prog, [], pmT [], 20, [], []⟩
theorem es_ftab : EsOk Try.prog [] [] := es_nil
def Lt_ftab : Nat → LD := ldT [(0, ⟨[.rd 0 tSPT, .c 1 (.int .i64), .c 5 (.int .i64)], [], 0⟩)]
noncomputable def M_ftab (f : Nat) (a : (List (SPT)) × Int) : Option (Int) := (runX (C_ftab) Lt_ftab (Kret Try.prog [.tmp 4] [.v (.int .i64)]) f [.code (bodyOf Try.f30)] (initX [.rd tSPT, .c (.int .i64)] a) : Option (ResT [.v (.int .i64)]))
noncomputable def L_ftab_0 (f : Nat) (x : (List (SPT)) × Int × Int) : Option (Int) := (runX (C_ftab) Lt_ftab (Kret Try.prog [.tmp 4] [.v (.int .i64)]) f (headOf Try.f30 0) ((Lt_ftab 0).mk' x) : Option (ResT [.v (.int .i64)]))
theorem M_ftab_eq (f : Nat) (ts : List (SPT)) (base : Int) : M_ftab (f + 1) (ts, base) =
    L_ftab_0 f (ts, base, 0) := by kernel_rfl
theorem L_ftab_0_eq (f : Nat) (ts : List (SPT)) (base : Int) (i : Int) : L_ftab_0 (f + 1) (ts, base, i) =
    bif decide (i < (↑ts.length : Int)) then bif decide (0 ≤ i) && decide (i < (↑ts.length : Int)) then bif (ts.getD i.toNat (0, 0, 0, [])).1 == base then some i else L_ftab_0 f (ts, base, IntKind.i64.wrap (i + 1)) else none else some (-1) := by kernel_rfl
noncomputable def F_ftab_0 : List (SPT) → ((List (SPT)) × Int × Nat) → Int
  | [], (ts, base, i) => -1
  | uu :: rest, (ts, base, i) => bif uu.1 == base then (↑i : Int) else F_ftab_0 rest (ts, base, i + 1)
noncomputable def P_ftab_0 : List (SPT) → ((List (SPT)) × Int × Nat) → Bool
  | [], (ts, base, i) => true
  | uu :: rest, (ts, base, i) => bif uu.1 == base then true else P_ftab_0 rest (ts, base, i + 1)
theorem A_ftab_0 : ∀ (rest : List (SPT)) (ts : List (SPT)) (base : Int) (i : Nat) (hd : ts.drop i = rest) (hl : ts.length ≤ 1099511627776), Rns (fun f => L_ftab_0 f (ts, base, ((i : Nat) : Int))) (P_ftab_0 rest (ts, base, i)) (F_ftab_0 rest (ts, base, i))
  | [], ts, base, i, hd, hl => ev_step (T := fun f => some (-1)) (fun f => (L_ftab_0_eq f _ _ _).trans (by simp only [ge_dec (drop_ge hd), ge0, Bool.and_self, Bool.true_and, cond_true, cond_false, List.length_set] <;> rfl)) ev_some
  | uu :: rest, ts, base, i, hd, hl => ev_step (T := fun f => bif uu.1 == base then some (↑i : Int) else L_ftab_0 f (ts, base, (↑(i + 1) : Int))) (fun f => (L_ftab_0_eq f _ _ _).trans (by simp only [lt_dec (drop_lt hd), drop_get hd, wrap_succ (drop_lt hd) hl, getD_set (drop_lt hd), ge0, Bool.and_self, Bool.true_and, cond_true, cond_false, List.length_set] <;> rfl)) (ev_bif ev_some (A_ftab_0 rest _ _ _ (by first | exact drop_succ hd | exact drop_set hd | exact drop_setS (drop_set hd)) (by first | exact hl | simpa using hl)))
noncomputable def F_ftab : ((List (SPT)) × Int) → Int
  | (ts, base) => F_ftab_0 ts (ts, base, 0)
noncomputable def P_ftab : ((List (SPT)) × Int) → Bool
  | (ts, base) => decide (ts.length ≤ 1099511627776) && P_ftab_0 ts (ts, base, 0)
theorem ftab_auto : ∀ a : (List (SPT)) × Int, Rns (fun f => M_ftab f a) (P_ftab a) (F_ftab a)
  | (ts, base) => ev_step (fun f => M_ftab_eq f _ _) (ev_and fun hh => A_ftab_0 _ _ _ _ rfl (of_decide_eq_true hh))
theorem ftab_0 (l : List SPT) (b : Int) : ∀ (r : List SPT) (k : Nat), F_ftab_0 r (l, b, k) = findI (fun t => decide (t.1 = b)) r k ∧ P_ftab_0 r (l, b, k) = true
  | [], k => ⟨rfl, rfl⟩
  | u :: r, k => by
    obtain ⟨i1, i2⟩ := ftab_0 l b r (k + 1)
    simp only [F_ftab_0, P_ftab_0, findI, beqI, i1, i2]
    exact ⟨rfl, by cases decide (u.1 = b) <;> rfl⟩
theorem ftab_P : ∀ a : List SPT × Int, len40n a.1 = true → P_ftab a = true := fun a h => by simp only [P_ftab, (ftab_0 _ _ _ _).2, Bool.and_true]; exact h
theorem ftab_F : ∀ a : List SPT × Int, len40n a.1 = true → F_ftab a = ftS a.1 a.2 := fun a h => by simp only [F_ftab, (ftab_0 _ _ _ _).1]; rfl
theorem ftab_run : ∀ a, (fun a => len40n a.1 : (List (SPT)) × Int → Bool) a = true → ∃ f, M_ftab f a = some ((fun a => ftS a.1 a.2 : (List (SPT)) × Int → Int) a) := fun a h => by have h1 := ftab_auto a (ftab_P a h); rw [ftab_F a h] at h1; exact h1
noncomputable def E_ftab : Ent := ⟨30, [.rd tSPT, .c (.int .i64)], [.v (.int .i64)], fun a => (fun a => len40n a.1 : (List (SPT)) × Int → Bool) a, fun a => (fun a => ftS a.1 a.2 : (List (SPT)) × Int → Int) a⟩
theorem E_ftab_ok : E_ftab.Ok Try.prog := fun a hp vs hv => (ftab_run a hp).elim fun f h => fnX_ok (C := C_ftab) (Lt := Lt_ftab) (fn := Try.f30) (rs := [.tmp 4]) [.rd tSPT, .c (.int .i64)] [.v (.int .i64)] mixed es_ftab Try.func30 rfl rfl rfl (by kernel_rfl) (by kernel_rfl) f h vs hv
noncomputable def C_fmap : Cfg := ⟨Try.prog, [], pmT [], 22, [], []⟩
theorem es_fmap : EsOk Try.prog [] [] := es_nil
def Lt_fmap : Nat → LD := ldT [(0, ⟨[.c 1 (.int .i64), .box 2 2 60 4 tSPT, .c 5 (.int .i64)], [], 0⟩)]
noncomputable def M_fmap (f : Nat) (a : SPT × Int) : Option (Int) := (runX (C_fmap) Lt_fmap (Kret Try.prog [.tmp 4] [.v (.int .i64)]) f [.code (bodyOf Try.f32)] (initX [.g tSPT, .c (.int .i64)] a) : Option (ResT [.v (.int .i64)]))
noncomputable def L_fmap_0 (f : Nat) (x : Int × SPT × Int) : Option (Int) := (runX (C_fmap) Lt_fmap (Kret Try.prog [.tmp 4] [.v (.int .i64)]) f (headOf Try.f32 0) ((Lt_fmap 0).mk' x) : Option (ResT [.v (.int .i64)]))
theorem M_fmap_eq (f : Nat) (t : SPT) (index : Int) : M_fmap (f + 1) (t, index) =
    L_fmap_0 f (index, t, 0) := by kernel_rfl
theorem L_fmap_0_eq (f : Nat) (index : Int) (t : SPT) (i : Int) : L_fmap_0 (f + 1) (index, t, i) =
    bif decide (i < (↑(List.length t.2.2.2) : Int)) then bif decide (0 ≤ i) && decide (i < (↑(List.length t.2.2.2) : Int)) then bif (List.getD t.2.2.2 i.toNat (0, 0, 0, 0, 0, 0)).1 == index then some i else L_fmap_0 f (index, t, IntKind.i64.wrap (i + 1)) else none else some (-1) := by kernel_rfl
noncomputable def F_fmap_0 : List (Int × Int × Int × Int × Int × Int) → (Int × SPT × Nat) → Int
  | [], (index, t, i) => -1
  | uu :: rest, (index, t, i) => bif uu.1 == index then (↑i : Int) else F_fmap_0 rest (index, t, i + 1)
noncomputable def P_fmap_0 : List (Int × Int × Int × Int × Int × Int) → (Int × SPT × Nat) → Bool
  | [], (index, t, i) => true
  | uu :: rest, (index, t, i) => bif uu.1 == index then true else P_fmap_0 rest (index, t, i + 1)
theorem A_fmap_0 : ∀ (rest : List (Int × Int × Int × Int × Int × Int)) (index : Int) (t : SPT) (i : Nat) (hd : t.snd.snd.snd.drop i = rest) (hl : t.snd.snd.snd.length ≤ 1099511627776), Rns (fun f => L_fmap_0 f (index, t, ((i : Nat) : Int))) (P_fmap_0 rest (index, t, i)) (F_fmap_0 rest (index, t, i))
  | [], index, t, i, hd, hl => ev_step (T := fun f => some (-1)) (fun f => (L_fmap_0_eq f _ _ _).trans (by simp only [ge_dec (drop_ge hd), ge0, Bool.and_self, Bool.true_and, cond_true, cond_false, List.length_set] <;> rfl)) ev_some
  | uu :: rest, index, t, i, hd, hl => ev_step (T := fun f => bif uu.1 == index then some (↑i : Int) else L_fmap_0 f (index, t, (↑(i + 1) : Int))) (fun f => (L_fmap_0_eq f _ _ _).trans (by simp only [lt_dec (drop_lt hd), drop_get hd, wrap_succ (drop_lt hd) hl, getD_set (drop_lt hd), ge0, Bool.and_self, Bool.true_and, cond_true, cond_false, List.length_set] <;> rfl)) (ev_bif ev_some (A_fmap_0 rest _ _ _ (by first | exact drop_succ hd | exact drop_set hd | exact drop_setS (drop_set hd)) (by first | exact hl | simpa using hl)))
noncomputable def F_fmap : (SPT × Int) → Int
  | (t, index) => F_fmap_0 t.2.2.2 (index, t, 0)
noncomputable def P_fmap : (SPT × Int) → Bool
  | (t, index) => decide (t.2.2.2.length ≤ 1099511627776) && P_fmap_0 t.2.2.2 (index, t, 0)
theorem fmap_auto : ∀ a : SPT × Int, Rns (fun f => M_fmap f a) (P_fmap a) (F_fmap a)
  | (t, index) => ev_step (fun f => M_fmap_eq f _ _) (ev_and fun hh => A_fmap_0 _ _ _ _ rfl (of_decide_eq_true hh))
theorem fmap_0 (x : SPT) (b : Int) : ∀ (r : List SMp) (k : Nat), F_fmap_0 r (b, x, k) = findI (fun t => decide (t.1 = b)) r k ∧ P_fmap_0 r (b, x, k) = true
  | [], k => ⟨rfl, rfl⟩
  | u :: r, k => by
    obtain ⟨i1, i2⟩ := fmap_0 x b r (k + 1)
    simp only [F_fmap_0, P_fmap_0, findI, beqI, i1, i2]
    exact ⟨rfl, by cases decide (u.1 = b) <;> rfl⟩
theorem fmap_P : ∀ a : SPT × Int, len40n a.1.2.2.2 = true → P_fmap a = true := fun a h => by simp only [P_fmap, (fmap_0 _ _ _ _).2, Bool.and_true]; exact h
theorem fmap_F : ∀ a : SPT × Int, len40n a.1.2.2.2 = true → F_fmap a = fmS a.1.2.2.2 a.2 := fun a h => by simp only [F_fmap, (fmap_0 _ _ _ _).1]; rfl
theorem fmap_run : ∀ a, (fun a => len40n a.1.2.2.2 : SPT × Int → Bool) a = true → ∃ f, M_fmap f a = some ((fun a => fmS a.1.2.2.2 a.2 : SPT × Int → Int) a) := fun a h => by have h1 := fmap_auto a (fmap_P a h); rw [fmap_F a h] at h1; exact h1
noncomputable def E_fmap : Ent := ⟨32, [.g tSPT, .c (.int .i64)], [.v (.int .i64)], fun a => (fun a => len40n a.1.2.2.2 : SPT × Int → Bool) a, fun a => (fun a => fmS a.1.2.2.2 a.2 : SPT × Int → Int) a⟩
theorem E_fmap_ok : E_fmap.Ok Try.prog := fun a hp vs hv => (fmap_run a hp).elim fun f h => fnX_ok (C := C_fmap) (Lt := Lt_fmap) (fn := Try.f32) (rs := [.tmp 4]) [.g tSPT, .c (.int .i64)] [.v (.int .i64)] mixed es_fmap Try.func32 rfl rfl rfl (by kernel_rfl) (by kernel_rfl) f h vs hv
noncomputable def C_top : Cfg := ⟨Try.prog, [], pmT [], 2, [], []⟩
theorem es_top : EsOk Try.prog [] [] := es_nil
def Lt_top : Nat → LD := ldT []
noncomputable def M_top (f : Nat) (a : Unit) : Option (SCp) := (runX (C_top) Lt_top (Kret Try.prog [.cell 0 25] [.g tSCp]) f [.code (bodyOf Try.f19)] (initX [] a) : Option (ResT [.g tSCp]))
theorem M_top_eq (f : Nat)  : M_top (f + 1) () =
    some (3, 4096, 12, 7, 32, 1, false) := by kernel_rfl
noncomputable def F_top : Unit → SCp
  | () => (3, 4096, 12, 7, 32, 1, false)
noncomputable def P_top : Unit → Bool
  | () => true
theorem top_auto : ∀ a : Unit, Rns (fun f => M_top f a) (P_top a) (F_top a)
  | () => ev_step (fun f => M_top_eq f ) ev_some
theorem top_P : ∀ a, (fun _ => true) a = true → P_top a = true := fun a h => rfl
theorem top_F : ∀ a, (fun _ => true) a = true → F_top a = (fun _ => ((3, 4096, 12, 7, 32, 1, false) : SCp)) a := fun a h => rfl
theorem top_run : ∀ a, (fun _ => true : Unit → Bool) a = true → ∃ f, M_top f a = some ((fun _ => ((3, 4096, 12, 7, 32, 1, false) : SCp) : Unit → SCp) a) := fun a h => by have h1 := top_auto a (top_P a h); rw [top_F a h] at h1; exact h1
noncomputable def E_top : Ent := ⟨19, [], [.g tSCp], fun a => (fun _ => true : Unit → Bool) a, fun a => (fun _ => ((3, 4096, 12, 7, 32, 1, false) : SCp) : Unit → SCp) a⟩
theorem E_top_ok : E_top.Ok Try.prog := fun a hp vs hv => (top_run a hp).elim fun f h => fnX_ok (C := C_top) (Lt := Lt_top) (fn := Try.f19) (rs := [.cell 0 25]) [] [.g tSCp] mixed es_top Try.func19 rfl rfl rfl (by kernel_rfl) (by kernel_rfl) f h vs hv
noncomputable def C_low : Cfg := ⟨Try.prog, [], pmT [], 2, [], []⟩
theorem es_low : EsOk Try.prog [] [] := es_nil
def Lt_low : Nat → LD := ldT []
noncomputable def M_low (f : Nat) (a : Unit) : Option (SCp) := (runX (C_low) Lt_low (Kret Try.prog [.cell 0 25] [.g tSCp]) f [.code (bodyOf Try.f20)] (initX [] a) : Option (ResT [.g tSCp]))
theorem M_low_eq (f : Nat)  : M_low (f + 1) () =
    some (3, 8192, 12, 7, 32, 0, false) := by kernel_rfl
noncomputable def F_low : Unit → SCp
  | () => (3, 8192, 12, 7, 32, 0, false)
noncomputable def P_low : Unit → Bool
  | () => true
theorem low_auto : ∀ a : Unit, Rns (fun f => M_low f a) (P_low a) (F_low a)
  | () => ev_step (fun f => M_low_eq f ) ev_some
theorem low_P : ∀ a, (fun _ => true) a = true → P_low a = true := fun a h => rfl
theorem low_F : ∀ a, (fun _ => true) a = true → F_low a = (fun _ => ((3, 8192, 12, 7, 32, 0, false) : SCp)) a := fun a h => rfl
theorem low_run : ∀ a, (fun _ => true : Unit → Bool) a = true → ∃ f, M_low f a = some ((fun _ => ((3, 8192, 12, 7, 32, 0, false) : SCp) : Unit → SCp) a) := fun a h => by have h1 := low_auto a (low_P a h); rw [low_F a h] at h1; exact h1
noncomputable def E_low : Ent := ⟨20, [], [.g tSCp], fun a => (fun _ => true : Unit → Bool) a, fun a => (fun _ => ((3, 8192, 12, 7, 32, 0, false) : SCp) : Unit → SCp) a⟩
theorem E_low_ok : E_low.Ok Try.prog := fun a hp vs hv => (low_run a hp).elim fun f h => fnX_ok (C := C_low) (Lt := Lt_low) (fn := Try.f20) (rs := [.cell 0 25]) [] [.g tSCp] mixed es_low Try.func20 rfl rfl rfl (by kernel_rfl) (by kernel_rfl) f h vs hv
noncomputable def C_page : Cfg := ⟨Try.prog, [], pmT [], 2, [], []⟩
theorem es_page : EsOk Try.prog [] [] := es_nil
def Lt_page : Nat → LD := ldT []
noncomputable def M_page (f : Nat) (a : Unit) : Option (SCp) := (runX (C_page) Lt_page (Kret Try.prog [.cell 0 25] [.g tSCp]) f [.code (bodyOf Try.f17)] (initX [] a) : Option (ResT [.g tSCp]))
theorem M_page_eq (f : Nat)  : M_page (f + 1) () =
    some (2, 1048576, 12, 3, 0, 0, false) := by kernel_rfl
noncomputable def F_page : Unit → SCp
  | () => (2, 1048576, 12, 3, 0, 0, false)
noncomputable def P_page : Unit → Bool
  | () => true
theorem page_auto : ∀ a : Unit, Rns (fun f => M_page f a) (P_page a) (F_page a)
  | () => ev_step (fun f => M_page_eq f ) ev_some
theorem page_P : ∀ a, (fun _ => true) a = true → P_page a = true := fun a h => rfl
theorem page_F : ∀ a, (fun _ => true) a = true → F_page a = (fun _ => ((2, 1048576, 12, 3, 0, 0, false) : SCp)) a := fun a h => rfl
theorem page_run : ∀ a, (fun _ => true : Unit → Bool) a = true → ∃ f, M_page f a = some ((fun _ => ((2, 1048576, 12, 3, 0, 0, false) : SCp) : Unit → SCp) a) := fun a h => by have h1 := page_auto a (page_P a h); rw [page_F a h] at h1; exact h1
noncomputable def E_page : Ent := ⟨17, [], [.g tSCp], fun a => (fun _ => true : Unit → Bool) a, fun a => (fun _ => ((2, 1048576, 12, 3, 0, 0, false) : SCp) : Unit → SCp) a⟩
theorem E_page_ok : E_page.Ok Try.prog := fun a hp vs hv => (page_run a hp).elim fun f h => fnX_ok (C := C_page) (Lt := Lt_page) (fn := Try.f17) (rs := [.cell 0 25]) [] [.g tSCp] mixed es_page Try.func17 rfl rfl rfl (by kernel_rfl) (by kernel_rfl) f h vs hv
noncomputable def C_rmbl : Cfg := ⟨Try.prog, [], pmT [], 34, [], []⟩
theorem es_rmbl : EsOk Try.prog [] [] := es_nil
def Lt_rmbl : Nat → LD := ldT []
noncomputable def M_rmbl (f : Nat) (a : SCp × SCp) : Option (Bool) := (runX (C_rmbl) Lt_rmbl (Kret Try.prog [.tmp 4] [.v (.bool)]) f [.code (bodyOf Try.f86)] (initX [.g tSCp, .g tSCp] a) : Option (ResT [.v (.bool)]))
theorem M_rmbl_eq (f : Nat) (table : SCp) (c : SCp) : M_rmbl (f + 1) (table, c) =
    bif table.2.2.2.2.2.1 == 0 then bif c.1 == 2 then some (c.2.2.1 == 12) else some false else bif c.1 == 3 then bif c.2.2.2.2.1 == table.2.2.2.2.1 then some (c.2.2.2.2.2.1 == IntKind.i64.wrap (table.2.2.2.2.2.1 - 1)) else some false else some false := by kernel_rfl
noncomputable def F_rmbl : (SCp × SCp) → Bool
  | (table, c) => bif table.2.2.2.2.2.1 == 0 then bif c.1 == 2 then c.2.2.1 == 12 else false else bif c.1 == 3 then bif c.2.2.2.2.1 == table.2.2.2.2.1 then c.2.2.2.2.2.1 == IntKind.i64.wrap (table.2.2.2.2.2.1 - 1) else false else false
noncomputable def P_rmbl : (SCp × SCp) → Bool
  | (table, c) => true
theorem rmbl_auto : ∀ a : SCp × SCp, Rns (fun f => M_rmbl f a) (P_rmbl a) (F_rmbl a)
  | (table, c) => ev_step (fun f => M_rmbl_eq f _ _) (ev_bift (ev_bift ev_some ev_some) (ev_bift (ev_bift ev_some ev_some) ev_some))
theorem rmbl_P : ∀ a, (fun _ => true) a = true → P_rmbl a = true := fun a h => rfl
theorem rmbl_F : ∀ a, (fun _ => true) a = true → F_rmbl a = F_rmbl a := fun a h => rfl
theorem rmbl_run : ∀ a, (fun _ => true : SCp × SCp → Bool) a = true → ∃ f, M_rmbl f a = some ((F_rmbl : SCp × SCp → Bool) a) := fun a h => by have h1 := rmbl_auto a (rmbl_P a h); rw [rmbl_F a h] at h1; exact h1
noncomputable def E_rmbl : Ent := ⟨86, [.g tSCp, .g tSCp], [.v (.bool)], fun a => (fun _ => true : SCp × SCp → Bool) a, fun a => (F_rmbl : SCp × SCp → Bool) a⟩
theorem E_rmbl_ok : E_rmbl.Ok Try.prog := fun a hp vs hv => (rmbl_run a hp).elim fun f h => fnX_ok (C := C_rmbl) (Lt := Lt_rmbl) (fn := Try.f86) (rs := [.tmp 4]) [.g tSCp, .g tSCp] [.v (.bool)] mixed es_rmbl Try.func86 rfl rfl rfl (by kernel_rfl) (by kernel_rfl) f h vs hv
noncomputable def C_mbl : Cfg := ⟨Try.prog, [], pmT [], 34, [], []⟩
theorem es_mbl : EsOk Try.prog [] [] := es_nil
def Lt_mbl : Nat → LD := ldT []
noncomputable def M_mbl (f : Nat) (a : SCp × SCp) : Option (Bool) := (runX (C_mbl) Lt_mbl (Kret Try.prog [.tmp 4] [.v (.bool)]) f [.code (bodyOf Try.f54)] (initX [.g tSCp, .g tSCp] a) : Option (ResT [.v (.bool)]))
theorem M_mbl_eq (f : Nat) (table : SCp) (c : SCp) : M_mbl (f + 1) (table, c) =
    bif table.2.2.2.2.2.1 == 0 then bif c.1 == 2 then some (c.2.2.1 == 12) else some false else bif c.1 == 3 then bif c.2.2.2.2.1 == table.2.2.2.2.1 then some (c.2.2.2.2.2.1 == IntKind.i64.wrap (table.2.2.2.2.2.1 - 1)) else some false else some false := by kernel_rfl
noncomputable def F_mbl : (SCp × SCp) → Bool
  | (table, c) => bif table.2.2.2.2.2.1 == 0 then bif c.1 == 2 then c.2.2.1 == 12 else false else bif c.1 == 3 then bif c.2.2.2.2.1 == table.2.2.2.2.1 then c.2.2.2.2.2.1 == IntKind.i64.wrap (table.2.2.2.2.2.1 - 1) else false else false
noncomputable def P_mbl : (SCp × SCp) → Bool
  | (table, c) => true
theorem mbl_auto : ∀ a : SCp × SCp, Rns (fun f => M_mbl f a) (P_mbl a) (F_mbl a)
  | (table, c) => ev_step (fun f => M_mbl_eq f _ _) (ev_bift (ev_bift ev_some ev_some) (ev_bift (ev_bift ev_some ev_some) ev_some))
theorem mbl_P : ∀ a, (fun _ => true) a = true → P_mbl a = true := fun a h => rfl
theorem mbl_F : ∀ a, (fun _ => true) a = true → F_mbl a = F_rmbl a := fun a h => rfl
theorem mbl_run : ∀ a, (fun _ => true : SCp × SCp → Bool) a = true → ∃ f, M_mbl f a = some ((F_rmbl : SCp × SCp → Bool) a) := fun a h => by have h1 := mbl_auto a (mbl_P a h); rw [mbl_F a h] at h1; exact h1
noncomputable def E_mbl : Ent := ⟨54, [.g tSCp, .g tSCp], [.v (.bool)], fun a => (fun _ => true : SCp × SCp → Bool) a, fun a => (F_rmbl : SCp × SCp → Bool) a⟩
theorem E_mbl_ok : E_mbl.Ok Try.prog := fun a hp vs hv => (mbl_run a hp).elim fun f h => fnX_ok (C := C_mbl) (Lt := Lt_mbl) (fn := Try.f54) (rs := [.tmp 4]) [.g tSCp, .g tSCp] [.v (.bool)] mixed es_mbl Try.func54 rfl rfl rfl (by kernel_rfl) (by kernel_rfl) f h vs hv
end Go.AL
