/-
  Entries, forests and how they are made: contracts of the functions of layer 13's reference. By an AI agent.
-/
import Derived.Test.YtjlcdgjcbienbaaG1
namespace Go.AL
open Go.Proofs
set_option linter.unusedVariables false
set_option linter.unusedSimpArgs false
abbrev tSEn : List Ty := [.int .i64, .int .i64, .int .i64, .int .i64, .int .i64, .sl [.int .i64, .int .i64, .int .i64], .int .i64, .int .i64, .int .i64, .int .i64, .int .i64, .int .i64, .bool]
abbrev SEn := Int × Int × Int × Int × Int × (List (Int × Int × Int)) × Int × Int × Int × Int × Int × Int × Bool
/-! ### Numbers -/
def place (a : Int × Int) : Int := bif decide (a.2 < 1) then 0 else a.1 % a.2
def place_pre (a : Int × Int) : Bool := decide (a.2 ≤ 4611686018427387904)
def small (a : Int × Int) : Rg := (place (a.1, p2 (16 - (6 + place (a.2, 11)))) * p2 (6 + place (a.2, 11)), 6 + place (a.2, 11))
noncomputable def C_place : Cfg := ⟨Try.prog, [], pmT [], 16, [], []⟩
theorem es_place : EsOk Try.prog [] [] := es_nil
def Lt_place : Nat → LD := ldT []
noncomputable def M_place (f : Nat) (a : Int × Int) : Option (Int) := (runX (C_place) Lt_place (Kret Try.prog [.tmp 4] [.v (.int .i64)]) f [.code (bodyOf Try.f18)] (initX [.c (.int .i64), .c (.int .i64)] a) : Option (ResT [.v (.int .i64)]))
theorem M_place_eq (f : Nat) (n : Int) (size : Int) : M_place (f + 1) (n, size) =
    bif decide (size < 1) then some 0 else bif size != 0 then bif decide (n.tmod size < 0) then some (IntKind.i64.wrap (n.tmod size + size)) else some (n.tmod size) else none := by kernel_rfl
theorem tmod_emod {n s : Int} (h : 0 < s) : n % s = if n.tmod s < 0 then n.tmod s + s else n.tmod s := by
  have h1 := Int.mul_tdiv_add_tmod n s
  have h2 := Int.tmod_lt_of_pos n h
  have h3 : -s < n.tmod s := by
    have := Int.tmod_lt_of_pos (-n) h
    rw [Int.neg_tmod] at this; omega
  have e : n % s = (n.tmod s) % s := by
    have : (s * n.tdiv s + n.tmod s) % s = n.tmod s % s := by rw [Int.mul_add_emod_self_left]
    rwa [h1] at this
  rw [e]
  split
  · rename_i h4
    have : (n.tmod s + s) % s = n.tmod s % s := by rw [Int.add_emod_right]
    rw [← this]
    exact Int.emod_eq_of_lt (by omega) (by omega)
  · rename_i h4
    exact Int.emod_eq_of_lt (by omega) h2
theorem place_run : ∀ a, place_pre a = true → ∃ f, M_place f a = some (place a) := by
  rintro ⟨n, s⟩ h
  have h : s ≤ 4611686018427387904 := of_decide_eq_true h
  refine ⟨1, (M_place_eq 0 _ _).trans ?_⟩
  unfold place
  by_cases h1 : s < 1
  · rw [bif_pos h1, bif_pos h1]
  · rw [bif_neg h1, bif_neg h1]
    have h2 : (s != 0) = true := by simp; omega
    have h3 := Int.tmod_lt_of_pos n (by omega : 0 < s)
    have h4 : -s < n.tmod s := by
      have := Int.tmod_lt_of_pos (-n) (by omega : 0 < s)
      rw [Int.neg_tmod] at this; omega
    rw [h2, cond_true, tmod_emod (by omega : 0 < s)]
    by_cases h5 : n.tmod s < 0
    · rw [bif_pos h5, if_pos h5, i64_id (by omega) (by omega)]
    · rw [bif_neg h5, if_neg h5]
theorem place_lo (n s : Int) : 0 ≤ place (n, s) := by
  unfold place
  by_cases h : s < 1
  · rw [bif_pos h]; omega
  · rw [bif_neg h]; exact Int.emod_nonneg _ (by show s ≠ 0; omega)
theorem place_hi (n : Int) {s : Int} (h : 0 < s) : place (n, s) < s := by
  unfold place
  rw [bif_neg (by show ¬ s < 1; omega)]; exact Int.emod_lt_of_pos _ h
noncomputable def E_place : Ent := ⟨18, [.c (.int .i64), .c (.int .i64)], [.v (.int .i64)], fun a => (place_pre : Int × Int → Bool) a, fun a => (place : Int × Int → Int) a⟩
theorem E_place_ok : E_place.Ok Try.prog := fun a hp vs hv => (place_run a hp).elim fun f h => fnX_ok (C := C_place) (Lt := Lt_place) (fn := Try.f18) (rs := [.tmp 4]) [.c (.int .i64), .c (.int .i64)] [.v (.int .i64)] mixed es_place Try.func18 rfl rfl rfl (by kernel_rfl) (by kernel_rfl) f h vs hv
noncomputable def C_small : Cfg := ⟨Try.prog, [E_place], pmT [], 20, [], []⟩
theorem es_small : EsOk Try.prog [E_place] [] := es_cons E_place_ok (es_nil)
def Lt_small : Nat → LD := ldT []
noncomputable def M_small (f : Nat) (a : Int × Int) : Option (Rg) := (runX (C_small) Lt_small (Kret Try.prog [.cell 4 99] [.g tRg]) f [.code (bodyOf Try.f105)] (initX [.c (.int .i64), .c (.int .i64)] a) : Option (ResT [.g tRg]))
theorem M_small_eq (f : Nat) (base : Int) (bits : Int) : M_small (f + 1) (base, bits) =
    bif decide (0 ≤ IntKind.u64.wrap (IntKind.i64.wrap (16 - IntKind.i64.wrap (6 + place (bits, 11))))) then bif place_pre (base, IntKind.i64.wrap (1 * 2 ^ min (IntKind.u64.wrap (IntKind.i64.wrap (16 - IntKind.i64.wrap (6 + place (bits, 11))))).toNat IntKind.i64.bits)) then bif decide (0 ≤ IntKind.u64.wrap (IntKind.i64.wrap (6 + place (bits, 11)))) then some (IntKind.i64.wrap (place (base, IntKind.i64.wrap (1 * 2 ^ min (IntKind.u64.wrap (IntKind.i64.wrap (16 - IntKind.i64.wrap (6 + place (bits, 11))))).toNat IntKind.i64.bits)) * 2 ^ min (IntKind.u64.wrap (IntKind.i64.wrap (6 + place (bits, 11)))).toNat IntKind.i64.bits), IntKind.i64.wrap (6 + place (bits, 11))) else none else none else none := by kernel_rfl
theorem small_run : ∀ a, (fun _ => true) a = true → ∃ f, M_small f a = some (small a) := by
  rintro ⟨base, bits⟩ _
  refine ⟨1, (M_small_eq 0 _ _).trans ?_⟩
  have h1 := place_lo bits 11
  have h2 := place_hi bits (s := 11) (by omega)
  simp only [small]
  generalize place (bits, 11) = t at h1 h2 ⊢
  rw [i64_id (n := 6 + t) (by omega) (by omega), i64_id (n := 16 - (6 + t)) (by omega) (by omega), u64_id (n := 16 - (6 + t)) (by omega) (by omega), u64_id (n := 6 + t) (by omega) (by omega)]
  rw [sh1 (k := 16 - (6 + t)) (by omega) (by omega)]
  have h3 := p2_pos (16 - (6 + t))
  have h4 := p2_le40 (k := 16 - (6 + t)) (by omega)
  have h5 : place_pre (base, p2 (16 - (6 + t))) = true := decide_eq_true (by show p2 _ ≤ _; omega)
  have h6 := place_lo base (p2 (16 - (6 + t)))
  have h7 := place_hi base h3
  have h8 : place (base, p2 (16 - (6 + t))) * p2 (6 + t) ≤ p2 (16 - (6 + t)) * p2 (6 + t) := Int.mul_le_mul_of_nonneg_right (by omega) (Int.le_of_lt (p2_pos _))
  have h9 : 0 ≤ place (base, p2 (16 - (6 + t))) * p2 (6 + t) := Int.mul_nonneg h6 (Int.le_of_lt (p2_pos _))
  have h10 : p2 (16 - (6 + t)) * p2 (6 + t) = p2 16 := by rw [← p2_add (by omega) (by omega)]; congr 1; omega
  have h11 : p2 16 ≤ 1099511627776 := p2_le40 (by omega)
  rw [shp (k := 6 + t) (by omega) (by omega) (by omega) (by omega), h5]
  rw [bif_pos (by omega : (0:Int) ≤ 16 - (6 + t)), cond_true, bif_pos (by omega : (0:Int) ≤ 6 + t)]
noncomputable def E_small : Ent := ⟨105, [.c (.int .i64), .c (.int .i64)], [.g tRg], fun a => (fun _ => true : Int × Int → Bool) a, fun a => (small : Int × Int → Rg) a⟩
theorem E_small_ok : E_small.Ok Try.prog := fun a hp vs hv => (small_run a hp).elim fun f h => fnX_ok (C := C_small) (Lt := Lt_small) (fn := Try.f105) (rs := [.cell 4 99]) [.c (.int .i64), .c (.int .i64)] [.g tRg] mixed es_small Try.func105 rfl rfl rfl (by kernel_rfl) (by kernel_rfl) f h vs hv
theorem bif_tt' {a b : Bool} (h : b = true) : (bif a then true else b) = true := by cases a <;> simp [h]
def atS (a : List Int × Int) : Int := bif decide (a.2 < 0) then 0 else bif decide (a.2 ≥ ((a.1.length : Nat) : Int)) then 0 else a.1.getD a.2.toNat 0
noncomputable def C_at : Cfg := ⟨Try.prog, [], pmT [], 17, [], []⟩
theorem es_at : EsOk Try.prog [] [] := es_nil
def Lt_at : Nat → LD := ldT []
noncomputable def M_at (f : Nat) (a : (List (Int)) × Int) : Option (Int) := (runX (C_at) Lt_at (Kret Try.prog [.tmp 4] [.v (.int .i64)]) f [.code (bodyOf Try.f45)] (initX [.rd [.int .i64], .c (.int .i64)] a) : Option (ResT [.v (.int .i64)]))
theorem M_at_eq (f : Nat) (l : List (Int)) (i : Int) : M_at (f + 1) (l, i) =
    bif decide (i < 0) then some 0 else bif decide (i ≥ (↑l.length : Int)) then some 0 else bif decide (0 ≤ i) && decide (i < (↑l.length : Int)) then some (l.getD i.toNat 0) else none := by kernel_rfl
noncomputable def F_at : ((List (Int)) × Int) → Int
  | (l, i) => bif decide (i < 0) then 0 else bif decide (i ≥ (↑l.length : Int)) then 0 else l.getD i.toNat 0
noncomputable def P_at : ((List (Int)) × Int) → Bool
  | (l, i) => bif decide (i < 0) then true else bif decide (i ≥ (↑l.length : Int)) then true else decide (0 ≤ i) && decide (i < (↑l.length : Int))
theorem at_auto : ∀ a : (List (Int)) × Int, Rns (fun f => M_at f a) (P_at a) (F_at a)
  | (l, i) => ev_step (fun f => M_at_eq f _ _) (ev_bif ev_some (ev_bif ev_some (ev_chk1 ev_some)))
theorem at_P : ∀ a, (fun _ => true) a = true → P_at a = true := by
  rintro ⟨l, i⟩ _
  simp only [P_at]
  by_cases h1 : i < 0
  · rw [bif_pos h1]
  · rw [bif_neg h1]
    by_cases h2 : i ≥ ((l.length : Nat) : Int)
    · rw [bif_pos h2]
    · rw [bif_neg h2, decide_eq_true (show 0 ≤ i by omega), decide_eq_true (show i < ((l.length : Nat) : Int) by omega)]; rfl
theorem at_F : ∀ a, (fun _ => true) a = true → F_at a = atS a := fun _ _ => rfl
theorem at_run : ∀ a, (fun _ => true : (List (Int)) × Int → Bool) a = true → ∃ f, M_at f a = some ((atS : (List (Int)) × Int → Int) a) := fun a h => by have h1 := at_auto a (at_P a h); rw [at_F a h] at h1; exact h1
noncomputable def E_at : Ent := ⟨45, [.rd [.int .i64], .c (.int .i64)], [.v (.int .i64)], fun a => (fun _ => true : (List (Int)) × Int → Bool) a, fun a => (atS : (List (Int)) × Int → Int) a⟩
theorem E_at_ok : E_at.Ok Try.prog := fun a hp vs hv => (at_run a hp).elim fun f h => fnX_ok (C := C_at) (Lt := Lt_at) (fn := Try.f45) (rs := [.tmp 4]) [.rd [.int .i64], .c (.int .i64)] [.v (.int .i64)] mixed es_at Try.func45 rfl rfl rfl (by kernel_rfl) (by kernel_rfl) f h vs hv
noncomputable def C_unt : Cfg := ⟨Try.prog, [E_small], pmT [], 14, [], []⟩
theorem es_unt : EsOk Try.prog [E_small] [] := es_cons E_small_ok (es_nil)
def Lt_unt : Nat → LD := ldT []
noncomputable def M_unt (f : Nat) (a : Int × Int) : Option (SCp) := (runX (C_unt) Lt_unt (Kret Try.prog [.cell 4 29] [.g tSCp]) f [.code (bodyOf Try.f87)] (initX [.c (.int .i64), .c (.int .i64)] a) : Option (ResT [.g tSCp]))
theorem M_unt_eq (f : Nat) (base : Int) (bits : Int) : M_unt (f + 1) (base, bits) =
    some (1, (small (base, bits)).1, (small (base, bits)).2, 7, 0, 0, false) := by kernel_rfl
noncomputable def F_unt : (Int × Int) → SCp
  | (base, bits) => (1, (small (base, bits)).1, (small (base, bits)).2, 7, 0, 0, false)
noncomputable def P_unt : (Int × Int) → Bool
  | (base, bits) => true
theorem unt_auto : ∀ a : Int × Int, Rns (fun f => M_unt f a) (P_unt a) (F_unt a)
  | (base, bits) => ev_step (fun f => M_unt_eq f _ _) ev_some
def untS (a : Int × Int) : SCp := (1, (small a).1, (small a).2, 7, 0, 0, false)
theorem unt_P : ∀ a, (fun _ => true) a = true → P_unt a = true := fun _ _ => rfl
theorem unt_F : ∀ a, (fun _ => true) a = true → F_unt a = untS a := fun _ _ => rfl
theorem unt_run : ∀ a, (fun _ => true : Int × Int → Bool) a = true → ∃ f, M_unt f a = some ((untS : Int × Int → SCp) a) := fun a h => by have h1 := unt_auto a (unt_P a h); rw [unt_F a h] at h1; exact h1
noncomputable def E_unt : Ent := ⟨87, [.c (.int .i64), .c (.int .i64)], [.g tSCp], fun a => (fun _ => true : Int × Int → Bool) a, fun a => (untS : Int × Int → SCp) a⟩
theorem E_unt_ok : E_unt.Ok Try.prog := fun a hp vs hv => (unt_run a hp).elim fun f h => fnX_ok (C := C_unt) (Lt := Lt_unt) (fn := Try.f87) (rs := [.cell 4 29]) [.c (.int .i64), .c (.int .i64)] [.g tSCp] mixed es_unt Try.func87 rfl rfl rfl (by kernel_rfl) (by kernel_rfl) f h vs hv
/-! ### Entries -/
def eid (e : SEn) : SId := nid e.2.2
def epath (e : SEn) : List SId := npath e.2.2
def ecap (e : SEn) : SCp := ncap e.2.2
def okE (l : List SEn) : Bool := decide (l.length ≤ 1099511627776) && l.all fun e => len40n e.2.2.2.2.2.1
theorem okE_len {l : List SEn} (h : okE l = true) : l.length ≤ 1099511627776 := by
  simp only [okE, Bool.and_eq_true, decide_eq_true_eq] at h; exact h.1
theorem okE_mem {l : List SEn} (h : okE l = true) {e : SEn} (he : e ∈ l) : len40n e.2.2.2.2.2.1 = true := by
  simp only [okE, Bool.and_eq_true] at h; exact List.all_eq_true.1 h.2 e he
theorem okE_mk {l : List SEn} (h1 : l.length ≤ 1099511627776) (h2 : ∀ e ∈ l, len40n e.2.2.2.2.2.1 = true) : okE l = true := by
  simp only [okE, Bool.and_eq_true, decide_eq_true_eq]; exact ⟨h1, List.all_eq_true.2 h2⟩
noncomputable def C_rcent : Cfg := ⟨Try.prog, [E_cnode], pmT [(5, ([(0, []), (1, []), (2, []), (3, []), (4, []), (5, []), (6, []), (7, []), (8, []), (9, []), (10, []), (11, []), (12, []), (13, []), (14, []), (15, []), (16, []), (17, []), (18, []), (19, []), (20, [])], [(3, 3), (11, 30)]))], 32, [], []⟩
theorem es_rcent : EsOk Try.prog [E_cnode] [] := es_cons E_cnode_ok (es_nil)
def Lt_rcent : Nat → LD := ldT [(0, ⟨[.rd 0 tSEn, .list 3 999 74 13 tSEn, .c 4 (.int .i64)], [], 0⟩)]
noncomputable def M_rcent (f : Nat) (a : (List (SEn))) : Option ((List (SEn))) := (runX (C_rcent) Lt_rcent (Kret Try.prog [.tmp 2] [.o 74 13 tSEn]) f [.code (bodyOf Try.f67)] (initX [.rd tSEn] a) : Option (ResT [.o 74 13 tSEn]))
noncomputable def L_rcent_0 (f : Nat) (x : (List (SEn)) × (List (SEn)) × Int) : Option ((List (SEn))) := (runX (C_rcent) Lt_rcent (Kret Try.prog [.tmp 2] [.o 74 13 tSEn]) f (headOf Try.f67 0) ((Lt_rcent 0).mk' x) : Option (ResT [.o 74 13 tSEn]))
theorem M_rcent_eq (f : Nat) (l : List (SEn)) : M_rcent (f + 1) l =
    L_rcent_0 f (l, [], 0) := by kernel_rfl
theorem L_rcent_0_eq (f : Nat) (l : List (SEn)) (out : List (SEn)) (i : Int) : L_rcent_0 (f + 1) (l, out, i) =
    bif decide (i < (↑l.length : Int)) then bif decide (0 ≤ i) && decide (i < (↑l.length : Int)) then bif decide (0 ≤ i) && decide (i < (↑l.length : Int)) then bif decide (0 ≤ i) && decide (i < (↑l.length : Int)) then bif len40n (l.getD i.toNat (0, 0, 0, 0, 0, [], 0, 0, 0, 0, 0, 0, false)).2.2.2.2.2.1 then bif decide ((out.length + [((l.getD i.toNat (0, 0, 0, 0, 0, [], 0, 0, 0, 0, 0, 0, false)).1, (l.getD i.toNat (0, 0, 0, 0, 0, [], 0, 0, 0, 0, 0, 0, false)).2.1, (l.getD i.toNat (0, 0, 0, 0, 0, [], 0, 0, 0, 0, 0, 0, false)).2.2)].length) * 120 ≤ 140737488355328) then L_rcent_0 f (l, out ++ [l.getD i.toNat (0, 0, 0, 0, 0, [], 0, 0, 0, 0, 0, 0, false)], IntKind.i64.wrap (i + 1)) else none else none else none else none else none else some out := by kernel_rfl
noncomputable def F_rcent_0 : List (SEn) → ((List (SEn)) × (List (SEn)) × Nat) → (List (SEn))
  | [], (l, out, i) => out
  | uu :: rest, (l, out, i) => F_rcent_0 rest (l, out ++ [uu], i + 1)
noncomputable def P_rcent_0 : List (SEn) → ((List (SEn)) × (List (SEn)) × Nat) → Bool
  | [], (l, out, i) => true
  | uu :: rest, (l, out, i) => len40n uu.2.2.2.2.2.1 && (decide ((out.length + [(uu.1, uu.2.1, uu.2.2)].length) * 120 ≤ 140737488355328) && P_rcent_0 rest (l, out ++ [uu], i + 1))
theorem A_rcent_0 : ∀ (rest : List (SEn)) (l : List (SEn)) (out : List (SEn)) (i : Nat) (hd : l.drop i = rest) (hl : l.length ≤ 1099511627776), Rns (fun f => L_rcent_0 f (l, out, ((i : Nat) : Int))) (P_rcent_0 rest (l, out, i)) (F_rcent_0 rest (l, out, i))
  | [], l, out, i, hd, hl => ev_step (T := fun f => some out) (fun f => (L_rcent_0_eq f _ _ _).trans (by simp only [ge_dec (drop_ge hd), ge0, Bool.and_self, Bool.true_and, cond_true, cond_false, List.length_set] <;> rfl)) ev_some
  | uu :: rest, l, out, i, hd, hl => ev_step (T := fun f => bif len40n uu.2.2.2.2.2.1 then bif decide ((out.length + [(uu.1, uu.2.1, uu.2.2)].length) * 120 ≤ 140737488355328) then L_rcent_0 f (l, out ++ [uu], (↑(i + 1) : Int)) else none else none) (fun f => (L_rcent_0_eq f _ _ _).trans (by simp only [lt_dec (drop_lt hd), drop_get hd, wrap_succ (drop_lt hd) hl, getD_set (drop_lt hd), ge0, Bool.and_self, Bool.true_and, cond_true, cond_false, List.length_set] <;> rfl)) (ev_chk (ev_chk (A_rcent_0 rest _ _ _ (by first | exact drop_succ hd | exact drop_set hd | exact drop_setS (drop_set hd)) (by first | exact hl | simpa using hl))))
noncomputable def F_rcent : (List (SEn)) → (List (SEn))
  | l => F_rcent_0 l (l, [], 0)
noncomputable def P_rcent : (List (SEn)) → Bool
  | l => decide (l.length ≤ 1099511627776) && P_rcent_0 l (l, [], 0)
theorem rcent_auto : ∀ a : (List (SEn)), Rns (fun f => M_rcent f a) (P_rcent a) (F_rcent a)
  | l => ev_step (fun f => M_rcent_eq f _) (ev_and fun hh => A_rcent_0 _ _ _ _ rfl (of_decide_eq_true hh))
theorem rcent_0 (l : List SEn) : ∀ (r : List SEn) (out : List SEn) (k : Nat), (∀ e ∈ r, len40n e.2.2.2.2.2.1 = true) → out.length + r.length ≤ 1099511627776 → F_rcent_0 r (l, out, k) = out ++ r ∧ P_rcent_0 r (l, out, k) = true
  | [], out, k, h, hl => ⟨by simp [F_rcent_0], rfl⟩
  | u :: r, out, k, h, hl => by
    obtain ⟨i1, i2⟩ := rcent_0 l r (out ++ [u]) (k + 1) (fun e he => h e (List.mem_cons_of_mem _ he)) (by simp at hl ⊢; omega)
    have h1 := h u (List.mem_cons_self ..)
    simp only [F_rcent_0, P_rcent_0, i1, i2, h1]
    exact ⟨by simp, by simp at hl ⊢; omega⟩
theorem rcent_P : ∀ a, okE a = true → P_rcent a = true := fun a h => by
  simp only [P_rcent, (rcent_0 a a [] 0 (fun e he => okE_mem h he) (by simpa using okE_len h)).2, Bool.and_true]; exact decide_eq_true (okE_len h)
theorem rcent_F : ∀ a, okE a = true → F_rcent a = a := fun a h => by
  simp only [F_rcent, (rcent_0 a a [] 0 (fun e he => okE_mem h he) (by simpa using okE_len h)).1, List.nil_append]
theorem rcent_run : ∀ a, (okE : (List (SEn)) → Bool) a = true → ∃ f, M_rcent f a = some ((fun a => a : (List (SEn)) → (List (SEn))) a) := fun a h => by have h1 := rcent_auto a (rcent_P a h); rw [rcent_F a h] at h1; exact h1
noncomputable def E_rcent : Ent := ⟨67, [.rd tSEn], [.o 74 13 tSEn], fun a => (okE : (List (SEn)) → Bool) a, fun a => (fun a => a : (List (SEn)) → (List (SEn))) a⟩
theorem E_rcent_ok : E_rcent.Ok Try.prog := fun a hp vs hv => (rcent_run a hp).elim fun f h => fnX_ok (C := C_rcent) (Lt := Lt_rcent) (fn := Try.f67) (rs := [.tmp 2]) [.rd tSEn] [.o 74 13 tSEn] mixed es_rcent Try.func67 rfl rfl rfl (by kernel_rfl) (by kernel_rfl) f h vs hv
def findI {α : Type} (p : α → Bool) : List α → Int → Int
  | [], _ => -1
  | u :: r, k => bif p u then k else findI p r (k + 1)
def findE (l : List SEn) (id : SId) : Int := findI (fun e => decide (eid e = id)) l 0
def atE (l : List SEn) (core slot : Int) : Int := findI (fun e => decide (e.1 = core) && decide (e.2.1 = slot)) l 0
theorem eid_eq (u : SEn) (id : SId) : (u.2.2.1 == id.1 && (u.2.2.2.1 == id.2.1 && (u.2.2.2.2.1 == id.2.2 && true))) = decide (eid u = id) := id_eq (eid u) id
noncomputable def C_rfent : Cfg := ⟨Try.prog, [], pmT [(4, ([(0, []), (1, []), (2, []), (3, []), (4, []), (5, []), (6, []), (7, [])], [(12, 19)]))], 21, [], []⟩
theorem es_rfent : EsOk Try.prog [] [] := es_nil
def Lt_rfent : Nat → LD := ldT [(0, ⟨[.rd 0 tSEn, .box 3 3 26 3 tSId, .c 5 (.int .i64)], [], 0⟩)]
noncomputable def M_rfent (f : Nat) (a : (List (SEn)) × SId) : Option (Int) := (runX (C_rfent) Lt_rfent (Kret Try.prog [.tmp 4] [.v (.int .i64)]) f [.code (bodyOf Try.f69)] (initX [.rd tSEn, .g tSId] a) : Option (ResT [.v (.int .i64)]))
noncomputable def L_rfent_0 (f : Nat) (x : (List (SEn)) × SId × Int) : Option (Int) := (runX (C_rfent) Lt_rfent (Kret Try.prog [.tmp 4] [.v (.int .i64)]) f (headOf Try.f69 0) ((Lt_rfent 0).mk' x) : Option (ResT [.v (.int .i64)]))
theorem M_rfent_eq (f : Nat) (l : List (SEn)) (id : SId) : M_rfent (f + 1) (l, id) =
    L_rfent_0 f (l, id, 0) := by kernel_rfl
theorem L_rfent_0_eq (f : Nat) (l : List (SEn)) (id : SId) (i : Int) : L_rfent_0 (f + 1) (l, id, i) =
    bif decide (i < (↑l.length : Int)) then bif decide (0 ≤ i) && decide (i < (↑l.length : Int)) then bif (l.getD i.toNat (0, 0, 0, 0, 0, [], 0, 0, 0, 0, 0, 0, false)).2.2.1 == id.1 && ((l.getD i.toNat (0, 0, 0, 0, 0, [], 0, 0, 0, 0, 0, 0, false)).2.2.2.1 == id.2.1 && ((l.getD i.toNat (0, 0, 0, 0, 0, [], 0, 0, 0, 0, 0, 0, false)).2.2.2.2.1 == id.2.2 && true)) then some i else L_rfent_0 f (l, id, IntKind.i64.wrap (i + 1)) else none else some (-1) := by kernel_rfl
noncomputable def F_rfent_0 : List (SEn) → ((List (SEn)) × SId × Nat) → Int
  | [], (l, id, i) => -1
  | uu :: rest, (l, id, i) => bif uu.2.2.1 == id.1 && (uu.2.2.2.1 == id.2.1 && (uu.2.2.2.2.1 == id.2.2 && true)) then (↑i : Int) else F_rfent_0 rest (l, id, i + 1)
noncomputable def P_rfent_0 : List (SEn) → ((List (SEn)) × SId × Nat) → Bool
  | [], (l, id, i) => true
  | uu :: rest, (l, id, i) => bif uu.2.2.1 == id.1 && (uu.2.2.2.1 == id.2.1 && (uu.2.2.2.2.1 == id.2.2 && true)) then true else P_rfent_0 rest (l, id, i + 1)
theorem A_rfent_0 : ∀ (rest : List (SEn)) (l : List (SEn)) (id : SId) (i : Nat) (hd : l.drop i = rest) (hl : l.length ≤ 1099511627776), Rns (fun f => L_rfent_0 f (l, id, ((i : Nat) : Int))) (P_rfent_0 rest (l, id, i)) (F_rfent_0 rest (l, id, i))
  | [], l, id, i, hd, hl => ev_step (T := fun f => some (-1)) (fun f => (L_rfent_0_eq f _ _ _).trans (by simp only [ge_dec (drop_ge hd), ge0, Bool.and_self, Bool.true_and, cond_true, cond_false, List.length_set] <;> rfl)) ev_some
  | uu :: rest, l, id, i, hd, hl => ev_step (T := fun f => bif uu.2.2.1 == id.1 && (uu.2.2.2.1 == id.2.1 && (uu.2.2.2.2.1 == id.2.2 && true)) then some (↑i : Int) else L_rfent_0 f (l, id, (↑(i + 1) : Int))) (fun f => (L_rfent_0_eq f _ _ _).trans (by simp only [lt_dec (drop_lt hd), drop_get hd, wrap_succ (drop_lt hd) hl, getD_set (drop_lt hd), ge0, Bool.and_self, Bool.true_and, cond_true, cond_false, List.length_set] <;> rfl)) (ev_bif ev_some (A_rfent_0 rest _ _ _ (by first | exact drop_succ hd | exact drop_set hd | exact drop_setS (drop_set hd)) (by first | exact hl | simpa using hl)))
noncomputable def F_rfent : ((List (SEn)) × SId) → Int
  | (l, id) => F_rfent_0 l (l, id, 0)
noncomputable def P_rfent : ((List (SEn)) × SId) → Bool
  | (l, id) => decide (l.length ≤ 1099511627776) && P_rfent_0 l (l, id, 0)
theorem rfent_auto : ∀ a : (List (SEn)) × SId, Rns (fun f => M_rfent f a) (P_rfent a) (F_rfent a)
  | (l, id) => ev_step (fun f => M_rfent_eq f _ _) (ev_and fun hh => A_rfent_0 _ _ _ _ rfl (of_decide_eq_true hh))
theorem rfent_0 (l : List SEn) (id : SId) : ∀ (r : List SEn) (k : Nat), F_rfent_0 r (l, id, k) = findI (fun e => decide (eid e = id)) r k ∧ P_rfent_0 r (l, id, k) = true
  | [], k => ⟨rfl, rfl⟩
  | u :: r, k => by
    obtain ⟨i1, i2⟩ := rfent_0 l id r (k + 1)
    simp only [F_rfent_0, P_rfent_0, findI, eid_eq, i1, i2]
    exact ⟨rfl, by cases decide (eid u = id) <;> rfl⟩
theorem rfent_P : ∀ a : List SEn × SId, len40n a.1 = true → P_rfent a = true := fun a h => by simp only [P_rfent, (rfent_0 _ _ _ _).2, Bool.and_true]; exact h
theorem rfent_F : ∀ a : List SEn × SId, len40n a.1 = true → F_rfent a = findE a.1 a.2 := fun a h => by simp only [F_rfent, (rfent_0 _ _ _ _).1]; rfl
theorem rfent_run : ∀ a, (fun a => len40n a.1 : (List (SEn)) × SId → Bool) a = true → ∃ f, M_rfent f a = some ((fun a => findE a.1 a.2 : (List (SEn)) × SId → Int) a) := fun a h => by have h1 := rfent_auto a (rfent_P a h); rw [rfent_F a h] at h1; exact h1
noncomputable def E_rfent : Ent := ⟨69, [.rd tSEn, .g tSId], [.v (.int .i64)], fun a => (fun a => len40n a.1 : (List (SEn)) × SId → Bool) a, fun a => (fun a => findE a.1 a.2 : (List (SEn)) × SId → Int) a⟩
theorem E_rfent_ok : E_rfent.Ok Try.prog := fun a hp vs hv => (rfent_run a hp).elim fun f h => fnX_ok (C := C_rfent) (Lt := Lt_rfent) (fn := Try.f69) (rs := [.tmp 4]) [.rd tSEn, .g tSId] [.v (.int .i64)] mixed es_rfent Try.func69 rfl rfl rfl (by kernel_rfl) (by kernel_rfl) f h vs hv
noncomputable def C_rat : Cfg := ⟨Try.prog, [], pmT [], 31, [], []⟩
theorem es_rat : EsOk Try.prog [] [] := es_nil
def Lt_rat : Nat → LD := ldT [(0, ⟨[.rd 0 tSEn, .c 1 (.int .i64), .c 2 (.int .i64), .c 7 (.int .i64)], [], 0⟩)]
noncomputable def M_rat (f : Nat) (a : (List (SEn)) × Int × Int) : Option (Int) := (runX (C_rat) Lt_rat (Kret Try.prog [.tmp 6] [.v (.int .i64)]) f [.code (bodyOf Try.f50)] (initX [.rd tSEn, .c (.int .i64), .c (.int .i64)] a) : Option (ResT [.v (.int .i64)]))
noncomputable def L_rat_0 (f : Nat) (x : (List (SEn)) × Int × Int × Int) : Option (Int) := (runX (C_rat) Lt_rat (Kret Try.prog [.tmp 6] [.v (.int .i64)]) f (headOf Try.f50 0) ((Lt_rat 0).mk' x) : Option (ResT [.v (.int .i64)]))
theorem M_rat_eq (f : Nat) (l : List (SEn)) (core : Int) (slot : Int) : M_rat (f + 1) (l, core, slot) =
    L_rat_0 f (l, core, slot, 0) := by kernel_rfl
theorem L_rat_0_eq (f : Nat) (l : List (SEn)) (core : Int) (slot : Int) (i : Int) : L_rat_0 (f + 1) (l, core, slot, i) =
    bif decide (i < (↑l.length : Int)) then bif decide (0 ≤ i) && decide (i < (↑l.length : Int)) then bif (l.getD i.toNat (0, 0, 0, 0, 0, [], 0, 0, 0, 0, 0, 0, false)).1 == core then bif decide (0 ≤ i) && decide (i < (↑l.length : Int)) then bif (l.getD i.toNat (0, 0, 0, 0, 0, [], 0, 0, 0, 0, 0, 0, false)).2.1 == slot then some i else L_rat_0 f (l, core, slot, IntKind.i64.wrap (i + 1)) else none else L_rat_0 f (l, core, slot, IntKind.i64.wrap (i + 1)) else none else some (-1) := by kernel_rfl
noncomputable def F_rat_0 : List (SEn) → ((List (SEn)) × Int × Int × Nat) → Int
  | [], (l, core, slot, i) => -1
  | uu :: rest, (l, core, slot, i) => bif uu.1 == core then bif uu.2.1 == slot then (↑i : Int) else F_rat_0 rest (l, core, slot, i + 1) else F_rat_0 rest (l, core, slot, i + 1)
noncomputable def P_rat_0 : List (SEn) → ((List (SEn)) × Int × Int × Nat) → Bool
  | [], (l, core, slot, i) => true
  | uu :: rest, (l, core, slot, i) => bif uu.1 == core then bif uu.2.1 == slot then true else P_rat_0 rest (l, core, slot, i + 1) else P_rat_0 rest (l, core, slot, i + 1)
theorem A_rat_0 : ∀ (rest : List (SEn)) (l : List (SEn)) (core : Int) (slot : Int) (i : Nat) (hd : l.drop i = rest) (hl : l.length ≤ 1099511627776), Rns (fun f => L_rat_0 f (l, core, slot, ((i : Nat) : Int))) (P_rat_0 rest (l, core, slot, i)) (F_rat_0 rest (l, core, slot, i))
  | [], l, core, slot, i, hd, hl => ev_step (T := fun f => some (-1)) (fun f => (L_rat_0_eq f _ _ _ _).trans (by simp only [ge_dec (drop_ge hd), ge0, Bool.and_self, Bool.true_and, cond_true, cond_false, List.length_set] <;> rfl)) ev_some
  | uu :: rest, l, core, slot, i, hd, hl => ev_step (T := fun f => bif uu.1 == core then bif uu.2.1 == slot then some (↑i : Int) else L_rat_0 f (l, core, slot, (↑(i + 1) : Int)) else L_rat_0 f (l, core, slot, (↑(i + 1) : Int))) (fun f => (L_rat_0_eq f _ _ _ _).trans (by simp only [lt_dec (drop_lt hd), drop_get hd, wrap_succ (drop_lt hd) hl, getD_set (drop_lt hd), ge0, Bool.and_self, Bool.true_and, cond_true, cond_false, List.length_set] <;> rfl)) (ev_bif (ev_bif ev_some (A_rat_0 rest _ _ _ _ (by first | exact drop_succ hd | exact drop_set hd | exact drop_setS (drop_set hd)) (by first | exact hl | simpa using hl))) (A_rat_0 rest _ _ _ _ (by first | exact drop_succ hd | exact drop_set hd | exact drop_setS (drop_set hd)) (by first | exact hl | simpa using hl)))
noncomputable def F_rat : ((List (SEn)) × Int × Int) → Int
  | (l, core, slot) => F_rat_0 l (l, core, slot, 0)
noncomputable def P_rat : ((List (SEn)) × Int × Int) → Bool
  | (l, core, slot) => decide (l.length ≤ 1099511627776) && P_rat_0 l (l, core, slot, 0)
theorem rat_auto : ∀ a : (List (SEn)) × Int × Int, Rns (fun f => M_rat f a) (P_rat a) (F_rat a)
  | (l, core, slot) => ev_step (fun f => M_rat_eq f _ _ _) (ev_and fun hh => A_rat_0 _ _ _ _ _ rfl (of_decide_eq_true hh))
theorem rat_0 (l : List SEn) (c s : Int) : ∀ (r : List SEn) (k : Nat), F_rat_0 r (l, c, s, k) = findI (fun e => decide (e.1 = c) && decide (e.2.1 = s)) r k ∧ P_rat_0 r (l, c, s, k) = true
  | [], k => ⟨rfl, rfl⟩
  | u :: r, k => by
    obtain ⟨i1, i2⟩ := rat_0 l c s r (k + 1)
    simp only [F_rat_0, P_rat_0, findI, beqI, i1, i2]
    constructor
    · cases decide (u.1 = c) <;> cases decide (u.2.1 = s) <;> rfl
    · cases decide (u.1 = c) <;> cases decide (u.2.1 = s) <;> rfl
theorem rat_P : ∀ a : List SEn × Int × Int, len40n a.1 = true → P_rat a = true := fun a h => by simp only [P_rat, (rat_0 _ _ _ _ _).2, Bool.and_true]; exact h
theorem rat_F : ∀ a : List SEn × Int × Int, len40n a.1 = true → F_rat a = atE a.1 a.2.1 a.2.2 := fun a h => by simp only [F_rat, (rat_0 _ _ _ _ _).1]; rfl
theorem rat_run : ∀ a, (fun a => len40n a.1 : (List (SEn)) × Int × Int → Bool) a = true → ∃ f, M_rat f a = some ((fun a => atE a.1 a.2.1 a.2.2 : (List (SEn)) × Int × Int → Int) a) := fun a h => by have h1 := rat_auto a (rat_P a h); rw [rat_F a h] at h1; exact h1
noncomputable def E_rat : Ent := ⟨50, [.rd tSEn, .c (.int .i64), .c (.int .i64)], [.v (.int .i64)], fun a => (fun a => len40n a.1 : (List (SEn)) × Int × Int → Bool) a, fun a => (fun a => atE a.1 a.2.1 a.2.2 : (List (SEn)) × Int × Int → Int) a⟩
theorem E_rat_ok : E_rat.Ok Try.prog := fun a hp vs hv => (rat_run a hp).elim fun f h => fnX_ok (C := C_rat) (Lt := Lt_rat) (fn := Try.f50) (rs := [.tmp 6]) [.rd tSEn, .c (.int .i64), .c (.int .i64)] [.v (.int .i64)] mixed es_rat Try.func50 rfl rfl rfl (by kernel_rfl) (by kernel_rfl) f h vs hv
def insL (e : SEn) : List SEn → List SEn
  | [] => [e]
  | u :: r => bif lessI (eid e, eid u) then e :: u :: r else u :: insL e r
def insS (a : List SEn × SEn) : List SEn × Bool := bif decide (findE a.1 (eid a.2) ≥ 0) || decide (atE a.1 a.2.1 a.2.2.1 ≥ 0) then ([], false) else (insL a.2 a.1, true)
theorem okE_take {l : List SEn} (h : okE l = true) (k : Nat) : okE (l.take k) = true :=
  okE_mk (by have := okE_len h; rw [List.length_take]; omega) (fun e he => okE_mem h (List.mem_of_mem_take he))
theorem okE_drop {l : List SEn} (h : okE l = true) (k : Nat) : okE (l.drop k) = true :=
  okE_mk (by have := okE_len h; rw [List.length_drop]; omega) (fun e he => okE_mem h (List.mem_of_mem_drop he))
noncomputable def C_rins : Cfg := ⟨Try.prog, [E_rfent, E_rat, E_less, E_rcent, E_cnode], pmT [(4, ([(0, []), (1, []), (2, []), (3, []), (4, []), (5, []), (6, []), (7, []), (8, []), (9, []), (10, []), (11, []), (12, []), (13, []), (14, []), (15, []), (16, [])], [(23, 39)])), (6, ([(0, []), (1, []), (2, []), (4, []), (5, []), (6, []), (7, []), (8, []), (9, []), (3, []), (10, []), (11, []), (12, []), (13, []), (14, [])], [(7, 7), (42, 55)]))], 62, [], []⟩
theorem es_rins : EsOk Try.prog [E_rfent, E_rat, E_less, E_rcent, E_cnode] [] := es_cons E_rfent_ok (es_cons E_rat_ok (es_cons E_less_ok (es_cons E_rcent_ok (es_cons E_cnode_ok (es_nil)))))
def Lt_rins : Nat → LD := ldT [(0, ⟨[.rd 0 tSEn, .box 3 3 74 13 tSEn, .c 6 (.int .i64)], [], 0⟩)]
noncomputable def M_rins (f : Nat) (a : (List (SEn)) × SEn) : Option ((List (SEn)) × Bool) := (runX (C_rins) Lt_rins (Kret Try.prog [.tmp 4, .tmp 5] [.o 74 13 tSEn, .v (.bool)]) f [.code (bodyOf Try.f106)] (initX [.rd tSEn, .g tSEn] a) : Option (ResT [.o 74 13 tSEn, .v (.bool)]))
noncomputable def L_rins_0 (f : Nat) (x : (List (SEn)) × SEn × Int) : Option ((List (SEn)) × Bool) := (runX (C_rins) Lt_rins (Kret Try.prog [.tmp 4, .tmp 5] [.o 74 13 tSEn, .v (.bool)]) f (headOf Try.f106 0) ((Lt_rins 0).mk' x) : Option (ResT [.o 74 13 tSEn, .v (.bool)]))
theorem M_rins_eq (f : Nat) (l : List (SEn)) (e : SEn) : M_rins (f + 1) (l, e) =
    bif len40n l then bif decide (findE l (e.2.2.1, e.2.2.2.1, e.2.2.2.2.1) ≥ 0) then some ([], false) else bif len40n l then bif decide (atE l e.1 e.2.1 ≥ 0) then some ([], false) else L_rins_0 f (l, e, 0) else none else none := by kernel_rfl
theorem L_rins_0_eq (f : Nat) (l : List (SEn)) (e : SEn) (k : Int) : L_rins_0 (f + 1) (l, e, k) =
    bif decide (k < (↑l.length : Int)) then bif decide (0 ≤ k) && decide (k < (↑l.length : Int)) then bif !lessI ((e.2.2.1, e.2.2.2.1, e.2.2.2.2.1), (l.getD k.toNat (0, 0, 0, 0, 0, [], 0, 0, 0, 0, 0, 0, false)).2.2.1, (l.getD k.toNat (0, 0, 0, 0, 0, [], 0, 0, 0, 0, 0, 0, false)).2.2.2.1, (l.getD k.toNat (0, 0, 0, 0, 0, [], 0, 0, 0, 0, 0, 0, false)).2.2.2.2.1) then L_rins_0 f (l, e, IntKind.i64.wrap (k + 1)) else bif decide (0 ≤ k) && decide (k ≤ (↑l.length : Int)) then bif okE (List.take k.toNat l) then bif len40n e.2.2.2.2.2.1 then bif decide (((List.take k.toNat l).length + [e].length) * 120 ≤ 140737488355328) then bif decide (0 ≤ k) && decide (k ≤ (↑l.length : Int)) then bif okE (List.drop k.toNat l) then bif decide (((List.take k.toNat l ++ [e]).length + (List.drop k.toNat l).length) * 120 ≤ 140737488355328) then some (List.take k.toNat l ++ [e] ++ List.drop k.toNat l, true) else none else none else none else none else none else none else none else none else bif decide (0 ≤ k) && decide (k ≤ (↑l.length : Int)) then bif okE (List.take k.toNat l) then bif len40n e.2.2.2.2.2.1 then bif decide (((List.take k.toNat l).length + [e].length) * 120 ≤ 140737488355328) then bif decide (0 ≤ k) && decide (k ≤ (↑l.length : Int)) then bif okE (List.drop k.toNat l) then bif decide (((List.take k.toNat l ++ [e]).length + (List.drop k.toNat l).length) * 120 ≤ 140737488355328) then some (List.take k.toNat l ++ [e] ++ List.drop k.toNat l, true) else none else none else none else none else none else none else none := by kernel_rfl
noncomputable def F_rins_0 : List (SEn) → ((List (SEn)) × SEn × Nat) → (List (SEn)) × Bool
  | [], (l, e, k) => (List.take (↑k : Int).toNat l ++ [e] ++ List.drop (↑k : Int).toNat l, true)
  | uu :: rest, (l, e, k) => bif !lessI ((e.2.2.1, e.2.2.2.1, e.2.2.2.2.1), uu.2.2.1, uu.2.2.2.1, uu.2.2.2.2.1) then F_rins_0 rest (l, e, k + 1) else (List.take (↑k : Int).toNat l ++ [e] ++ List.drop (↑k : Int).toNat l, true)
noncomputable def P_rins_0 : List (SEn) → ((List (SEn)) × SEn × Nat) → Bool
  | [], (l, e, k) => decide ((↑k : Int) ≤ (↑l.length : Int)) && (okE (List.take (↑k : Int).toNat l) && (len40n e.2.2.2.2.2.1 && (decide (((List.take (↑k : Int).toNat l).length + [e].length) * 120 ≤ 140737488355328) && (decide ((↑k : Int) ≤ (↑l.length : Int)) && (okE (List.drop (↑k : Int).toNat l) && decide (((List.take (↑k : Int).toNat l ++ [e]).length + (List.drop (↑k : Int).toNat l).length) * 120 ≤ 140737488355328))))))
  | uu :: rest, (l, e, k) => bif !lessI ((e.2.2.1, e.2.2.2.1, e.2.2.2.2.1), uu.2.2.1, uu.2.2.2.1, uu.2.2.2.2.1) then P_rins_0 rest (l, e, k + 1) else decide ((↑k : Int) ≤ (↑l.length : Int)) && (okE (List.take (↑k : Int).toNat l) && (len40n e.2.2.2.2.2.1 && (decide (((List.take (↑k : Int).toNat l).length + [e].length) * 120 ≤ 140737488355328) && (decide ((↑k : Int) ≤ (↑l.length : Int)) && (okE (List.drop (↑k : Int).toNat l) && decide (((List.take (↑k : Int).toNat l ++ [e]).length + (List.drop (↑k : Int).toNat l).length) * 120 ≤ 140737488355328))))))
theorem A_rins_0 : ∀ (rest : List (SEn)) (l : List (SEn)) (e : SEn) (k : Nat) (hd : l.drop k = rest) (hl : l.length ≤ 1099511627776), Rns (fun f => L_rins_0 f (l, e, ((k : Nat) : Int))) (P_rins_0 rest (l, e, k)) (F_rins_0 rest (l, e, k))
  | [], l, e, k, hd, hl => ev_step (T := fun f => bif decide ((↑k : Int) ≤ (↑l.length : Int)) then bif okE (List.take (↑k : Int).toNat l) then bif len40n e.2.2.2.2.2.1 then bif decide (((List.take (↑k : Int).toNat l).length + [e].length) * 120 ≤ 140737488355328) then bif decide ((↑k : Int) ≤ (↑l.length : Int)) then bif okE (List.drop (↑k : Int).toNat l) then bif decide (((List.take (↑k : Int).toNat l ++ [e]).length + (List.drop (↑k : Int).toNat l).length) * 120 ≤ 140737488355328) then some (List.take (↑k : Int).toNat l ++ [e] ++ List.drop (↑k : Int).toNat l, true) else none else none else none else none else none else none else none) (fun f => (L_rins_0_eq f _ _ _).trans (by simp only [ge_dec (drop_ge hd), ge0, Bool.and_self, Bool.true_and, cond_true, cond_false, List.length_set] <;> rfl)) (ev_chk (ev_chk (ev_chk (ev_chk (ev_chk (ev_chk (ev_chk1 ev_some)))))))
  | uu :: rest, l, e, k, hd, hl => ev_step (T := fun f => bif !lessI ((e.2.2.1, e.2.2.2.1, e.2.2.2.2.1), uu.2.2.1, uu.2.2.2.1, uu.2.2.2.2.1) then L_rins_0 f (l, e, (↑(k + 1) : Int)) else bif decide ((↑k : Int) ≤ (↑l.length : Int)) then bif okE (List.take (↑k : Int).toNat l) then bif len40n e.2.2.2.2.2.1 then bif decide (((List.take (↑k : Int).toNat l).length + [e].length) * 120 ≤ 140737488355328) then bif decide ((↑k : Int) ≤ (↑l.length : Int)) then bif okE (List.drop (↑k : Int).toNat l) then bif decide (((List.take (↑k : Int).toNat l ++ [e]).length + (List.drop (↑k : Int).toNat l).length) * 120 ≤ 140737488355328) then some (List.take (↑k : Int).toNat l ++ [e] ++ List.drop (↑k : Int).toNat l, true) else none else none else none else none else none else none else none) (fun f => (L_rins_0_eq f _ _ _).trans (by simp only [lt_dec (drop_lt hd), drop_get hd, wrap_succ (drop_lt hd) hl, getD_set (drop_lt hd), ge0, Bool.and_self, Bool.true_and, cond_true, cond_false, List.length_set] <;> rfl)) (ev_bif (A_rins_0 rest _ _ _ (by first | exact drop_succ hd | exact drop_set hd | exact drop_setS (drop_set hd)) (by first | exact hl | simpa using hl)) (ev_chk (ev_chk (ev_chk (ev_chk (ev_chk (ev_chk (ev_chk1 ev_some))))))))
noncomputable def F_rins : ((List (SEn)) × SEn) → (List (SEn)) × Bool
  | (l, e) => bif decide (findE l (e.2.2.1, e.2.2.2.1, e.2.2.2.2.1) ≥ 0) then ([], false) else bif decide (atE l e.1 e.2.1 ≥ 0) then ([], false) else F_rins_0 l (l, e, 0)
noncomputable def P_rins : ((List (SEn)) × SEn) → Bool
  | (l, e) => len40n l && bif decide (findE l (e.2.2.1, e.2.2.2.1, e.2.2.2.2.1) ≥ 0) then true else len40n l && bif decide (atE l e.1 e.2.1 ≥ 0) then true else decide (l.length ≤ 1099511627776) && P_rins_0 l (l, e, 0)
theorem rins_auto : ∀ a : (List (SEn)) × SEn, Rns (fun f => M_rins f a) (P_rins a) (F_rins a)
  | (l, e) => ev_step (fun f => M_rins_eq f _ _) (ev_chk (ev_bif ev_some (ev_chk (ev_bif ev_some (ev_and fun hh => A_rins_0 _ _ _ _ rfl (of_decide_eq_true hh))))))
theorem rins_0 (l : List SEn) (e : SEn) (hl : okE l = true) (he : len40n e.2.2.2.2.2.1 = true) : ∀ (r : List SEn) (k : Nat), l.drop k = r → k ≤ l.length → F_rins_0 r (l, e, k) = (l.take k ++ insL e r, true) ∧ P_rins_0 r (l, e, k) = true := by
  have len := okE_len hl
  have base : ∀ k : Nat, k ≤ l.length → (decide ((k : Int) ≤ ((l.length : Nat) : Int)) && (okE (List.take (k : Int).toNat l) && (len40n e.2.2.2.2.2.1 && (decide (((List.take (k : Int).toNat l).length + [e].length) * 120 ≤ 140737488355328) && (decide ((k : Int) ≤ ((l.length : Nat) : Int)) && (okE (List.drop (k : Int).toNat l) && decide (((List.take (k : Int).toNat l ++ [e]).length + (List.drop (k : Int).toNat l).length) * 120 ≤ 140737488355328))))))) = true := by
    intro k hk
    rw [Int.toNat_natCast, okE_take hl, okE_drop hl, he, decide_eq_true (show (k : Int) ≤ ((l.length : Nat) : Int) by omega)]
    simp only [Bool.true_and, Bool.and_eq_true, decide_eq_true_eq, List.length_append, List.length_take, List.length_drop, List.length_singleton]
    omega
  intro r
  induction r with
  | nil =>
    intro k h hk
    refine ⟨?_, base k hk⟩
    simp only [F_rins_0, Int.toNat_natCast, insL, h, List.append_nil]
  | cons u r ih =>
    intro k h hk
    obtain ⟨i1, i2⟩ := ih (k + 1) (drop_succ h) (drop_lt h)
    have e1 : lessI ((e.2.2.1, e.2.2.2.1, e.2.2.2.2.1), u.2.2.1, u.2.2.2.1, u.2.2.2.2.1) = lessI (eid e, eid u) := rfl
    constructor
    · simp only [F_rins_0, insL, e1, i1, Int.toNat_natCast]
      cases lessI (eid e, eid u)
      · simp [take_succ_drop h]
      · simp [h]
    · simp only [P_rins_0, e1, i2]
      cases lessI (eid e, eid u)
      · rfl
      · exact base k hk
def insPre (a : List SEn × SEn) : Bool := okE a.1 && len40n a.2.2.2.2.2.2.1
theorem rins_P : ∀ a : List SEn × SEn, insPre a = true → P_rins a = true := by
  rintro ⟨l, e⟩ h
  simp only [insPre, Bool.and_eq_true] at h
  have h1 : len40n l = true := decide_eq_true (okE_len h.1)
  simp only [P_rins, h1, (rins_0 l e h.1 h.2 l 0 rfl (by omega)).2, decide_eq_true (okE_len h.1), Bool.and_self, Bool.true_and]
  exact bif_tt' (bif_tt' rfl)
theorem rins_F : ∀ a : List SEn × SEn, insPre a = true → F_rins a = insS a := by
  rintro ⟨l, e⟩ h
  simp only [insPre, Bool.and_eq_true] at h
  simp only [F_rins, insS, (rins_0 l e h.1 h.2 l 0 rfl (by omega)).1]
  show (bif decide (findE l (eid e) ≥ 0) then _ else _) = _
  cases decide (findE l (eid e) ≥ 0) <;> cases decide (atE l e.1 e.2.1 ≥ 0) <;> rfl
theorem rins_run : ∀ a, (insPre : (List (SEn)) × SEn → Bool) a = true → ∃ f, M_rins f a = some ((insS : (List (SEn)) × SEn → (List (SEn)) × Bool) a) := fun a h => by have h1 := rins_auto a (rins_P a h); rw [rins_F a h] at h1; exact h1
noncomputable def E_rins : Ent := ⟨106, [.rd tSEn, .g tSEn], [.o 74 13 tSEn, .v (.bool)], fun a => (insPre : (List (SEn)) × SEn → Bool) a, fun a => (insS : (List (SEn)) × SEn → (List (SEn)) × Bool) a⟩
theorem E_rins_ok : E_rins.Ok Try.prog := fun a hp vs hv => (rins_run a hp).elim fun f h => fnX_ok (C := C_rins) (Lt := Lt_rins) (fn := Try.f106) (rs := [.tmp 4, .tmp 5]) [.rd tSEn, .g tSEn] [.o 74 13 tSEn, .v (.bool)] mixed es_rins Try.func106 rfl rfl rfl (by kernel_rfl) (by kernel_rfl) f h vs hv
def rgC (c : SCp) : Rg := (c.2.1, c.2.2.1)
def rgE (e : SEn) : Rg := rgC (ecap e)
def zEn : SEn := (0, 0, 0, 0, 0, [], 0, 0, 0, 0, 0, 0, false)
def hitE (l : List SEn) (s : Int) (c : SCp) (e : SEn) : Bool := overlaps (rgE e, rgC c) && !(decide (s ≥ 0) && (decide ((ecap e).1 = 1) && contains (rgE e, rgE (l.getD s.toNat zEn))))
def cnfS (a : List SEn × SId × List SCp) : Bool := a.2.2.any fun c => a.1.any (hitE a.1 (findE a.1 a.2.1) c)
theorem findI_lt {α : Type} (p : α → Bool) : ∀ (l : List α) (k : Int), 0 ≤ k → findI p l k < k + l.length
  | [], k, h => by simp only [findI, List.length_nil]; omega
  | u :: r, k, h => by
    have := findI_lt p r (k + 1) (by omega)
    simp only [findI, List.length_cons]
    cases p u
    · simp only [cond_false]; omega
    · simp only [cond_true]; omega
noncomputable def C_rcnf : Cfg := ⟨Try.prog, [E_rfent, E_rrng, E_rcont, E_rover], pmT [(9, ([(0, []), (1, []), (2, []), (3, []), (4, []), (5, []), (6, []), (7, []), (8, []), (10, []), (11, []), (12, []), (13, []), (14, []), (15, []), (9, []), (16, []), (17, []), (18, []), (19, [])], [(11, 11), (33, 51)])), (10, ([(0, []), (2, []), (3, []), (4, []), (5, []), (1, []), (6, []), (7, []), (8, []), (9, []), (10, []), (11, [])], [(52, 63)]))], 64, [], []⟩
theorem es_rcnf : EsOk Try.prog [E_rfent, E_rrng, E_rcont, E_rover] [] := es_cons E_rfent_ok (es_cons E_rrng_ok (es_cons E_rcont_ok (es_cons E_rover_ok (es_nil))))
def Lt_rcnf : Nat → LD := ldT [(0, ⟨[.rd 0 tSEn, .rd 2 tSCp, .c 7 (.int .i64), .c 8 (.int .i64)], [], 0⟩), (2, ⟨[.rd 0 tSEn, .rd 2 tSCp, .c 7 (.int .i64), .c 8 (.int .i64), .c 9 (.int .i64)], [], 0⟩)]
noncomputable def M_rcnf (f : Nat) (a : (List (SEn)) × SId × (List (SCp))) : Option (Bool) := (runX (C_rcnf) Lt_rcnf (Kret Try.prog [.tmp 6] [.v (.bool)]) f [.code (bodyOf Try.f88)] (initX [.rd tSEn, .g tSId, .rd tSCp] a) : Option (ResT [.v (.bool)]))
noncomputable def L_rcnf_0 (f : Nat) (x : (List (SEn)) × (List (SCp)) × Int × Int) : Option (Bool) := (runX (C_rcnf) Lt_rcnf (Kret Try.prog [.tmp 6] [.v (.bool)]) f (headOf Try.f88 0) ((Lt_rcnf 0).mk' x) : Option (ResT [.v (.bool)]))
noncomputable def L_rcnf_2 (f : Nat) (x : (List (SEn)) × (List (SCp)) × Int × Int × Int) : Option (Bool) := (runX (C_rcnf) Lt_rcnf (Kret Try.prog [.tmp 6] [.v (.bool)]) f (headOf Try.f88 2) ((Lt_rcnf 2).mk' x) : Option (ResT [.v (.bool)]))
theorem M_rcnf_eq (f : Nat) (l : List (SEn)) (src : SId) (caps : List (SCp)) : M_rcnf (f + 1) (l, src, caps) =
    bif len40n l then L_rcnf_0 f (l, caps, findE l src, 0) else none := by kernel_rfl
theorem L_rcnf_0_eq (f : Nat) (l : List (SEn)) (caps : List (SCp)) (s : Int) (i : Int) : L_rcnf_0 (f + 1) (l, caps, s, i) =
    bif decide (i < (↑caps.length : Int)) then L_rcnf_2 f (l, caps, s, i, 0) else some false := by kernel_rfl
theorem L_rcnf_2_eq (f : Nat) (l : List (SEn)) (caps : List (SCp)) (s : Int) (i : Int) (k : Int) : L_rcnf_2 (f + 1) (l, caps, s, i, k) =
    bif decide (k < (↑l.length : Int)) then bif decide (0 ≤ k) && decide (k < (↑l.length : Int)) then bif decide (s ≥ 0) then bif (l.getD k.toNat (0, 0, 0, 0, 0, [], 0, 0, 0, 0, 0, 0, false)).2.2.2.2.2.2.1 == 1 then bif decide (0 ≤ s) && decide (s < (↑l.length : Int)) then bif decide (0 ≤ i) && decide (i < (↑caps.length : Int)) then bif overlaps (((l.getD k.toNat (0, 0, 0, 0, 0, [], 0, 0, 0, 0, 0, 0, false)).2.2.2.2.2.2.2.1, (l.getD k.toNat (0, 0, 0, 0, 0, [], 0, 0, 0, 0, 0, 0, false)).2.2.2.2.2.2.2.2.1), (caps.getD i.toNat (0, 0, 0, 0, 0, 0, false)).2.1, (caps.getD i.toNat (0, 0, 0, 0, 0, 0, false)).2.2.1) then bif !contains (((l.getD k.toNat (0, 0, 0, 0, 0, [], 0, 0, 0, 0, 0, 0, false)).2.2.2.2.2.2.2.1, (l.getD k.toNat (0, 0, 0, 0, 0, [], 0, 0, 0, 0, 0, 0, false)).2.2.2.2.2.2.2.2.1), (l.getD s.toNat (0, 0, 0, 0, 0, [], 0, 0, 0, 0, 0, 0, false)).2.2.2.2.2.2.2.1, (l.getD s.toNat (0, 0, 0, 0, 0, [], 0, 0, 0, 0, 0, 0, false)).2.2.2.2.2.2.2.2.1) then some true else L_rcnf_2 f (l, caps, s, i, IntKind.i64.wrap (k + 1)) else L_rcnf_2 f (l, caps, s, i, IntKind.i64.wrap (k + 1)) else none else none else bif decide (0 ≤ i) && decide (i < (↑caps.length : Int)) then bif overlaps (((l.getD k.toNat (0, 0, 0, 0, 0, [], 0, 0, 0, 0, 0, 0, false)).2.2.2.2.2.2.2.1, (l.getD k.toNat (0, 0, 0, 0, 0, [], 0, 0, 0, 0, 0, 0, false)).2.2.2.2.2.2.2.2.1), (caps.getD i.toNat (0, 0, 0, 0, 0, 0, false)).2.1, (caps.getD i.toNat (0, 0, 0, 0, 0, 0, false)).2.2.1) then some true else L_rcnf_2 f (l, caps, s, i, IntKind.i64.wrap (k + 1)) else none else bif decide (0 ≤ i) && decide (i < (↑caps.length : Int)) then bif overlaps (((l.getD k.toNat (0, 0, 0, 0, 0, [], 0, 0, 0, 0, 0, 0, false)).2.2.2.2.2.2.2.1, (l.getD k.toNat (0, 0, 0, 0, 0, [], 0, 0, 0, 0, 0, 0, false)).2.2.2.2.2.2.2.2.1), (caps.getD i.toNat (0, 0, 0, 0, 0, 0, false)).2.1, (caps.getD i.toNat (0, 0, 0, 0, 0, 0, false)).2.2.1) then some true else L_rcnf_2 f (l, caps, s, i, IntKind.i64.wrap (k + 1)) else none else none else L_rcnf_0 f (l, caps, s, IntKind.i64.wrap (i + 1)) := by kernel_rfl
noncomputable def F_rcnf_2 (K_0 : ((List (SEn)) × (List (SCp)) × Int × Nat) → Bool) : List (SEn) → ((List (SEn)) × (List (SCp)) × Int × Nat × Nat) → Bool
  | [], (l, caps, s, i, k) => K_0 (l, caps, s, i + 1)
  | uu :: rest, (l, caps, s, i, k) => bif decide (s ≥ 0) then bif uu.2.2.2.2.2.2.1 == 1 then bif overlaps ((uu.2.2.2.2.2.2.2.1, uu.2.2.2.2.2.2.2.2.1), (caps.getD (↑i : Int).toNat (0, 0, 0, 0, 0, 0, false)).2.1, (caps.getD (↑i : Int).toNat (0, 0, 0, 0, 0, 0, false)).2.2.1) then bif !contains ((uu.2.2.2.2.2.2.2.1, uu.2.2.2.2.2.2.2.2.1), (l.getD s.toNat (0, 0, 0, 0, 0, [], 0, 0, 0, 0, 0, 0, false)).2.2.2.2.2.2.2.1, (l.getD s.toNat (0, 0, 0, 0, 0, [], 0, 0, 0, 0, 0, 0, false)).2.2.2.2.2.2.2.2.1) then true else F_rcnf_2 K_0 rest (l, caps, s, i, k + 1) else F_rcnf_2 K_0 rest (l, caps, s, i, k + 1) else bif overlaps ((uu.2.2.2.2.2.2.2.1, uu.2.2.2.2.2.2.2.2.1), (caps.getD (↑i : Int).toNat (0, 0, 0, 0, 0, 0, false)).2.1, (caps.getD (↑i : Int).toNat (0, 0, 0, 0, 0, 0, false)).2.2.1) then true else F_rcnf_2 K_0 rest (l, caps, s, i, k + 1) else bif overlaps ((uu.2.2.2.2.2.2.2.1, uu.2.2.2.2.2.2.2.2.1), (caps.getD (↑i : Int).toNat (0, 0, 0, 0, 0, 0, false)).2.1, (caps.getD (↑i : Int).toNat (0, 0, 0, 0, 0, 0, false)).2.2.1) then true else F_rcnf_2 K_0 rest (l, caps, s, i, k + 1)
noncomputable def P_rcnf_2 (KP_0 : ((List (SEn)) × (List (SCp)) × Int × Nat) → Bool) : List (SEn) → ((List (SEn)) × (List (SCp)) × Int × Nat × Nat) → Bool
  | [], (l, caps, s, i, k) => KP_0 (l, caps, s, i + 1)
  | uu :: rest, (l, caps, s, i, k) => bif decide (s ≥ 0) then bif uu.2.2.2.2.2.2.1 == 1 then decide (0 ≤ s) && decide (s < (↑l.length : Int)) && bif overlaps ((uu.2.2.2.2.2.2.2.1, uu.2.2.2.2.2.2.2.2.1), (caps.getD (↑i : Int).toNat (0, 0, 0, 0, 0, 0, false)).2.1, (caps.getD (↑i : Int).toNat (0, 0, 0, 0, 0, 0, false)).2.2.1) then bif !contains ((uu.2.2.2.2.2.2.2.1, uu.2.2.2.2.2.2.2.2.1), (l.getD s.toNat (0, 0, 0, 0, 0, [], 0, 0, 0, 0, 0, 0, false)).2.2.2.2.2.2.2.1, (l.getD s.toNat (0, 0, 0, 0, 0, [], 0, 0, 0, 0, 0, 0, false)).2.2.2.2.2.2.2.2.1) then true else P_rcnf_2 KP_0 rest (l, caps, s, i, k + 1) else P_rcnf_2 KP_0 rest (l, caps, s, i, k + 1) else bif overlaps ((uu.2.2.2.2.2.2.2.1, uu.2.2.2.2.2.2.2.2.1), (caps.getD (↑i : Int).toNat (0, 0, 0, 0, 0, 0, false)).2.1, (caps.getD (↑i : Int).toNat (0, 0, 0, 0, 0, 0, false)).2.2.1) then true else P_rcnf_2 KP_0 rest (l, caps, s, i, k + 1) else bif overlaps ((uu.2.2.2.2.2.2.2.1, uu.2.2.2.2.2.2.2.2.1), (caps.getD (↑i : Int).toNat (0, 0, 0, 0, 0, 0, false)).2.1, (caps.getD (↑i : Int).toNat (0, 0, 0, 0, 0, 0, false)).2.2.1) then true else P_rcnf_2 KP_0 rest (l, caps, s, i, k + 1)
theorem A_rcnf_2 {K_0 : ((List (SEn)) × (List (SCp)) × Int × Nat) → Bool} {KP_0 : ((List (SEn)) × (List (SCp)) × Int × Nat) → Bool} {rest_0 : List (SCp)} (hK_0 : ∀ (l : List (SEn)) (caps : List (SCp)) (s : Int) (i : Nat) (hd : caps.drop i = rest_0) (hl : caps.length ≤ 1099511627776), Rns (fun f => L_rcnf_0 f (l, caps, s, ((i : Nat) : Int))) (KP_0 (l, caps, s, i)) (K_0 (l, caps, s, i))) : ∀ (rest : List (SEn)) (l : List (SEn)) (caps : List (SCp)) (s : Int) (i : Nat) (k : Nat) (hd : l.drop k = rest) (hl : l.length ≤ 1099511627776) (hd_0 : caps.drop (i + 1) = rest_0) (hl_0 : caps.length ≤ 1099511627776) (ht_0 : i < caps.length), Rns (fun f => L_rcnf_2 f (l, caps, s, ((i : Nat) : Int), ((k : Nat) : Int))) (P_rcnf_2 KP_0 rest (l, caps, s, i, k)) (F_rcnf_2 K_0 rest (l, caps, s, i, k))
  | [], l, caps, s, i, k, hd, hl, hd_0, hl_0, ht_0 => ev_step (T := fun f => L_rcnf_0 f (l, caps, s, (↑(i + 1) : Int))) (fun f => (L_rcnf_2_eq f _ _ _ _ _).trans (by simp only [ge_dec (drop_ge hd), ge0, Bool.and_self, Bool.true_and, cond_true, cond_false, List.length_set, wrap_succ ht_0 hl_0, lt_dec ht_0, getD_set ht_0] <;> rfl)) (hK_0 _ _ _ _ (by first | exact hd_0 | exact drop_setS hd_0 | exact drop_setS (drop_setS hd_0)) (by first | exact hl_0 | simpa using hl_0))
  | uu :: rest, l, caps, s, i, k, hd, hl, hd_0, hl_0, ht_0 => ev_step (T := fun f => bif decide (s ≥ 0) then bif uu.2.2.2.2.2.2.1 == 1 then bif decide (0 ≤ s) && decide (s < (↑l.length : Int)) then bif overlaps ((uu.2.2.2.2.2.2.2.1, uu.2.2.2.2.2.2.2.2.1), (caps.getD (↑i : Int).toNat (0, 0, 0, 0, 0, 0, false)).2.1, (caps.getD (↑i : Int).toNat (0, 0, 0, 0, 0, 0, false)).2.2.1) then bif !contains ((uu.2.2.2.2.2.2.2.1, uu.2.2.2.2.2.2.2.2.1), (l.getD s.toNat (0, 0, 0, 0, 0, [], 0, 0, 0, 0, 0, 0, false)).2.2.2.2.2.2.2.1, (l.getD s.toNat (0, 0, 0, 0, 0, [], 0, 0, 0, 0, 0, 0, false)).2.2.2.2.2.2.2.2.1) then some true else L_rcnf_2 f (l, caps, s, (↑i : Int), (↑(k + 1) : Int)) else L_rcnf_2 f (l, caps, s, (↑i : Int), (↑(k + 1) : Int)) else none else bif overlaps ((uu.2.2.2.2.2.2.2.1, uu.2.2.2.2.2.2.2.2.1), (caps.getD (↑i : Int).toNat (0, 0, 0, 0, 0, 0, false)).2.1, (caps.getD (↑i : Int).toNat (0, 0, 0, 0, 0, 0, false)).2.2.1) then some true else L_rcnf_2 f (l, caps, s, (↑i : Int), (↑(k + 1) : Int)) else bif overlaps ((uu.2.2.2.2.2.2.2.1, uu.2.2.2.2.2.2.2.2.1), (caps.getD (↑i : Int).toNat (0, 0, 0, 0, 0, 0, false)).2.1, (caps.getD (↑i : Int).toNat (0, 0, 0, 0, 0, 0, false)).2.2.1) then some true else L_rcnf_2 f (l, caps, s, (↑i : Int), (↑(k + 1) : Int))) (fun f => (L_rcnf_2_eq f _ _ _ _ _).trans (by simp only [lt_dec (drop_lt hd), drop_get hd, wrap_succ (drop_lt hd) hl, getD_set (drop_lt hd), ge0, Bool.and_self, Bool.true_and, cond_true, cond_false, List.length_set, wrap_succ ht_0 hl_0, lt_dec ht_0, getD_set ht_0] <;> rfl)) (ev_bif (ev_bif (ev_chk (ev_bif (ev_bif ev_some (A_rcnf_2 hK_0 rest _ _ _ _ _ (by first | exact drop_succ hd | exact drop_set hd | exact drop_setS (drop_set hd)) (by first | exact hl | simpa using hl) (by first | exact hd_0 | exact drop_setS hd_0 | exact drop_setS (drop_setS hd_0)) (by first | exact hl_0 | simpa using hl_0) (by first | exact ht_0 | simpa using ht_0))) (A_rcnf_2 hK_0 rest _ _ _ _ _ (by first | exact drop_succ hd | exact drop_set hd | exact drop_setS (drop_set hd)) (by first | exact hl | simpa using hl) (by first | exact hd_0 | exact drop_setS hd_0 | exact drop_setS (drop_setS hd_0)) (by first | exact hl_0 | simpa using hl_0) (by first | exact ht_0 | simpa using ht_0)))) (ev_bif ev_some (A_rcnf_2 hK_0 rest _ _ _ _ _ (by first | exact drop_succ hd | exact drop_set hd | exact drop_setS (drop_set hd)) (by first | exact hl | simpa using hl) (by first | exact hd_0 | exact drop_setS hd_0 | exact drop_setS (drop_setS hd_0)) (by first | exact hl_0 | simpa using hl_0) (by first | exact ht_0 | simpa using ht_0)))) (ev_bif ev_some (A_rcnf_2 hK_0 rest _ _ _ _ _ (by first | exact drop_succ hd | exact drop_set hd | exact drop_setS (drop_set hd)) (by first | exact hl | simpa using hl) (by first | exact hd_0 | exact drop_setS hd_0 | exact drop_setS (drop_setS hd_0)) (by first | exact hl_0 | simpa using hl_0) (by first | exact ht_0 | simpa using ht_0))))
noncomputable def F_rcnf_0 : List (SCp) → ((List (SEn)) × (List (SCp)) × Int × Nat) → Bool
  | [], (l, caps, s, i) => false
  | uu :: rest, (l, caps, s, i) => F_rcnf_2 (F_rcnf_0 rest) l (l, caps, s, i, 0)
noncomputable def P_rcnf_0 : List (SCp) → ((List (SEn)) × (List (SCp)) × Int × Nat) → Bool
  | [], (l, caps, s, i) => true
  | uu :: rest, (l, caps, s, i) => decide (l.length ≤ 1099511627776) && P_rcnf_2 (P_rcnf_0 rest) l (l, caps, s, i, 0)
theorem A_rcnf_0 : ∀ (rest : List (SCp)) (l : List (SEn)) (caps : List (SCp)) (s : Int) (i : Nat) (hd : caps.drop i = rest) (hl : caps.length ≤ 1099511627776), Rns (fun f => L_rcnf_0 f (l, caps, s, ((i : Nat) : Int))) (P_rcnf_0 rest (l, caps, s, i)) (F_rcnf_0 rest (l, caps, s, i))
  | [], l, caps, s, i, hd, hl => ev_step (T := fun f => some false) (fun f => (L_rcnf_0_eq f _ _ _ _).trans (by simp only [ge_dec (drop_ge hd), ge0, Bool.and_self, Bool.true_and, cond_true, cond_false, List.length_set] <;> rfl)) ev_some
  | uu :: rest, l, caps, s, i, hd, hl => ev_step (T := fun f => L_rcnf_2 f (l, caps, s, (↑i : Int), 0)) (fun f => (L_rcnf_0_eq f _ _ _ _).trans (by simp only [lt_dec (drop_lt hd), drop_get hd, wrap_succ (drop_lt hd) hl, getD_set (drop_lt hd), ge0, Bool.and_self, Bool.true_and, cond_true, cond_false, List.length_set] <;> rfl)) (ev_and fun hh => A_rcnf_2 (A_rcnf_0 rest) _ _ _ _ _ _ rfl (of_decide_eq_true hh) (by first | exact drop_succ hd | exact drop_set hd | exact drop_setS (drop_set hd)) (by first | exact hl | simpa using hl) (by first | exact drop_lt hd | simpa using drop_lt hd))
noncomputable def F_rcnf : ((List (SEn)) × SId × (List (SCp))) → Bool
  | (l, src, caps) => F_rcnf_0 caps (l, caps, findE l src, 0)
noncomputable def P_rcnf : ((List (SEn)) × SId × (List (SCp))) → Bool
  | (l, src, caps) => len40n l && (decide (caps.length ≤ 1099511627776) && P_rcnf_0 caps (l, caps, findE l src, 0))
theorem rcnf_auto : ∀ a : (List (SEn)) × SId × (List (SCp)), Rns (fun f => M_rcnf f a) (P_rcnf a) (F_rcnf a)
  | (l, src, caps) => ev_step (fun f => M_rcnf_eq f _ _ _) (ev_chk (ev_and fun hh => A_rcnf_0 _ _ _ _ _ rfl (of_decide_eq_true hh)))
theorem rcnf_2 (K KP : List SEn × List SCp × Int × Nat → Bool) (l : List SEn) (caps : List SCp) (s : Int) (hs : s < l.length) (i : Nat) (c : SCp) (t : List SCp) (hc : caps.drop i = c :: t) : ∀ (r : List SEn) (k : Nat),
    F_rcnf_2 K r (l, caps, s, i, k) = (r.any (hitE l s c) || K (l, caps, s, i + 1)) ∧ (KP (l, caps, s, i + 1) = true → P_rcnf_2 KP r (l, caps, s, i, k) = true)
  | [], k => ⟨rfl, fun h => h⟩
  | u :: r, k => by
    obtain ⟨i1, i2⟩ := rcnf_2 K KP l caps s hs i c t hc r (k + 1)
    constructor
    · simp only [F_rcnf_2, drop_get hc, i1, List.any_cons, hitE, beqI]
      show (bif decide (s ≥ 0) then bif decide ((ecap u).1 = 1) then bif overlaps (rgE u, rgC c) then bif !contains (rgE u, rgE (l.getD s.toNat zEn)) then true else _ else _ else bif overlaps (rgE u, rgC c) then true else _ else bif overlaps (rgE u, rgC c) then true else _) = _
      cases decide (s ≥ 0) <;> cases decide ((ecap u).1 = 1) <;> cases overlaps (rgE u, rgC c) <;> cases contains (rgE u, rgE (l.getD s.toNat zEn)) <;> simp
    · intro hk
      simp only [P_rcnf_2, i2 hk]
      by_cases h1 : s ≥ 0
      · have h0 : (0 : Int) ≤ s := h1
        simp [h0, hs]
      · have h0 : ¬ (0 : Int) ≤ s := h1
        simp [h0]
theorem rcnf_0 (l : List SEn) (caps : List SCp) (s : Int) (hs : s < l.length) (hl : l.length ≤ 1099511627776) : ∀ (r : List SCp) (i : Nat), caps.drop i = r → F_rcnf_0 r (l, caps, s, i) = r.any (fun c => l.any (hitE l s c)) ∧ P_rcnf_0 r (l, caps, s, i) = true
  | [], i, h => ⟨rfl, rfl⟩
  | c :: r, i, h => by
    obtain ⟨i1, i2⟩ := rcnf_0 l caps s hs hl r (i + 1) (drop_succ h)
    obtain ⟨j1, j2⟩ := rcnf_2 (F_rcnf_0 r) (P_rcnf_0 r) l caps s hs i c r h l 0
    simp only [F_rcnf_0, P_rcnf_0, j1, j2 i2, i1, List.any_cons, decide_eq_true hl]
    exact ⟨trivial, rfl⟩
def cnfPre (a : List SEn × SId × List SCp) : Bool := len40n a.1 && len40n a.2.2
theorem rcnf_P : ∀ a : List SEn × SId × List SCp, cnfPre a = true → P_rcnf a = true := by
  rintro ⟨l, src, caps⟩ h
  simp only [cnfPre, Bool.and_eq_true] at h
  have h1 : l.length ≤ 1099511627776 := of_decide_eq_true h.1
  have h2 : findE l src < l.length := by have := findI_lt (fun e : SEn => decide (eid e = src)) l 0 (by omega); unfold findE; omega
  simp only [P_rcnf, (rcnf_0 l caps _ h2 h1 caps 0 rfl).2, h.1, Bool.true_and, Bool.and_true]; exact h.2
theorem rcnf_F : ∀ a : List SEn × SId × List SCp, cnfPre a = true → F_rcnf a = cnfS a := by
  rintro ⟨l, src, caps⟩ h
  simp only [cnfPre, Bool.and_eq_true] at h
  have h1 : l.length ≤ 1099511627776 := of_decide_eq_true h.1
  have h2 : findE l src < l.length := by have := findI_lt (fun e : SEn => decide (eid e = src)) l 0 (by omega); unfold findE; omega
  simp only [F_rcnf, (rcnf_0 l caps _ h2 h1 caps 0 rfl).1, cnfS]
theorem rcnf_run : ∀ a, (cnfPre : (List (SEn)) × SId × (List (SCp)) → Bool) a = true → ∃ f, M_rcnf f a = some ((cnfS : (List (SEn)) × SId × (List (SCp)) → Bool) a) := fun a h => by have h1 := rcnf_auto a (rcnf_P a h); rw [rcnf_F a h] at h1; exact h1
noncomputable def E_rcnf : Ent := ⟨88, [.rd tSEn, .g tSId, .rd tSCp], [.v (.bool)], fun a => (cnfPre : (List (SEn)) × SId × (List (SCp)) → Bool) a, fun a => (cnfS : (List (SEn)) × SId × (List (SCp)) → Bool) a⟩
theorem E_rcnf_ok : E_rcnf.Ok Try.prog := fun a hp vs hv => (rcnf_run a hp).elim fun f h => fnX_ok (C := C_rcnf) (Lt := Lt_rcnf) (fn := Try.f88) (rs := [.tmp 6]) [.rd tSEn, .g tSId, .rd tSCp] [.v (.bool)] mixed es_rcnf Try.func88 rfl rfl rfl (by kernel_rfl) (by kernel_rfl) f h vs hv
/-! ### How forests are made -/
noncomputable def C_add : Cfg := ⟨Try.prog, [E_rins], pmT [], 24, [], []⟩
theorem es_add : EsOk Try.prog [E_rins] [] := es_cons E_rins_ok (es_nil)
def Lt_add : Nat → LD := ldT []
noncomputable def M_add (f : Nat) (a : (List (SEn)) × Int × Int × SNd) : Option ((List (SEn))) := (runX (C_add) Lt_add (Kret Try.prog [.tmp 8] [.v (.sl tSEn)]) f [.code (bodyOf Try.f89)] (initX [.c (.sl tSEn), .c (.int .i64), .c (.int .i64), .g tSNd] a) : Option (ResT [.v (.sl tSEn)]))
theorem M_add_eq (f : Nat) (l : List (SEn)) (core : Int) (slot : Int) (n : SNd) : M_add (f + 1) (l, core, slot, n) =
    bif insPre (l, core, slot, n) then bif !(insS (l, core, slot, n)).2 then some l else some (insS (l, core, slot, n)).1 else none := by kernel_rfl
noncomputable def F_add : ((List (SEn)) × Int × Int × SNd) → (List (SEn))
  | (l, core, slot, n) => bif !(insS (l, core, slot, n)).2 then l else (insS (l, core, slot, n)).1
noncomputable def P_add : ((List (SEn)) × Int × Int × SNd) → Bool
  | (l, core, slot, n) => insPre (l, core, slot, n)
theorem add_auto : ∀ a : (List (SEn)) × Int × Int × SNd, Rns (fun f => M_add f a) (P_add a) (F_add a)
  | (l, core, slot, n) => ev_step (fun f => M_add_eq f _ _ _ _) (ev_chk1 (ev_bift ev_some ev_some))
def addS (a : List SEn × Int × Int × SNd) : List SEn := bif (insS (a.1, a.2.1, a.2.2.1, a.2.2.2)).2 then (insS (a.1, a.2.1, a.2.2.1, a.2.2.2)).1 else a.1
def addPre (a : List SEn × Int × Int × SNd) : Bool := insPre (a.1, a.2.1, a.2.2.1, a.2.2.2)
theorem add_P : ∀ a, addPre a = true → P_add a = true := fun a h => h
theorem add_F : ∀ a, addPre a = true → F_add a = addS a := by
  rintro ⟨l, core, slot, n⟩ h
  simp only [F_add, addS]
  cases (insS (l, core, slot, n)).2 <;> rfl
theorem add_run : ∀ a, (addPre : (List (SEn)) × Int × Int × SNd → Bool) a = true → ∃ f, M_add f a = some ((addS : (List (SEn)) × Int × Int × SNd → (List (SEn))) a) := fun a h => by have h1 := add_auto a (add_P a h); rw [add_F a h] at h1; exact h1
noncomputable def E_add : Ent := ⟨89, [.c (.sl tSEn), .c (.int .i64), .c (.int .i64), .g tSNd], [.v (.sl tSEn)], fun a => (addPre : (List (SEn)) × Int × Int × SNd → Bool) a, fun a => (addS : (List (SEn)) × Int × Int × SNd → (List (SEn))) a⟩
theorem E_add_ok : E_add.Ok Try.prog := fun a hp vs hv => (add_run a hp).elim fun f h => fnX_ok (C := C_add) (Lt := Lt_add) (fn := Try.f89) (rs := [.tmp 8]) [.c (.sl tSEn), .c (.int .i64), .c (.int .i64), .g tSNd] [.v (.sl tSEn)] mixed es_add Try.func89 rfl rfl rfl (by kernel_rfl) (by kernel_rfl) f h vs hv
end Go.AL
