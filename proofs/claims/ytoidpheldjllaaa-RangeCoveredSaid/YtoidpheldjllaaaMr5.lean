/-
  Contracts of Place, Block, Small, Smalls. By an AI agent.
-/
import Derived.Test.YtoidpheldjllaaaMr3
namespace Go.AL
open Go.Proofs
set_option linter.unusedVariables false
set_option linter.unusedSimpArgs false
def place (a : Int × Int) : Int := bif decide (a.2 < 1) then 0 else a.1 % a.2
def place_pre (a : Int × Int) : Bool := decide (a.2 ≤ 4611686018427387904)
noncomputable def C_place : Cfg := ⟨Try.prog, [], pmT [], 16, []⟩
theorem es_place : EsOk Try.prog [] [] := es_nil
def Lt_place : Nat → LD := ldT []
noncomputable def M_place (f : Nat) (a : Int × Int) : Option (Int) := (runX (C_place) Lt_place (Kret Try.prog [.tmp 4] [.v (.int .i64)]) f [.code (bodyOf Try.f36)] (initX [.c (.int .i64), .c (.int .i64)] a) : Option (ResT [.v (.int .i64)]))
theorem M_place_eq (f : Nat) (n : Int) (size : Int) : M_place (f + 1) (n, size) =
    bif decide (size < 1) then some 0 else bif size != 0 then bif decide (n.tmod size < 0) then some (IntKind.i64.wrap (n.tmod size + size)) else some (n.tmod size) else none := by kernel_rfl
theorem tmod_emod {n s : Int} (h : 0 < s) : n % s = if n.tmod s < 0 then n.tmod s + s else n.tmod s := by
  have h1 := Int.mul_tdiv_add_tmod n s
  have h2 := Int.tmod_lt_of_pos n h
  have h3 : -s < n.tmod s := by
    have := Int.tmod_lt_of_pos (-n) h
    rw [Int.neg_tmod] at this; omega
  have e : n % s = (n.tmod s) % s := by
    have : (s * n.tdiv s + n.tmod s) % s = n.tmod s % s := by rw [Int.mul_add_emod_self_left]
    rwa [h1] at this
  rw [e]
  split
  · rename_i h4
    have : (n.tmod s + s) % s = n.tmod s % s := by rw [Int.add_emod_right]
    rw [← this]
    exact Int.emod_eq_of_lt (by omega) (by omega)
  · rename_i h4
    exact Int.emod_eq_of_lt (by omega) h2
theorem place_run : ∀ a, place_pre a = true → ∃ f, M_place f a = some (place a) := by
  rintro ⟨n, s⟩ h
  have h : s ≤ 4611686018427387904 := of_decide_eq_true h
  refine ⟨1, (M_place_eq 0 _ _).trans ?_⟩
  unfold place
  by_cases h1 : s < 1
  · rw [bif_pos h1, bif_pos h1]
  · rw [bif_neg h1, bif_neg h1]
    have h2 : (s != 0) = true := by simp; omega
    have h3 := Int.tmod_lt_of_pos n (by omega : 0 < s)
    have h4 : -s < n.tmod s := by
      have := Int.tmod_lt_of_pos (-n) (by omega : 0 < s)
      rw [Int.neg_tmod] at this; omega
    rw [h2, cond_true, tmod_emod (by omega : 0 < s)]
    by_cases h5 : n.tmod s < 0
    · rw [bif_pos h5, if_pos h5, i64_id (by omega) (by omega)]
    · rw [bif_neg h5, if_neg h5]
theorem place_lo (n s : Int) : 0 ≤ place (n, s) := by
  unfold place
  by_cases h : s < 1
  · rw [bif_pos h]; omega
  · rw [bif_neg h]; exact Int.emod_nonneg _ (by show s ≠ 0; omega)
theorem place_hi (n : Int) {s : Int} (h : 0 < s) : place (n, s) < s := by
  unfold place
  rw [bif_neg (by show ¬ s < 1; omega)]; exact Int.emod_lt_of_pos _ h
noncomputable def E_place : Ent := ⟨36, [.c (.int .i64), .c (.int .i64)], [.v (.int .i64)], fun a => (place_pre : Int × Int → Bool) a, fun a => (place : Int × Int → Int) a⟩
theorem E_place_ok : E_place.Ok Try.prog := fun a hp vs hv => (place_run a hp).elim fun f h => fnX_ok (C := C_place) (Lt := Lt_place) (fn := Try.f36) (rs := [.tmp 4]) [.c (.int .i64), .c (.int .i64)] [.v (.int .i64)] mixed es_place Try.func36 rfl rfl rfl (by kernel_rfl) (by kernel_rfl) f h vs hv
def block (a : Int × Int) : Rg := (place (a.1, p2 (40 - (6 + place (a.2, 35)))) * p2 (6 + place (a.2, 35)), 6 + place (a.2, 35))
noncomputable def C_block : Cfg := ⟨Try.prog, [E_place], pmT [], 20, []⟩
theorem es_block : EsOk Try.prog [E_place] [] := es_cons E_place_ok (es_nil)
def Lt_block : Nat → LD := ldT []
noncomputable def M_block (f : Nat) (a : Int × Int) : Option (Rg) := (runX (C_block) Lt_block (Kret Try.prog [.cell 4 23] [.g tRg]) f [.code (bodyOf Try.f32)] (initX [.c (.int .i64), .c (.int .i64)] a) : Option (ResT [.g tRg]))
theorem M_block_eq (f : Nat) (base : Int) (bits : Int) : M_block (f + 1) (base, bits) =
    bif decide (0 ≤ IntKind.u64.wrap (IntKind.i64.wrap (40 - IntKind.i64.wrap (6 + place (bits, 35))))) then bif place_pre (base, IntKind.i64.wrap (1 * 2 ^ min (IntKind.u64.wrap (IntKind.i64.wrap (40 - IntKind.i64.wrap (6 + place (bits, 35))))).toNat IntKind.i64.bits)) then bif decide (0 ≤ IntKind.u64.wrap (IntKind.i64.wrap (6 + place (bits, 35)))) then some (IntKind.i64.wrap (place (base, IntKind.i64.wrap (1 * 2 ^ min (IntKind.u64.wrap (IntKind.i64.wrap (40 - IntKind.i64.wrap (6 + place (bits, 35))))).toNat IntKind.i64.bits)) * 2 ^ min (IntKind.u64.wrap (IntKind.i64.wrap (6 + place (bits, 35)))).toNat IntKind.i64.bits), IntKind.i64.wrap (6 + place (bits, 35))) else none else none else none := by kernel_rfl
theorem block_run : ∀ a, (fun _ => true) a = true → ∃ f, M_block f a = some (block a) := by
  rintro ⟨base, bits⟩ _
  refine ⟨1, (M_block_eq 0 _ _).trans ?_⟩
  have h1 := place_lo bits 35
  have h2 := place_hi bits (s := 35) (by omega)
  simp only [block]
  generalize place (bits, 35) = t at h1 h2 ⊢
  rw [i64_id (n := 6 + t) (by omega) (by omega), i64_id (n := 40 - (6 + t)) (by omega) (by omega), u64_id (n := 40 - (6 + t)) (by omega) (by omega), u64_id (n := 6 + t) (by omega) (by omega)]
  rw [sh1 (k := 40 - (6 + t)) (by omega) (by omega)]
  have h3 := p2_pos (40 - (6 + t))
  have h4 := p2_le40 (k := 40 - (6 + t)) (by omega)
  have h5 : place_pre (base, p2 (40 - (6 + t))) = true := decide_eq_true (by show p2 _ ≤ _; omega)
  have h6 := place_lo base (p2 (40 - (6 + t)))
  have h7 := place_hi base h3
  have h8 : place (base, p2 (40 - (6 + t))) * p2 (6 + t) ≤ p2 (40 - (6 + t)) * p2 (6 + t) := Int.mul_le_mul_of_nonneg_right (by omega) (Int.le_of_lt (p2_pos _))
  have h9 : 0 ≤ place (base, p2 (40 - (6 + t))) * p2 (6 + t) := Int.mul_nonneg h6 (Int.le_of_lt (p2_pos _))
  have h10 : p2 (40 - (6 + t)) * p2 (6 + t) = p2 40 := by rw [← p2_add (by omega) (by omega)]; congr 1; omega
  have h11 : p2 40 ≤ 1099511627776 := p2_le40 (by omega)
  rw [shp (k := 6 + t) (by omega) (by omega) (by omega) (by omega), h5]
  rw [bif_pos (by omega : (0:Int) ≤ 40 - (6 + t)), cond_true, bif_pos (by omega : (0:Int) ≤ 6 + t)]
noncomputable def E_block : Ent := ⟨32, [.c (.int .i64), .c (.int .i64)], [.g tRg], fun a => (fun _ => true : Int × Int → Bool) a, fun a => (block : Int × Int → Rg) a⟩
theorem E_block_ok : E_block.Ok Try.prog := fun a hp vs hv => (block_run a hp).elim fun f h => fnX_ok (C := C_block) (Lt := Lt_block) (fn := Try.f32) (rs := [.cell 4 23]) [.c (.int .i64), .c (.int .i64)] [.g tRg] mixed es_block Try.func32 rfl rfl rfl (by kernel_rfl) (by kernel_rfl) f h vs hv
def small (a : Int × Int) : Rg := (place (a.1, p2 (16 - (6 + place (a.2, 11)))) * p2 (6 + place (a.2, 11)), 6 + place (a.2, 11))
noncomputable def C_small : Cfg := ⟨Try.prog, [E_place], pmT [], 20, []⟩
theorem es_small : EsOk Try.prog [E_place] [] := es_cons E_place_ok (es_nil)
def Lt_small : Nat → LD := ldT []
noncomputable def M_small (f : Nat) (a : Int × Int) : Option (Rg) := (runX (C_small) Lt_small (Kret Try.prog [.cell 4 23] [.g tRg]) f [.code (bodyOf Try.f33)] (initX [.c (.int .i64), .c (.int .i64)] a) : Option (ResT [.g tRg]))
theorem M_small_eq (f : Nat) (base : Int) (bits : Int) : M_small (f + 1) (base, bits) =
    bif decide (0 ≤ IntKind.u64.wrap (IntKind.i64.wrap (16 - IntKind.i64.wrap (6 + place (bits, 11))))) then bif place_pre (base, IntKind.i64.wrap (1 * 2 ^ min (IntKind.u64.wrap (IntKind.i64.wrap (16 - IntKind.i64.wrap (6 + place (bits, 11))))).toNat IntKind.i64.bits)) then bif decide (0 ≤ IntKind.u64.wrap (IntKind.i64.wrap (6 + place (bits, 11)))) then some (IntKind.i64.wrap (place (base, IntKind.i64.wrap (1 * 2 ^ min (IntKind.u64.wrap (IntKind.i64.wrap (16 - IntKind.i64.wrap (6 + place (bits, 11))))).toNat IntKind.i64.bits)) * 2 ^ min (IntKind.u64.wrap (IntKind.i64.wrap (6 + place (bits, 11)))).toNat IntKind.i64.bits), IntKind.i64.wrap (6 + place (bits, 11))) else none else none else none := by kernel_rfl
theorem small_run : ∀ a, (fun _ => true) a = true → ∃ f, M_small f a = some (small a) := by
  rintro ⟨base, bits⟩ _
  refine ⟨1, (M_small_eq 0 _ _).trans ?_⟩
  have h1 := place_lo bits 11
  have h2 := place_hi bits (s := 11) (by omega)
  simp only [small]
  generalize place (bits, 11) = t at h1 h2 ⊢
  rw [i64_id (n := 6 + t) (by omega) (by omega), i64_id (n := 16 - (6 + t)) (by omega) (by omega), u64_id (n := 16 - (6 + t)) (by omega) (by omega), u64_id (n := 6 + t) (by omega) (by omega)]
  rw [sh1 (k := 16 - (6 + t)) (by omega) (by omega)]
  have h3 := p2_pos (16 - (6 + t))
  have h4 := p2_le40 (k := 16 - (6 + t)) (by omega)
  have h5 : place_pre (base, p2 (16 - (6 + t))) = true := decide_eq_true (by show p2 _ ≤ _; omega)
  have h6 := place_lo base (p2 (16 - (6 + t)))
  have h7 := place_hi base h3
  have h8 : place (base, p2 (16 - (6 + t))) * p2 (6 + t) ≤ p2 (16 - (6 + t)) * p2 (6 + t) := Int.mul_le_mul_of_nonneg_right (by omega) (Int.le_of_lt (p2_pos _))
  have h9 : 0 ≤ place (base, p2 (16 - (6 + t))) * p2 (6 + t) := Int.mul_nonneg h6 (Int.le_of_lt (p2_pos _))
  have h10 : p2 (16 - (6 + t)) * p2 (6 + t) = p2 16 := by rw [← p2_add (by omega) (by omega)]; congr 1; omega
  have h11 : p2 16 ≤ 1099511627776 := p2_le40 (by omega)
  rw [shp (k := 6 + t) (by omega) (by omega) (by omega) (by omega), h5]
  rw [bif_pos (by omega : (0:Int) ≤ 16 - (6 + t)), cond_true, bif_pos (by omega : (0:Int) ≤ 6 + t)]
noncomputable def E_small : Ent := ⟨33, [.c (.int .i64), .c (.int .i64)], [.g tRg], fun a => (fun _ => true : Int × Int → Bool) a, fun a => (small : Int × Int → Rg) a⟩
theorem E_small_ok : E_small.Ok Try.prog := fun a hp vs hv => (small_run a hp).elim fun f h => fnX_ok (C := C_small) (Lt := Lt_small) (fn := Try.f33) (rs := [.cell 4 23]) [.c (.int .i64), .c (.int .i64)] [.g tRg] mixed es_small Try.func33 rfl rfl rfl (by kernel_rfl) (by kernel_rfl) f h vs hv
def smallsN : Nat → List Int → List Rg
  | n + 1, a :: b :: l => small (a, b) :: smallsN n l
  | _, _ => []
noncomputable def C_smalls : Cfg := ⟨Try.prog, [E_small], pmT [(5, ([(0, []), (1, []), (2, []), (3, []), (4, []), (5, []), (6, []), (7, []), (8, []), (9, []), (10, []), (11, []), (12, []), (13, [])], [(3, 3), (16, 28)]))], 30, []⟩
theorem es_smalls : EsOk Try.prog [E_small] [] := es_cons E_small_ok (es_nil)
def Lt_smalls : Nat → LD := ldT [(0, ⟨[.rd 0 [.int .i64], .list 3 999 23 2 tRg, .c 4 (.int .i64)], []⟩)]
noncomputable def M_smalls (f : Nat) (a : (List (Int))) : Option ((List (Rg))) := (runX (C_smalls) Lt_smalls (Kret Try.prog [.tmp 2] [.o 23 2 tRg]) f [.code (bodyOf Try.f34)] (initX [.rd [.int .i64]] a) : Option (ResT [.o 23 2 tRg]))
noncomputable def L_smalls_0 (f : Nat) (x : (List (Int)) × (List (Rg)) × Int) : Option ((List (Rg))) := (runX (C_smalls) Lt_smalls (Kret Try.prog [.tmp 2] [.o 23 2 tRg]) f (headOf Try.f34 0) ((Lt_smalls 0).mk' x) : Option (ResT [.o 23 2 tRg]))
theorem M_smalls_eq (f : Nat) (l : List (Int)) : M_smalls (f + 1) l =
    L_smalls_0 f (l, [], 0) := by kernel_rfl
theorem L_smalls_0_eq (f : Nat) (l : List (Int)) (out : List (Rg)) (i : Int) : L_smalls_0 (f + 1) (l, out, i) =
    bif decide (IntKind.i64.wrap (i + 1) < (↑l.length : Int)) then bif decide (i < 80) then bif decide (0 ≤ i) && decide (i < (↑l.length : Int)) then bif decide (0 ≤ IntKind.i64.wrap (i + 1)) && decide (IntKind.i64.wrap (i + 1) < (↑l.length : Int)) then bif decide ((out.length + [((small (l.getD i.toNat 0, l.getD (IntKind.i64.wrap (i + 1)).toNat 0)).1, (small (l.getD i.toNat 0, l.getD (IntKind.i64.wrap (i + 1)).toNat 0)).2)].length) * 16 ≤ 140737488355328) then L_smalls_0 f (l, out ++ [((small (l.getD i.toNat 0, l.getD (IntKind.i64.wrap (i + 1)).toNat 0)).1, (small (l.getD i.toNat 0, l.getD (IntKind.i64.wrap (i + 1)).toNat 0)).2)], IntKind.i64.wrap (i + 2)) else none else none else none else some out else some out := by kernel_rfl
theorem getD_nat {α : Type} (l : List α) (x : α) (r : List α) (d : α) (n : Int) (h : n = (l.length : Nat)) : (l ++ x :: r).getD n.toNat d = x := by
  subst h; exact getD_mid l x r d
theorem smallsN_nil (n : Nat) : smallsN n [] = [] := by cases n <;> rfl
theorem smallsN_one (n : Nat) (a : Int) : smallsN n [a] = [] := by cases n <;> rfl
theorem smalls_loop : ∀ (n : Nat) (rest pre : List Int) (out : List Rg), pre.length + 2 * n = 80 → out.length ≤ pre.length →
    ∃ f, L_smalls_0 f (pre ++ rest, out, ((pre.length : Nat) : Int)) = some (out ++ smallsN n rest)
  | 0, rest, pre, out, hp, ho => by
    refine ⟨1, (L_smalls_0_eq 0 _ _ _).trans ?_⟩
    have : decide (((pre.length : Nat) : Int) < 80) = false := decide_eq_false (by omega)
    rw [this]
    cases decide (IntKind.i64.wrap (((pre.length : Nat) : Int) + 1) < (((pre ++ rest).length : Nat) : Int)) <;> simp [smallsN]
  | n + 1, [], pre, out, hp, ho => by
    refine ⟨1, (L_smalls_0_eq 0 _ _ _).trans ?_⟩
    rw [i64_id (by omega) (by omega), bif_neg (by simp; omega), smallsN_nil]; simp
  | n + 1, [a], pre, out, hp, ho => by
    refine ⟨1, (L_smalls_0_eq 0 _ _ _).trans ?_⟩
    rw [i64_id (by omega) (by omega), bif_neg (by simp), smallsN_one]; simp
  | n + 1, a :: b :: rest, pre, out, hp, ho => by
    obtain ⟨f, hf⟩ := smalls_loop n rest (pre ++ [a, b]) (out ++ [small (a, b)]) (by simp; omega) (by simp; omega)
    refine ⟨f + 1, (L_smalls_0_eq f _ _ _).trans ?_⟩
    have e1 : IntKind.i64.wrap (((pre.length : Nat) : Int) + 1) = (((pre ++ [a]).length : Nat) : Int) := by rw [i64_id (by omega) (by omega)]; simp
    have e2 : IntKind.i64.wrap (((pre.length : Nat) : Int) + 2) = (((pre ++ [a, b]).length : Nat) : Int) := by rw [i64_id (by omega) (by omega)]; simp
    have g1 : (pre ++ a :: b :: rest).getD (Int.toNat ((pre.length : Nat) : Int)) 0 = a := getD_mid _ _ _ _
    have g2 : (pre ++ a :: b :: rest).getD (Int.toNat (((pre ++ [a]).length : Nat) : Int)) 0 = b := by
      rw [show pre ++ a :: b :: rest = (pre ++ [a]) ++ b :: rest by simp]; exact getD_mid _ _ _ _
    have l1 := lt_mid pre a (b :: rest)
    have l2 : decide ((((pre ++ [a]).length : Nat) : Int) < (((pre ++ a :: b :: rest).length : Nat) : Int)) = true := by
      rw [show pre ++ a :: b :: rest = (pre ++ [a]) ++ b :: rest by simp]; exact lt_mid _ _ _
    have l3 : decide (((pre.length : Nat) : Int) < 80) = true := decide_eq_true (by omega)
    have l4 : ∀ x : Rg, decide ((out.length + [x].length) * 16 ≤ 140737488355328) = true := fun x => by simp; omega
    simp only [e1, e2, g1, g2, l1, l2, l3, l4, ge0, Bool.and_self, cond_true]
    rw [show pre ++ a :: b :: rest = (pre ++ [a, b]) ++ rest by simp]
    refine hf.trans ?_
    simp [smallsN]
theorem smalls_run : ∀ a, (fun _ => true) a = true → ∃ f, M_smalls f a = some (smallsN 40 a) := by
  intro a _
  obtain ⟨f, hf⟩ := smalls_loop 40 a [] [] rfl (by simp)
  refine ⟨f + 1, (M_smalls_eq f _).trans ?_⟩
  simpa using hf
noncomputable def E_smalls : Ent := ⟨34, [.rd [.int .i64]], [.o 23 2 tRg], fun a => (fun _ => true : (List (Int)) → Bool) a, fun a => (smallsN 40 : (List (Int)) → (List (Rg))) a⟩
theorem E_smalls_ok : E_smalls.Ok Try.prog := fun a hp vs hv => (smalls_run a hp).elim fun f h => fnX_ok (C := C_smalls) (Lt := Lt_smalls) (fn := Try.f34) (rs := [.tmp 2]) [.rd [.int .i64]] [.o 23 2 tRg] mixed es_smalls Try.func34 rfl rfl rfl (by kernel_rfl) (by kernel_rfl) f h vs hv
end Go.AL
