/-
  Ranges: contracts of the functions of layer 10 that a seat has. By an AI agent.
-/
import Derived.Test.YtbhnmholmpdmeaaGreatProg
import Derived.Test.YtbhnmholmpdmeaaGreatAxKit
import Derived.Test.YtbhnmholmpdmeaaGreatAxInt
import Derived.Test.YtbhnmholmpdmeaaGreatAxAuto
namespace Go.AL
open Go.Proofs
set_option linter.unusedVariables false
set_option linter.unusedSimpArgs false
theorem mixed : Tryz.prog.follows .mixedOrders = true := by kernel_rfl
abbrev tRg : List Ty := [.int .i64, .int .i64]
abbrev Rg := Int × Int
def valid (r : Rg) : Bool := decide (6 ≤ r.2) && (decide (r.2 ≤ 40) && (decide (0 ≤ r.1) && (Int.tmod r.1 (p2 r.2) == 0 && decide (r.1 + p2 r.2 ≤ 1099511627776))))
def rend (r : Rg) : Int := bif valid r then r.1 + p2 r.2 else 0
def contains (a : Rg × Rg) : Bool := valid a.1 && (valid a.2 && (decide (a.1.1 ≤ a.2.1) && decide (rend a.2 ≤ rend a.1)))
def overlaps (a : Rg × Rg) : Bool := valid a.1 && (valid a.2 && (decide (a.1.1 < rend a.2) && decide (a.2.1 < rend a.1)))
theorem valid_elim {r : Rg} (h : valid r = true) : 6 ≤ r.2 ∧ r.2 ≤ 40 ∧ 0 ≤ r.1 ∧ Int.tmod r.1 (p2 r.2) = 0 ∧ r.1 + p2 r.2 ≤ 1099511627776 := by
  simpa [valid] using h
noncomputable def C_valid : Cfg := ⟨Tryz.prog, [], pmT [], 32, [], [], [], []⟩
theorem es_valid : EsOk Tryz.prog [] [] [] := es_nil
def Lt_valid : Nat → LD := ldT []
noncomputable def M_valid (f : Nat) (a : Rg) : Option (Bool) := (runX (C_valid) Lt_valid (Kret Tryz.prog [.tmp 2] [.v (.bool)]) f [.code (bodyOf Tryz.f31)] (initX [.g tRg] a) : Option (ResT [.v (.bool)]))
theorem M_valid_eq (f : Nat) (r : Rg) : M_valid (f + 1) r =
    bif decide (r.2 < 6) then some false else bif decide (r.2 > 40) then some false else bif decide (r.1 < 0) then some false else bif decide (0 ≤ r.2) then bif IntKind.i64.wrap (1 * 2 ^ min (Int.toNat r.2) IntKind.i64.bits) != 0 then bif Int.tmod r.1 (IntKind.i64.wrap (1 * 2 ^ min (Int.toNat r.2) IntKind.i64.bits)) == 0 then some (decide (r.1 ≤ IntKind.i64.wrap (1099511627776 - IntKind.i64.wrap (1 * 2 ^ min (Int.toNat r.2) IntKind.i64.bits)))) else some false else none else none := by kernel_rfl
theorem valid_run : ∀ a, (fun _ => true) a = true → ∃ f, M_valid f a = some (valid a) := by
  rintro ⟨b, k⟩ _
  refine ⟨1, (M_valid_eq 0 _).trans ?_⟩
  simp only [valid]
  by_cases h1 : k < 6
  · simp [h1, show ¬ (6 ≤ k) by omega]
  by_cases h2 : k > 40
  · simp [h1, h2, show ¬ (k ≤ 40) by omega]
  by_cases h3 : b < 0
  · simp [h1, h2, h3, show ¬ (0 ≤ b) by omega]
  have hs := sh1 (k := k) (by omega) (by omega)
  have h5 := p2_pos k
  have h6 := p2_le40 (k := k) (by omega)
  have hne : (p2 k != 0) = true := by simp; omega
  simp only [hs, i64_id (n := 1099511627776 - p2 k) (by omega) (by omega), hne, cond_true]
  rw [bif_neg h1, bif_neg h2, bif_neg h3, bif_pos (by omega : 0 ≤ k)]
  have e1 : decide (b ≤ 1099511627776 - p2 k) = decide (b + p2 k ≤ 1099511627776) := decide_eq_decide.2 (by omega)
  rw [e1]
  simp only [show 6 ≤ k by omega, show k ≤ 40 by omega, show 0 ≤ b by omega, decide_true, Bool.true_and]
  cases (Int.tmod b (p2 k) == 0) <;> rfl
noncomputable def E_valid : Ent := ⟨31, [.g tRg], [.v (.bool)], fun a => (fun _ => true : Rg → Bool) a, fun a => (valid : Rg → Bool) a⟩
theorem E_valid_ok : E_valid.Ok Tryz.prog := fun a hp vs hv => (valid_run a hp).elim fun f h => fnX_ok (C := C_valid) (Lt := Lt_valid) (fn := Tryz.f31) (rs := [.tmp 2]) [.g tRg] [.v (.bool)] mixed es_valid Tryz.func31 rfl rfl rfl (by kernel_rfl) (by kernel_rfl) f h vs hv
noncomputable def C_rvalid : Cfg := ⟨Tryz.prog, [], pmT [], 38, [], [], [], []⟩
theorem es_rvalid : EsOk Tryz.prog [] [] [] := es_nil
def Lt_rvalid : Nat → LD := ldT []
noncomputable def M_rvalid (f : Nat) (a : Rg) : Option (Bool) := (runX (C_rvalid) Lt_rvalid (Kret Tryz.prog [.tmp 2] [.v (.bool)]) f [.code (bodyOf Tryz.f28)] (initX [.g tRg] a) : Option (ResT [.v (.bool)]))
theorem M_rvalid_eq (f : Nat) (r : Rg) : M_rvalid (f + 1) r =
    bif decide (r.2 < 6) then some false else bif decide (r.2 > 40) then some false else bif decide (r.1 < 0) then some false else bif decide (r.1 ≥ 1099511627776) then some false else bif decide (0 ≤ IntKind.u64.wrap r.2) then bif IntKind.i64.wrap (1 * 2 ^ min (IntKind.u64.wrap r.2).toNat IntKind.i64.bits) != 0 then bif Int.tmod r.1 (IntKind.i64.wrap (1 * 2 ^ min (IntKind.u64.wrap r.2).toNat IntKind.i64.bits)) == 0 then some (decide (IntKind.i64.wrap (r.1 + IntKind.i64.wrap (1 * 2 ^ min (IntKind.u64.wrap r.2).toNat IntKind.i64.bits)) ≤ 1099511627776)) else some false else none else none := by kernel_rfl
theorem rvalid_run : ∀ a, (fun _ => true) a = true → ∃ f, M_rvalid f a = some (valid a) := by
  rintro ⟨b, k⟩ _
  refine ⟨1, (M_rvalid_eq 0 _).trans ?_⟩
  simp only [valid]
  by_cases h1 : k < 6
  · simp [h1, show ¬ (6 ≤ k) by omega]
  by_cases h2 : k > 40
  · simp [h1, h2, show ¬ (k ≤ 40) by omega]
  by_cases h3 : b < 0
  · simp [h1, h2, h3, show ¬ (0 ≤ b) by omega]
  have h5 := p2_pos k
  by_cases h4 : b ≥ 1099511627776
  · simp [h1, h2, h3, h4, show ¬ (b + p2 k ≤ 1099511627776) by omega]
  have hu : IntKind.u64.wrap k = k := u64_id (by omega) (by omega)
  have hs := sh1 (k := k) (by omega) (by omega)
  have h6 := p2_le40 (k := k) (by omega)
  have hne : (p2 k != 0) = true := by simp; omega
  simp only [hu, hs, i64_id (n := b + p2 k) (by omega) (by omega), hne, cond_true]
  rw [bif_neg h1, bif_neg h2, bif_neg h3, bif_neg h4, bif_pos (by omega : 0 ≤ k)]
  simp only [show 6 ≤ k by omega, show k ≤ 40 by omega, show 0 ≤ b by omega, decide_true, Bool.true_and]
  cases (Int.tmod b (p2 k) == 0) <;> rfl
noncomputable def E_rvalid : Ent := ⟨28, [.g tRg], [.v (.bool)], fun a => (fun _ => true : Rg → Bool) a, fun a => (valid : Rg → Bool) a⟩
theorem E_rvalid_ok : E_rvalid.Ok Tryz.prog := fun a hp vs hv => (rvalid_run a hp).elim fun f h => fnX_ok (C := C_rvalid) (Lt := Lt_rvalid) (fn := Tryz.f28) (rs := [.tmp 2]) [.g tRg] [.v (.bool)] mixed es_rvalid Tryz.func28 rfl rfl rfl (by kernel_rfl) (by kernel_rfl) f h vs hv
noncomputable def C_end : Cfg := ⟨Tryz.prog, [E_valid], pmT [(3, ([(0, []), (1, []), (2, []), (3, []), (4, []), (5, []), (6, [])], [(2, 2), (6, 11)]))], 12, [], [], [], []⟩
theorem es_end : EsOk Tryz.prog [E_valid] [] [] := es_cons E_valid_ok (es_nil)
def Lt_end : Nat → LD := ldT []
noncomputable def M_end (f : Nat) (a : Rg) : Option (Int) := (runX (C_end) Lt_end (Kret Tryz.prog [.tmp 2] [.v (.int .i64)]) f [.code (bodyOf Tryz.f56)] (initX [.g tRg] a) : Option (ResT [.v (.int .i64)]))
theorem M_end_eq (f : Nat) (r : Rg) : M_end (f + 1) r =
    bif !valid (r.1, r.2) then some 0 else bif decide (0 ≤ r.2) then some (IntKind.i64.wrap (r.1 + IntKind.i64.wrap (1 * 2 ^ min (Int.toNat r.2) IntKind.i64.bits))) else none := by kernel_rfl
theorem end_run : ∀ a, (fun _ => true) a = true → ∃ f, M_end f a = some (rend a) := by
  rintro ⟨b, k⟩ _
  refine ⟨1, (M_end_eq 0 _).trans ?_⟩
  cases hv : valid (b, k)
  · simp [rend, hv]
  · obtain ⟨h1, h2, h3, h4, h5⟩ := valid_elim hv
    dsimp only at h1 h2 h3 h4 h5
    have h6 := p2_pos k
    have hs := sh1 (k := k) (by omega) (by omega)
    simp only [hs, rend, hv, i64_id (n := b + p2 k) (by omega) (by omega), show (0 ≤ k) by omega]; rfl
noncomputable def E_end : Ent := ⟨56, [.g tRg], [.v (.int .i64)], fun a => (fun _ => true : Rg → Bool) a, fun a => (rend : Rg → Int) a⟩
theorem E_end_ok : E_end.Ok Tryz.prog := fun a hp vs hv => (end_run a hp).elim fun f h => fnX_ok (C := C_end) (Lt := Lt_end) (fn := Tryz.f56) (rs := [.tmp 2]) [.g tRg] [.v (.int .i64)] mixed es_end Tryz.func56 rfl rfl rfl (by kernel_rfl) (by kernel_rfl) f h vs hv
noncomputable def C_rend : Cfg := ⟨Tryz.prog, [E_rvalid], pmT [], 13, [], [], [], []⟩
theorem es_rend : EsOk Tryz.prog [E_rvalid] [] [] := es_cons E_rvalid_ok (es_nil)
def Lt_rend : Nat → LD := ldT []
noncomputable def M_rend (f : Nat) (a : Rg) : Option (Int) := (runX (C_rend) Lt_rend (Kret Tryz.prog [.tmp 2] [.v (.int .i64)]) f [.code (bodyOf Tryz.f55)] (initX [.g tRg] a) : Option (ResT [.v (.int .i64)]))
theorem M_rend_eq (f : Nat) (r : Rg) : M_rend (f + 1) r =
    bif !valid (r.1, r.2) then some 0 else bif decide (0 ≤ IntKind.u64.wrap r.2) then some (IntKind.i64.wrap (r.1 + IntKind.i64.wrap (1 * 2 ^ min (IntKind.u64.wrap r.2).toNat IntKind.i64.bits))) else none := by kernel_rfl
theorem rend_run : ∀ a, (fun _ => true) a = true → ∃ f, M_rend f a = some (rend a) := by
  rintro ⟨b, k⟩ _
  refine ⟨1, (M_rend_eq 0 _).trans ?_⟩
  cases hv : valid (b, k)
  · simp [rend, hv]
  · obtain ⟨h1, h2, h3, h4, h5⟩ := valid_elim hv
    dsimp only at h1 h2 h3 h4 h5
    have h6 := p2_pos k
    have hu : IntKind.u64.wrap k = k := u64_id (by omega) (by omega)
    have hs := sh1 (k := k) (by omega) (by omega)
    simp only [hu, hs, rend, hv, i64_id (n := b + p2 k) (by omega) (by omega), show (0 ≤ k) by omega]; rfl
noncomputable def E_rend : Ent := ⟨55, [.g tRg], [.v (.int .i64)], fun a => (fun _ => true : Rg → Bool) a, fun a => (rend : Rg → Int) a⟩
theorem E_rend_ok : E_rend.Ok Tryz.prog := fun a hp vs hv => (rend_run a hp).elim fun f h => fnX_ok (C := C_rend) (Lt := Lt_rend) (fn := Tryz.f55) (rs := [.tmp 2]) [.g tRg] [.v (.int .i64)] mixed es_rend Tryz.func55 rfl rfl rfl (by kernel_rfl) (by kernel_rfl) f h vs hv
noncomputable def C_over : Cfg := ⟨Tryz.prog, [E_valid, E_end], pmT [(1, ([(0, []), (1, []), (2, []), (3, []), (4, []), (5, []), (6, []), (7, []), (8, []), (9, []), (10, []), (11, []), (12, []), (13, []), (14, []), (15, []), (16, []), (17, []), (18, []), (19, []), (20, [])], [(4, 24)]))], 25, [], [], [], []⟩
theorem es_over : EsOk Tryz.prog [E_valid, E_end] [] [] := es_cons E_valid_ok (es_cons E_end_ok (es_nil))
def Lt_over : Nat → LD := ldT []
noncomputable def M_over (f : Nat) (a : Rg × Rg) : Option (Bool) := (runX (C_over) Lt_over (Kret Tryz.prog [.tmp 4] [.v (.bool)]) f [.code (bodyOf Tryz.f33)] (initX [.g tRg, .g tRg] a) : Option (ResT [.v (.bool)]))
theorem M_over_eq (f : Nat) (a : Rg) (b : Rg) : M_over (f + 1) (a, b) =
    bif valid (a.1, a.2) then bif valid (b.1, b.2) then bif decide (a.1 < rend (b.1, b.2)) then some (decide (b.1 < rend (a.1, a.2))) else some false else some false else some false := by kernel_rfl
theorem over_run : ∀ a, (fun _ => true) a = true → ∃ f, M_over f a = some (overlaps a) := by
  rintro ⟨⟨b, k⟩, c, l⟩ _
  refine ⟨1, (M_over_eq 0 _ _).trans ?_⟩
  simp only [overlaps]
  cases valid (b, k) <;> cases valid (c, l) <;> cases hb : decide (b < rend (c, l)) <;> simp_all
noncomputable def E_over : Ent := ⟨33, [.g tRg, .g tRg], [.v (.bool)], fun a => (fun _ => true : Rg × Rg → Bool) a, fun a => (overlaps : Rg × Rg → Bool) a⟩
theorem E_over_ok : E_over.Ok Tryz.prog := fun a hp vs hv => (over_run a hp).elim fun f h => fnX_ok (C := C_over) (Lt := Lt_over) (fn := Tryz.f33) (rs := [.tmp 4]) [.g tRg, .g tRg] [.v (.bool)] mixed es_over Tryz.func33 rfl rfl rfl (by kernel_rfl) (by kernel_rfl) f h vs hv
noncomputable def C_rover : Cfg := ⟨Tryz.prog, [E_rvalid, E_rend], pmT [(1, ([(0, []), (1, []), (2, []), (3, []), (4, []), (5, []), (6, []), (7, []), (8, []), (9, []), (10, []), (11, []), (12, []), (13, []), (14, []), (15, []), (16, []), (17, []), (18, []), (19, []), (20, [])], [(4, 24)]))], 25, [], [], [], []⟩
theorem es_rover : EsOk Tryz.prog [E_rvalid, E_rend] [] [] := es_cons E_rvalid_ok (es_cons E_rend_ok (es_nil))
def Lt_rover : Nat → LD := ldT []
noncomputable def M_rover (f : Nat) (a : Rg × Rg) : Option (Bool) := (runX (C_rover) Lt_rover (Kret Tryz.prog [.tmp 4] [.v (.bool)]) f [.code (bodyOf Tryz.f30)] (initX [.g tRg, .g tRg] a) : Option (ResT [.v (.bool)]))
theorem M_rover_eq (f : Nat) (a : Rg) (b : Rg) : M_rover (f + 1) (a, b) =
    bif valid (a.1, a.2) then bif valid (b.1, b.2) then bif decide (a.1 < rend (b.1, b.2)) then some (decide (b.1 < rend (a.1, a.2))) else some false else some false else some false := by kernel_rfl
theorem rover_run : ∀ a, (fun _ => true) a = true → ∃ f, M_rover f a = some (overlaps a) := by
  rintro ⟨⟨b, k⟩, c, l⟩ _
  refine ⟨1, (M_rover_eq 0 _ _).trans ?_⟩
  simp only [overlaps]
  cases valid (b, k) <;> cases valid (c, l) <;> cases hb : decide (b < rend (c, l)) <;> simp_all
noncomputable def E_rover : Ent := ⟨30, [.g tRg, .g tRg], [.v (.bool)], fun a => (fun _ => true : Rg × Rg → Bool) a, fun a => (overlaps : Rg × Rg → Bool) a⟩
theorem E_rover_ok : E_rover.Ok Tryz.prog := fun a hp vs hv => (rover_run a hp).elim fun f h => fnX_ok (C := C_rover) (Lt := Lt_rover) (fn := Tryz.f30) (rs := [.tmp 4]) [.g tRg, .g tRg] [.v (.bool)] mixed es_rover Tryz.func30 rfl rfl rfl (by kernel_rfl) (by kernel_rfl) f h vs hv
end Go.AL
