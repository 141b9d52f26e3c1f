/-
  Layer 17: MachineMapsVanish: its run, put together. By an AI agent.
-/
import Derived.Test.YtbhnmholmpdmeaaGreatU2a
import Derived.Test.YtbhnmholmpdmeaaGreatU2b
import Derived.Test.YtbhnmholmpdmeaaGreatU2bf
import Derived.Test.YtbhnmholmpdmeaaGreatU2c
import Derived.Test.YtbhnmholmpdmeaaGreatU2d
namespace Go.AL
open Go.Proofs Go.CX
set_option linter.unusedVariables false
set_option linter.unusedSimpArgs false
noncomputable def mvF : Func := Tryz.f3
theorem mv_nt : mvF.ntmps = 119 := by kernel_rfl
theorem mv_d14 : dropS 4 (dropS 10 mvC) = dropS 14 mvC := by kernel_rfl
theorem mv_d17 : dropS 3 (dropS 14 mvC) = dropS 17 mvC := by kernel_rfl
theorem mv_body : mvF.body = some mvC := by kernel_rfl
theorem mv_fn : Tryz.prog.funcs[3]? = some mvF := by kernel_rfl

/-! ### The numbers -/
theorem wrap_small {n : Int} (h0 : 0 ≤ n) (h1 : n < 9223372036854775808) : IntKind.i64.wrap n = n := by rw [IntKind.wrap_i64]; omega
theorem plc_in (a b : Int) (hb : 0 < b) (hb2 : b ≤ 4096) : 0 ≤ plcF a b ∧ plcF a b < b := by
  have h1 : a.tmod b < b := Int.tmod_lt_of_pos a hb
  have h2 : -b < a.tmod b := Int.lt_tmod_of_pos a hb
  unfold plcF
  by_cases h : a.tmod b < 0
  · rw [decide_eq_true h, cond_true, wrap_small (by omega) (by omega)]
    omega
  · rw [decide_eq_false h, cond_false]
    omega
theorem and_small (x : Int) (h0 : 0 ≤ x) (h1 : x < 9223372036854775808) (n : Nat) (hn : n < 63) : (BitVec.ofInt IntKind.i64.bits x &&& BitVec.ofInt IntKind.i64.bits ((2 ^ n - 1 : Nat) : Int)).toNat = x.toNat % 2 ^ n := by
  obtain ⟨k, rfl⟩ := Int.eq_ofNat_of_zero_le h0
  have hp : 2 ^ n ≤ 2 ^ 62 := Nat.pow_le_pow_right (by omega) (by omega)
  have h62 : (2 : Nat) ^ 62 = 4611686018427387904 := by decide
  rw [BitVec.toNat_and, BitVec.toNat_ofInt, BitVec.toNat_ofInt]
  have e1 : ((k : Int) % ((2 ^ IntKind.i64.bits : Nat) : Int)).toNat = k := by
    show ((k : Int) % ((2 ^ 64 : Nat) : Int)).toNat = k
    omega
  have e2 : (((2 ^ n - 1 : Nat) : Int) % ((2 ^ IntKind.i64.bits : Nat) : Int)).toNat = 2 ^ n - 1 := by
    show (((2 ^ n - 1 : Nat) : Int) % ((2 ^ 64 : Nat) : Int)).toNat = 2 ^ n - 1
    generalize 2 ^ n = y at *
    omega
  rw [e1, e2, Nat.and_two_pow_sub_one_eq_mod]
  simp
structure Num (K O : Int) : Prop where
  k0 : 0 ≤ K
  k1 : K < 1024
  o0 : 0 ≤ O
  o1 : O < 4096
theorem opS_eq {K O : Int} (h : Num K O) : opS K = K * 4096 := by
  have := h.k0; have := h.k1
  show IntKind.i64.wrap (K * 4096) = _
  exact wrap_small (by omega) (by omega)
theorem opA_eq {K O : Int} (h : Num K O) : opA K O = K * 4096 + O := by
  have := h.k0; have := h.k1; have := h.o0; have := h.o1
  unfold opA
  rw [opS_eq h]
  exact wrap_small (by omega) (by omega)
theorem ci_ok {K O : Int} (h : Num K O) : ciF K = false := by
  have := h.k0; have := h.k1
  unfold ciF
  rw [decide_eq_false (by omega), decide_eq_false (by omega)]; rfl
theorem pv_ok {K O : Int} (h : Num K O) : ∀ n, pvF n K = false
  | 0 => rfl
  | 1 => by have := h.k0; show decide (K ≤ -1) = false; rw [decide_eq_false (by omega)]
  | 2 => by
    have := h.k1
    show (bif pvF 1 K then true else decide (K ≥ 1024)) = false
    rw [pv_ok h 1, decide_eq_false (by omega)]; rfl
  | n + 3 => by show (bif pvF (n + 2) K then true else false) = false; rw [pv_ok h (n + 2)]; rfl
theorem va_ok {A : Int} (h0 : 0 ≤ A) (h1 : A < 4194304) : vaF A = true := by
  unfold vaF
  rw [decide_eq_true (show A ≥ 0 from h0), decide_eq_true (show A < 4294967296 by omega)]; rfl
theorem ix2_ok {A : Int} (h0 : 0 ≤ A) (h1 : A < 4194304) : ix2 A = false := by unfold ix2; rw [va_ok h0 h1]; rfl
theorem ix3_ok {A : Int} (h0 : 0 ≤ A) (h1 : A < 4194304) : ix3 A = false := by unfold ix3; rw [ix2_ok h0 h1]; rfl
theorem ixF_eq {A : Int} (h0 : 0 ≤ A) (h1 : A < 4194304) (n : Nat) (hn : n < 63) : ixF A n = (A / 2 ^ n) % 1024 := by
  unfold ixF
  have hm : min ((n : Int).toNat) IntKind.i64.bits = n := by show min n 64 = n; omega
  rw [hm]
  have hp : (0 : Int) < 2 ^ n := Int.pow_pos (by omega)
  have hf : A.fdiv (2 ^ n) = A / 2 ^ n := Int.fdiv_eq_ediv_of_nonneg _ (by omega)
  have hd0 : 0 ≤ A / 2 ^ n := Int.ediv_nonneg h0 (by omega)
  have hd1 : A / 2 ^ n ≤ A := Int.ediv_le_self _ h0
  rw [hf]
  have := and_small (A / 2 ^ n) hd0 (by omega) 10 (by omega)
  rw [show (1023 : Int) = ((2 ^ 10 - 1 : Nat) : Int) by decide, this, wrap_small (by omega) (by omega)]
  omega
theorem rF_eq {A : Int} (h0 : 0 ≤ A) (h1 : A < 4194304) : rF A = 270336 + A % 4096 := by
  unfold rF
  have := and_small A h0 (by omega) 12 (by omega)
  rw [show (4095 : Int) = ((2 ^ 12 - 1 : Nat) : Int) by decide, this, wrap_small (n := ((A.toNat % 2 ^ 12 : Nat) : Int)) (by omega) (by omega), wrap_small (by omega) (by omega)]
  omega
theorem ev_ok {A : Int} (h0 : 0 ≤ A) (h1 : A < 4194304) : ∀ n, evF (n + 1) (rF A) A = true
  | 0 => by
    show ((rF A == IntKind.i64.wrap (270336 + A.tmod 4096)) && true) = true
    rw [rF_eq h0 h1, Int.tmod_eq_emod_of_nonneg h0, wrap_small (by omega) (by omega)]
    simp
  | n + 1 => by show (bif evF (n + 1) (rF A) A then true else false) = true; rw [ev_ok h0 h1 n]; rfl

/-! ### The stages -/
def mvT2 (r : Bool) (index off K O A S R : Int) : CS := match r with
  | true => stOf (mvS2t index off K O A S R) (mvO2t R) 756
  | false => stOf (mvS2f index off K O A S R) (mvO2f R) 731
def mvT3 (r : Bool) (index off K O A S R : Int) : CS := match r with
  | true => stOf (mvS3t index off K O A S R) (mvO3t R) 860
  | false => stOf (mvS3f index off K O A S R) (mvO3f R) 835
section
variable {w0 : World} {Q : Exit → Act → World → Prop}
theorem mv_two {K O : Int} (h : Num K O) (r : Bool) (index off : Int)
    (hs : SOK Tryz.prog w0 119 (dropS 14 mvC) (mvT2 r index off K O (opA K O) (opS K) (rF (opA K O))) Q) :
    SOK Tryz.prog w0 119 (dropS 10 mvC) (stOf (mvS1 r index off K O (opA K O) (opS K)) mvO1 496) Q := by
  have hA := opA_eq h
  obtain ⟨h1, h2, h3, h4⟩ := h
  have a0 : 0 ≤ opA K O := by omega
  have a1 : opA K O < 4194304 := by omega
  have e1 : decide (K < 0) = false := decide_eq_false (by omega)
  have e2 := ci_ok ⟨h1, h2, h3, h4⟩
  have e3 : decide (opA K O ≥ 0) = true := decide_eq_true a0
  have e4 := va_ok a0 a1
  have e5 := ix2_ok a0 a1
  have e6 := ix3_ok a0 a1
  have e7 := pv_ok ⟨h1, h2, h3, h4⟩
  have e8 : ((0 : Int) == ixF (opA K O) 22) = true := by
    rw [show (22 : Int) = ((22 : Nat) : Int) from rfl, ixF_eq a0 a1 22 (by omega), hA]
    simp only [beq_iff_eq]
    omega
  have e9 : (K == ixF (opA K O) 12) = true := by
    rw [show (12 : Int) = ((12 : Nat) : Int) from rfl, ixF_eq a0 a1 12 (by omega), hA]
    simp only [beq_iff_eq]
    omega
  rw [← mv_d14] at hs
  cases r with
  | true =>
    refine stageO_ok mixed plHk_ok (mv2t index off K O (opA K O) (opS K)) ?_ hs
    simp only [List.forall_mem_cons, e1, e2, e3, e4, e5, e6, e7, e8, e9, decide_true, Bool.not_true, BEq.rfl, List.not_mem_nil, false_implies, implies_true, and_self]
  | false =>
    refine stageO_ok mixed plHk_ok (mv2f index off K O (opA K O) (opS K)) ?_ hs
    simp only [List.forall_mem_cons, e1, e2, e3, e4, e5, e6, e7, e8, e9, decide_true, Bool.not_true, BEq.rfl, List.not_mem_nil, false_implies, implies_true, and_self]
theorem mv_three {K O R : Int} (h : Num K O) (r : Bool) (index off : Int)
    (hs : SOK Tryz.prog w0 119 (dropS 17 mvC) (mvT3 r index off K O (opA K O) (opS K) R) Q) :
    SOK Tryz.prog w0 119 (dropS 14 mvC) (mvT2 r index off K O (opA K O) (opS K) R) Q := by
  have hA := opA_eq h
  obtain ⟨h1, h2, h3, h4⟩ := h
  have a0 : 0 ≤ opA K O := by omega
  have a1 : opA K O < 4194304 := by omega
  have e1 : decide (K < 0) = false := decide_eq_false (by omega)
  have e2 := ci_ok ⟨h1, h2, h3, h4⟩
  have e3 : decide (opA K O ≥ 0) = true := decide_eq_true a0
  have e4 := va_ok a0 a1
  have e5 := ix2_ok a0 a1
  have e6 := ix3_ok a0 a1
  have e8 : ((0 : Int) == ixF (opA K O) 22) = true := by
    rw [show (22 : Int) = ((22 : Nat) : Int) from rfl, ixF_eq a0 a1 22 (by omega), hA]
    simp only [beq_iff_eq]
    omega
  rw [← mv_d17] at hs
  cases r with
  | true =>
    refine stageO_ok mixed plHk_ok (mv3t index off K O (opA K O) (opS K) R) ?_ hs
    simp only [List.forall_mem_cons, e1, e2, e3, e4, e5, e6, e8, decide_true, Bool.not_true, BEq.rfl, List.not_mem_nil, false_implies, implies_true, and_self]
  | false =>
    refine stageO_ok mixed plHk_ok (mv3f index off K O (opA K O) (opS K) R) ?_ hs
    simp only [List.forall_mem_cons, e1, e2, e3, e4, e5, e6, e8, decide_true, Bool.not_true, BEq.rfl, List.not_mem_nil, false_implies, implies_true, and_self]
theorem mv_last {K O : Int} (h : Num K O) (r : Bool) (index off : Int) : SOK Tryz.prog w0 119 (dropS 17 mvC) (mvT3 r index off K O (opA K O) (opS K) (rF (opA K O))) (bodyPost Tryz.prog mvF (EndR w0 (.bool true))) := by
  have hA := opA_eq h
  obtain ⟨h1, h2, h3, h4⟩ := h
  have a0 : 0 ≤ opA K O := by omega
  have a1 : opA K O < 4194304 := by omega
  have e := ev_ok a0 a1
  have e6 : evF 6 (rF (opA K O)) (opA K O) = true := e 5
  rw [← mv_nt]
  cases r with
  | true =>
    have hl := mvlt index off K O (opA K O) (opS K) (rF (opA K O))
    rw [e6] at hl
    refine lastO_ok mixed plHk_ok hl ?_ rfl
    simp only [List.forall_mem_cons, e, show evF 1 _ _ = true from e 0, show evF 2 _ _ = true from e 1, show evF 3 _ _ = true from e 2, show evF 4 _ _ = true from e 3, show evF 5 _ _ = true from e 4, BEq.rfl, List.not_mem_nil, false_implies, implies_true, and_self]
  | false =>
    have hl := mvlf index off K O (opA K O) (opS K) (rF (opA K O))
    rw [e6] at hl
    refine lastO_ok mixed plHk_ok hl ?_ rfl
    simp only [List.forall_mem_cons, e, show evF 1 _ _ = true from e 0, show evF 2 _ _ = true from e 1, show evF 3 _ _ = true from e 2, show evF 4 _ _ = true from e 3, show evF 5 _ _ = true from e 4, BEq.rfl, List.not_mem_nil, false_implies, implies_true, and_self]
theorem mv_one (r : Bool) (index off : Int) (hs : SOK Tryz.prog w0 119 (dropS 10 mvC) (stOf (mvS1 r index off (plcF index 1024) (plcF off 4096) (opA (plcF index 1024) (plcF off 4096)) (opS (plcF index 1024))) mvO1 496) Q) :
    SOK Tryz.prog w0 119 mvC ⟨initT [.bool r, .int .i64 index, .int .i64 off] 0 .leaf, ⟨.leaf, 0⟩⟩ Q := by
  cases r with
  | true =>
    refine stageO_ok mixed plHk_ok (mv1 index off) ?_ hs
    simp only [List.forall_mem_cons, decide_true, List.not_mem_nil, false_implies, implies_true, and_self]
  | false =>
    refine stageO_ok mixed plHk_ok (mv1f index off) ?_ hs
    simp only [List.forall_mem_cons, decide_true, List.not_mem_nil, false_implies, implies_true, and_self]
end
theorem mmv_run (r : Bool) (index off : Int) (w : World) : Calls Tryz.prog 3 ([.bool r, .int .i64 index, .int .i64 off] : List Value).toArray w (EndR w (.bool true)) := by
  have hN : Num (plcF index 1024) (plcF off 4096) := ⟨(plc_in index 1024 (by omega) (by omega)).1, (plc_in index 1024 (by omega) (by omega)).2, (plc_in off 4096 (by omega) (by omega)).1, (plc_in off 4096 (by omega) (by omega)).2⟩
  refine staged_ok mv_fn mv_body rfl (by rw [mv_nt]; exact (by decide : 3 ≤ 119)) (fun w0 => ?_) w
  rw [mv_nt]
  exact mv_one r index off (mv_two hN r index off (mv_three hN r index off (mv_last hN r index off)))
end Go.AL
