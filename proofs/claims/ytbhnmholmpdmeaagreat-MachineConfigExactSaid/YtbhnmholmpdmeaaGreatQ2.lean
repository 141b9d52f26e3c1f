/-
  Layer 17: capmachine.New, walked. By an AI agent.
-/
import Derived.Test.YtbhnmholmpdmeaaGreatQ1
import Derived.Test.YtbhnmholmpdmeaaGreatZg
namespace Go.AL
open Go.Proofs Go.RowKit
set_option linter.unusedVariables false
set_option linter.unusedSimpArgs false
attribute [local go_sem] Oper.semAt_some
noncomputable def C_ncl : Cfg := ⟨Tryz.prog, [], pmT [], 8, [], [], [], []⟩
theorem es_ncl : EsOk Tryz.prog [] := es_nil
theorem X_ncl (l : List (Int)) : (runX C_ncl (fun _ => ⟨[], [], 0⟩) (Kret Tryz.prog [.tmp 2] [.o 3 1 [.int .i64]]) 1 [.code (bodyOf Tryz.f15)] (initX [.rd [.int .i64]] l) : Option (ResT [.o 3 1 [.int .i64]])) = bif Decidable.decide (0 < l.length) && Bool.true then bif Decidable.decide ((([] : List Nat).length + l.length) * (bytesOf Tryz.prog 3) ≤ 140737488355328) then some l else none else none := by kernel_rfl
noncomputable def E_ncl : Ent := ⟨15, [.rd [.int .i64]], [.o 3 1 [.int .i64]], fun a => len40n (a : List (Int)), fun a => (a : List (Int))⟩
theorem E_ncl_ok : E_ncl.Ok Tryz.prog := fun a hp vs hv => clone_ok (τ := [.int .i64]) (t := 3) (es := 1)
    (fun a h0 h1 vs hv => fnX_ok (C := C_ncl) (Lt := fun _ => ⟨[], [], 0⟩) (fn := Tryz.f15) (rs := [.tmp 2]) [.rd [.int .i64]] [.o 3 1 [.int .i64]] mixed es_ncl Tryz.func15 rfl rfl rfl (by kernel_rfl) (by kernel_rfl) 1 ((X_ncl a).trans (clone_len h0 h1 (by decide +kernel))) vs hv)
    (fnX_ok (C := C_ncl) (Lt := fun _ => ⟨[], [], 0⟩) (fn := Tryz.f15) (rs := [.tmp 2]) (a := ()) [.raw (.slice none 0 0)] [.o 3 1 [.int .i64]] mixed es_ncl Tryz.func15 rfl rfl rfl (by kernel_rfl) (by kernel_rfl) 1 (by kernel_rfl) _ (by simp only [ArgsV, ArgsV1, ArgV]; exact ⟨_, rfl, rfl⟩))
    (fun b c => fnX_ok (C := C_ncl) (Lt := fun _ => ⟨[], [], 0⟩) (fn := Tryz.f15) (rs := [.tmp 2]) (a := ()) [.raw (.slice (some b) 0 c)] [.o 3 1 [.int .i64]] mixed es_ncl Tryz.func15 rfl rfl rfl (by kernel_rfl) (by kernel_rfl) 1 (by kernel_rfl) _ (by simp only [ArgsV, ArgsV1, ArgV]; exact ⟨_, rfl, rfl⟩))
    a (of_decide_eq_true hp) vs hv
noncomputable def C_rcl : Cfg := ⟨Tryz.prog, [], pmT [], 8, [], [], [], []⟩
theorem es_rcl : EsOk Tryz.prog [] := es_nil
theorem X_rcl (l : List (SRn)) : (runX C_rcl (fun _ => ⟨[], [], 0⟩) (Kret Tryz.prog [.tmp 2] [.o 51 3 tSRn]) 1 [.code (bodyOf Tryz.f16)] (initX [.rd tSRn] l) : Option (ResT [.o 51 3 tSRn])) = bif Decidable.decide (0 < l.length) && Bool.true then bif Decidable.decide ((([] : List Nat).length + l.length) * (bytesOf Tryz.prog 51) ≤ 140737488355328) then some l else none else none := by kernel_rfl
noncomputable def E_rcl : Ent := ⟨16, [.rd tSRn], [.o 51 3 tSRn], fun a => len40n (a : List (SRn)), fun a => (a : List (SRn))⟩
theorem E_rcl_ok : E_rcl.Ok Tryz.prog := fun a hp vs hv => clone_ok (τ := tSRn) (t := 51) (es := 3)
    (fun a h0 h1 vs hv => fnX_ok (C := C_rcl) (Lt := fun _ => ⟨[], [], 0⟩) (fn := Tryz.f16) (rs := [.tmp 2]) [.rd tSRn] [.o 51 3 tSRn] mixed es_rcl Tryz.func16 rfl rfl rfl (by kernel_rfl) (by kernel_rfl) 1 ((X_rcl a).trans (clone_len h0 h1 (by decide +kernel))) vs hv)
    (fnX_ok (C := C_rcl) (Lt := fun _ => ⟨[], [], 0⟩) (fn := Tryz.f16) (rs := [.tmp 2]) (a := ()) [.raw (.slice none 0 0)] [.o 51 3 tSRn] mixed es_rcl Tryz.func16 rfl rfl rfl (by kernel_rfl) (by kernel_rfl) 1 (by kernel_rfl) _ (by simp only [ArgsV, ArgsV1, ArgV]; exact ⟨_, rfl, rfl⟩))
    (fun b c => fnX_ok (C := C_rcl) (Lt := fun _ => ⟨[], [], 0⟩) (fn := Tryz.f16) (rs := [.tmp 2]) (a := ()) [.raw (.slice (some b) 0 c)] [.o 51 3 tSRn] mixed es_rcl Tryz.func16 rfl rfl rfl (by kernel_rfl) (by kernel_rfl) 1 (by kernel_rfl) _ (by simp only [ArgsV, ArgsV1, ArgV]; exact ⟨_, rfl, rfl⟩))
    a (of_decide_eq_true hp) vs hv
abbrev zzCf (x : SCf) (p0 : Value) (p3 : Value) (p4 : Value) : List Value := [p0, .int .i64 x.2.1, .int .i64 x.2.2.1, p3, p4]
theorem zzCf_eq {w : World} {A : Nat → Prop} {x : SCf} {ps : List Value} : rwP w A tSCf x ps = (∃ (p0 : Value) (r0 : List Value), ps = p0 :: r0 ∧ Cl w A (.sl [.int .i64]) x.1 p0 ∧ ∃ (p3 : Value) (r3 : List Value), r0 = p3 :: r3 ∧ Cl w A (.sl [.int .i64, .int .i64, .bool]) x.2.2.2.1 p3 ∧ ∃ (p4 : Value) (r4 : List Value), r3 = p4 :: r4 ∧ Cl w A (.sl [.int .i64]) x.2.2.2.2 p4 ∧ r4 = []) := by kernel_rfl
theorem zzCf_c {x : SCf} {p0 : Value} {p3 : Value} {p4 : Value} : rwC tSCf x [p0, p3, p4] = zzCf x p0 p3 p4 := by kernel_rfl
theorem zzCf_rw {w : World} {A : Nat → Prop} {x : SCf} {us : List Value} (h : Rw w A tSCf x us) : ∃ p0, ∃ p3, ∃ p4, us = zzCf x p0 p3 p4 ∧ Cl w A (.sl [.int .i64]) x.1 p0 ∧ Cl w A (.sl [.int .i64, .int .i64, .bool]) x.2.2.2.1 p3 ∧ Cl w A (.sl [.int .i64]) x.2.2.2.2 p4 := by
  obtain ⟨ps, hp, hh⟩ := h.to
  rw [zzCf_eq] at hp
  obtain ⟨p0, r0, rfl, h0, p3, r3, rfl, h3, p4, r4, rfl, h4, rfl⟩ := hp
  have hh := hh.trans zzCf_c
  exact ⟨p0, p3, p4, hh, h0, h3, h4⟩
theorem zzCf_of {w : World} {A : Nat → Prop} {x : SCf} {p0 : Value} {p3 : Value} {p4 : Value} (h0 : Cl w A (.sl [.int .i64]) x.1 p0) (h3 : Cl w A (.sl [.int .i64, .int .i64, .bool]) x.2.2.2.1 p3) (h4 : Cl w A (.sl [.int .i64]) x.2.2.2.2 p4) : Rw w A tSCf x (zzCf x p0 p3 p4) := by
  refine (congrArg (Rw w A tSCf x) zzCf_c).mp (Rw.of ?_)
  rw [zzCf_eq]
  exact ⟨_, _, rfl, h0, _, _, rfl, h3, _, _, rfl, h4, rfl⟩
structure Qd.Hid (p : Prop) : Prop where
  out : p
structure Qn.C (w W : World) (B : Nat) (p0 s l p3 p4 : Value) : Prop where
  bel : Below w.heap.size w W
  box : HB W B 29 #[p0, s, l, p3, p4]
theorem Qn.C.next {w W W' : World} {B : Nat} {p0 s l p3 p4 : Value} (h : Qn.C w W B p0 s l p3 p4) (hb : Below W.heap.size W W') : Qn.C w W' B p0 s l p3 p4 :=
  ⟨h.bel.trans (hb.mono h.bel.size), h.box.below hb h.box.lt⟩
theorem Qn.C.cells {w W : World} {B : Nat} {p0 s l p3 p4 : Value} (h : Qn.C w W B p0 s l p3 p4) : W.cell? ⟨B, 0, none⟩ = some p0 ∧ W.cell? ⟨B, 1, none⟩ = some s ∧ W.cell? ⟨B, 2, none⟩ = some l ∧ W.cell? ⟨B, 3, none⟩ = some p3 ∧ W.cell? ⟨B, 4, none⟩ = some p4 ∧ W.frozen? ⟨B, 0, none⟩ = false ∧ W.frozen? ⟨B, 3, none⟩ = false ∧ W.frozen? ⟨B, 4, none⟩ = false :=
  ⟨h.box.cell 0, h.box.cell 1, h.box.cell 2, h.box.cell 3, h.box.cell 4, h.box.frozen 0, h.box.frozen 3, h.box.frozen 4⟩
theorem Qn.icl {w W : World} {A : Nat → Prop} (hA : ∀ b, A b → b < w.heap.size) (hW : Below w.heap.size w W) {l : List Int} {u : Value} (h : Cl w A (.sl [.int .i64]) l u) (hl : l.length ≤ 1000) : Calls Tryz.prog 15 #[u] W fun en w' => ∃ a c, en = .returned (.slice a (l.length : Nat) c) ∧ Below W.heap.size W w' := by
  have h1 : Cl W A (.sl [.int .i64]) l u := h.fr (fun b hb' _ => hW.block b hb') hW.size (fun _ _ h => h)
  refine (Hw.call E_ncl_ok (l : List Int) (decide_eq_true (by show l.length ≤ _; omega)) (fun b hb => Nat.lt_of_lt_of_le (hA b hb) hW.size) (us := #[u]) (Ags.one (Ag.rdc h1))).mono fun en w' hh => ?_
  obtain ⟨us, A', rfl, hr, hAA, hA', hB⟩ := hh
  obtain ⟨r, rfl, ho, hg⟩ := (show ∃ u', us = [u'] ∧ OwnT w' A' W.heap.size 3 1 [.int .i64] l u' ∧ ∀ g, u'.ownBlock = some g → A' g from hr)
  obtain ⟨a, c, rfl⟩ := ho.form
  exact ⟨a, c, rfl, hB⟩
theorem Qn.rcl {w W : World} {A : Nat → Prop} (hA : ∀ b, A b → b < w.heap.size) (hW : Below w.heap.size w W) {l : List SRn} {u : Value} (h : Cl w A (.sl tSRn) l u) (hl : l.length ≤ 1000) : Calls Tryz.prog 16 #[u] W fun en w' => ∃ a c, en = .returned (.slice a (l.length : Nat) c) ∧ Below W.heap.size W w' := by
  have h1 : Cl W A (.sl tSRn) l u := h.fr (fun b hb' _ => hW.block b hb') hW.size (fun _ _ h => h)
  refine (Hw.call E_rcl_ok (l : List SRn) (decide_eq_true (by show l.length ≤ _; omega)) (fun b hb => Nat.lt_of_lt_of_le (hA b hb) hW.size) (us := #[u]) (Ags.one (Ag.rdc h1))).mono fun en w' hh => ?_
  obtain ⟨us, A', rfl, hr, hAA, hA', hB⟩ := hh
  obtain ⟨r, rfl, ho, hg⟩ := (show ∃ u', us = [u'] ∧ OwnT w' A' W.heap.size 51 3 tSRn l u' ∧ ∀ g, u'.ownBlock = some g → A' g from hr)
  obtain ⟨a, c, rfl⟩ := ho.form
  exact ⟨a, c, rfl, hB⟩
theorem Qn.vc {w W : World} {A : Nat → Prop} (hA : ∀ b, A b → b < w.heap.size) (hW : Below w.heap.size w W) {c : SCf} {p0 p3 p4 : Value} (h : Rw w A tSCf c (zzCf c p0 p3 p4)) : Calls Tryz.prog 12 #[.agg (zzCf c p0 p3 p4).toArray] W fun en w' => en = .returned (.bool (vcS c)) ∧ Below W.heap.size W w' := by
  have h1 : Rw W A tSCf c (zzCf c p0 p3 p4) := h.fr (fun b hb' _ => hW.block b hb') hW.size (fun _ _ h => h)
  refine (Hw.call E_cvc_ok (c : SCf) rfl (fun b hb => Nat.lt_of_lt_of_le (hA b hb) hW.size) (us := #[.agg (zzCf c p0 p3 p4).toArray]) (Ags.one (Ag.g h1))).mono fun en w' hh => ?_
  obtain ⟨us, A', rfl, hr, hAA, hA', hB⟩ := hh
  obtain ⟨r, rfl, ho⟩ := (show ∃ u', us = [u'] ∧ Cl w' A' .bool (vcS c) u' from hr)
  obtain rfl := cl_bool ho
  exact ⟨rfl, hB⟩
theorem Qn.rvc {w W : World} {A : Nat → Prop} (hA : ∀ b, A b → b < w.heap.size) (hW : Below w.heap.size w W) {c : SCf} {p0 p3 p4 : Value} (h : Rw w A tSCf c (zzCf c p0 p3 p4)) : Calls Tryz.prog 11 #[.agg (zzCf c p0 p3 p4).toArray] W fun en w' => en = .returned (.bool (vcS c)) ∧ Below W.heap.size W w' := by
  have h1 : Rw W A tSCf c (zzCf c p0 p3 p4) := h.fr (fun b hb' _ => hW.block b hb') hW.size (fun _ _ h => h)
  refine (Hw.call E_rvc_ok (c : SCf) rfl (fun b hb => Nat.lt_of_lt_of_le (hA b hb) hW.size) (us := #[.agg (zzCf c p0 p3 p4).toArray]) (Ags.one (Ag.g h1))).mono fun en w' hh => ?_
  obtain ⟨us, A', rfl, hr, hAA, hA', hB⟩ := hh
  obtain ⟨r, rfl, ho⟩ := (show ∃ u', us = [u'] ∧ Cl w' A' .bool (vcS c) u' from hr)
  obtain rfl := cl_bool ho
  exact ⟨rfl, hB⟩
end Go.AL
