/-
  Layer 30 (sched): SchedGuarantee. By an AI agent.
-/
import Derived.Test.YtmdmmikpmhopkaaKz
import Derived.Test.YtmdmmikpmhopkaaK12
namespace Go.AL
open Go.Proofs
set_option linter.unusedVariables false
set_option linter.unusedSimpArgs false
set_option maxHeartbeats 4000000
noncomputable def C_sgu : Cfg := ⟨Try.prog, [E_new, E_nit, E_doo, E_place, E_tic, E_awk], pmT [], 156, [], [], [], []⟩
theorem es_sgu : EsOk Try.prog [E_new, E_nit, E_doo, E_place, E_tic, E_awk] [] [] := es_cons E_new_ok (es_cons E_nit_ok (es_cons E_doo_ok (es_cons E_place_ok (es_cons E_tic_ok (es_cons E_awk_ok (es_nil))))))
def Lt_sgu : Nat → LD := ldT [(0, ⟨[.rd 0 tSSp, .box 3 3 26 3 tSSd, .arr 4 4 47 3 [.int .i64, .int .i64, .bool], .c 5 (.int .i64)], [], 0⟩), (3, ⟨[.rd 0 tSSp, .box 3 3 26 3 tSSd, .arr 4 4 47 3 [.int .i64, .int .i64, .bool], .c 5 (.int .i64), .c 10 (.int .i64)], [], 0⟩), (5, ⟨[.rd 0 tSSp, .box 3 3 26 3 tSSd, .arr 4 4 47 3 [.int .i64, .int .i64, .bool], .c 5 (.int .i64), .c 10 (.int .i64), .box 11 11 26 3 tSSd, .c 16 (.int .i64)], [], 0⟩)]
noncomputable def M_sgu (f : Nat) (a : (List (SSp))) : Option (Bool) := (runX (C_sgu) Lt_sgu (Kret Try.prog [.tmp 2] [.v (.bool)]) f [.code (bodyOf Try.f6)] (initX [.rd tSSp] a) : Option (ResT [.v (.bool)]))
noncomputable def L_sgu_0 (f : Nat) (x : (List (SSp)) × SSd × (List (Int × Int × Bool)) × Int) : Option (Bool) := (runX (C_sgu) Lt_sgu (Kret Try.prog [.tmp 2] [.v (.bool)]) f (headOf Try.f6 0) ((Lt_sgu 0).mk' x) : Option (ResT [.v (.bool)]))
noncomputable def L_sgu_3 (f : Nat) (x : (List (SSp)) × SSd × (List (Int × Int × Bool)) × Int × Int) : Option (Bool) := (runX (C_sgu) Lt_sgu (Kret Try.prog [.tmp 2] [.v (.bool)]) f (headOf Try.f6 3) ((Lt_sgu 3).mk' x) : Option (ResT [.v (.bool)]))
noncomputable def L_sgu_5 (f : Nat) (x : (List (SSp)) × SSd × (List (Int × Int × Bool)) × Int × Int × SSd × Int) : Option (Bool) := (runX (C_sgu) Lt_sgu (Kret Try.prog [.tmp 2] [.v (.bool)]) f (headOf Try.f6 5) ((Lt_sgu 5).mk' x) : Option (ResT [.v (.bool)]))
theorem M_sgu_eq (f : Nat) (steps : List (SSp)) : M_sgu (f + 1) steps =
    L_sgu_0 f (steps, (0, 0, []), [(0, 0, false), (0, 0, false), (0, 0, false), (0, 0, false), (0, 0, false), (0, 0, false), (0, 0, false), (0, 0, false), (0, 0, false), (0, 0, false), (0, 0, false), (0, 0, false), (0, 0, false), (0, 0, false), (0, 0, false), (0, 0, false), (0, 0, false), (0, 0, false), (0, 0, false), (0, 0, false), (0, 0, false), (0, 0, false), (0, 0, false), (0, 0, false), (0, 0, false), (0, 0, false), (0, 0, false), (0, 0, false), (0, 0, false), (0, 0, false), (0, 0, false), (0, 0, false)], 0) := by kernel_rfl
theorem L_sgu_0_eq (f : Nat) (steps : List (SSp)) (s : SSd) (of : List (Int × Int × Bool)) (i : Int) : L_sgu_0 (f + 1) (steps, s, of, i) =
    bif decide (i < (↑steps.length : Int)) then bif decide (i < 120) then bif decide (0 ≤ i) && decide (i < (↑steps.length : Int)) then bif nitS (steps.getD i.toNat (0, 0, 0, 0)) == 0 then bif okD s then bif (doS (s, steps.getD i.toNat (0, 0, 0, 0))).2 == 0 then bif plc ((steps.getD i.toNat (0, 0, 0, 0)).1, 10) == 1 then bif Nat.beq 32 of.length && (decide (0 ≤ plc ((steps.getD i.toNat (0, 0, 0, 0)).2.1, 8)) && decide (plc ((steps.getD i.toNat (0, 0, 0, 0)).2.1, 8) < (↑of.length : Int))) then L_sgu_0 f (steps, (doS (s, steps.getD i.toNat (0, 0, 0, 0))).1, of.set (plc ((steps.getD i.toNat (0, 0, 0, 0)).2.1, 8)).toNat (0, (doS (s, steps.getD i.toNat (0, 0, 0, 0))).1.1, true), IntKind.i64.wrap (i + 1)) else none else bif plc ((steps.getD i.toNat (0, 0, 0, 0)).1, 10) == 2 then bif plc ((steps.getD i.toNat (0, 0, 0, 0)).1, 10) == 2 then bif Nat.beq 32 of.length && (decide (0 ≤ plc ((steps.getD i.toNat (0, 0, 0, 0)).2.1, 8)) && decide (plc ((steps.getD i.toNat (0, 0, 0, 0)).2.1, 8) < (↑of.length : Int))) then L_sgu_0 f (steps, (doS (s, steps.getD i.toNat (0, 0, 0, 0))).1, of.set (plc ((steps.getD i.toNat (0, 0, 0, 0)).2.1, 8)).toNat (upT (upS false) (of.getD (plc ((steps.getD i.toNat (0, 0, 0, 0)).2.1, 8)).toNat (0, 0, false))), IntKind.i64.wrap (i + 1)) else none else L_sgu_0 f (steps, (doS (s, steps.getD i.toNat (0, 0, 0, 0))).1, of, IntKind.i64.wrap (i + 1)) else bif plc ((steps.getD i.toNat (0, 0, 0, 0)).1, 10) == 3 then bif Nat.beq 32 of.length && (decide (0 ≤ plc ((steps.getD i.toNat (0, 0, 0, 0)).2.1, 8)) && decide (plc ((steps.getD i.toNat (0, 0, 0, 0)).2.1, 8) < (↑of.length : Int))) then L_sgu_0 f (steps, (doS (s, steps.getD i.toNat (0, 0, 0, 0))).1, of.set (plc ((steps.getD i.toNat (0, 0, 0, 0)).2.1, 8)).toNat (upT (upS false) (of.getD (plc ((steps.getD i.toNat (0, 0, 0, 0)).2.1, 8)).toNat (0, 0, false))), IntKind.i64.wrap (i + 1)) else none else L_sgu_0 f (steps, (doS (s, steps.getD i.toNat (0, 0, 0, 0))).1, of, IntKind.i64.wrap (i + 1)) else L_sgu_0 f (steps, s, of, IntKind.i64.wrap (i + 1)) else none else L_sgu_3 f (steps, s, of, i, nitS (steps.getD i.toNat (0, 0, 0, 0))) else none else some true else some true := by kernel_rfl
theorem L_sgu_3_eq (f : Nat) (steps : List (SSp)) (s : SSd) (of : List (Int × Int × Bool)) (i : Int) (n : Int) : L_sgu_3 (f + 1) (steps, s, of, i, n) =
    bif decide (n > 0) then bif okD s then bif (tckS s).2.2.2.2 != 0 then some false else bif (tckS s).1.1 != IntKind.i64.wrap (s.1 + 1) then some false else bif decide ((tckS s).2.1 ≥ 0) then bif decide ((tckS s).2.1 < 32) then bif Nat.beq 32 of.length && (decide (0 ≤ (tckS s).2.1) && decide ((tckS s).2.1 < (↑of.length : Int))) then bif Nat.beq 32 of.length && (decide (0 ≤ (tckS s).2.1) && decide ((tckS s).2.1 < (↑of.length : Int))) then L_sgu_5 f (steps, s, of.set (Int.toNat (tckS s).2.1) (upH (IntKind.i64.wrap ((of.getD (Int.toNat (tckS s).2.1) (0, 0, false)).1 + 1)) (of.getD (Int.toNat (tckS s).2.1) (0, 0, false))), i, n, (tckS s).1, 0) else none else none else L_sgu_5 f (steps, s, of, i, n, (tckS s).1, 0) else L_sgu_5 f (steps, s, of, i, n, (tckS s).1, 0) else none else L_sgu_0 f (steps, s, of, IntKind.i64.wrap (i + 1)) := by kernel_rfl
theorem L_sgu_5_eq (f : Nat) (steps : List (SSp)) (s : SSd) (of : List (Int × Int × Bool)) (i : Int) (n : Int) (t : SSd) (k : Int) : L_sgu_5 (f + 1) (steps, s, of, i, n, t, k) =
    bif decide (k < (↑(List.length s.2.2) : Int)) then bif decide (0 ≤ k) && decide (k < (↑(List.length s.2.2) : Int)) then bif decide ((List.getD s.2.2 k.toNat (0, 0, 0, 0, false, false, false, 0, 0, 0, [])).1 < 0) then some false else bif decide ((List.getD s.2.2 k.toNat (0, 0, 0, 0, false, false, false, 0, 0, 0, [])).1 ≥ 32) then some false else bif decide ((List.getD s.2.2 k.toNat (0, 0, 0, 0, false, false, false, 0, 0, 0, [])).2.2.1 > 0) then bif (List.getD s.2.2 k.toNat (0, 0, 0, 0, false, false, false, 0, 0, 0, [])).2.2.2.2.2.2.2.1 == t.1 then bif Nat.beq 32 of.length && (decide (0 ≤ (List.getD s.2.2 k.toNat (0, 0, 0, 0, false, false, false, 0, 0, 0, [])).1) && decide ((List.getD s.2.2 k.toNat (0, 0, 0, 0, false, false, false, 0, 0, 0, [])).1 < (↑of.length : Int))) then bif (of.getD (Int.toNat (List.getD s.2.2 k.toNat (0, 0, 0, 0, false, false, false, 0, 0, 0, [])).1) (0, 0, false)).2.2 then bif (of.getD (Int.toNat (List.getD s.2.2 k.toNat (0, 0, 0, 0, false, false, false, 0, 0, 0, [])).1) (0, 0, false)).1 != (List.getD s.2.2 k.toNat (0, 0, 0, 0, false, false, false, 0, 0, 0, [])).2.2.2.1 then some false else bif Nat.beq 32 of.length && (decide (0 ≤ (List.getD s.2.2 k.toNat (0, 0, 0, 0, false, false, false, 0, 0, 0, [])).1) && decide ((List.getD s.2.2 k.toNat (0, 0, 0, 0, false, false, false, 0, 0, 0, [])).1 < (↑of.length : Int))) then L_sgu_5 f (steps, s, of.set (Int.toNat (List.getD s.2.2 k.toNat (0, 0, 0, 0, false, false, false, 0, 0, 0, [])).1) (0, t.1, !(List.getD s.2.2 k.toNat (0, 0, 0, 0, false, false, false, 0, 0, 0, [])).2.2.2.2.1), i, n, t, IntKind.i64.wrap (k + 1)) else none else bif Nat.beq 32 of.length && (decide (0 ≤ (List.getD s.2.2 k.toNat (0, 0, 0, 0, false, false, false, 0, 0, 0, [])).1) && decide ((List.getD s.2.2 k.toNat (0, 0, 0, 0, false, false, false, 0, 0, 0, [])).1 < (↑of.length : Int))) then L_sgu_5 f (steps, s, of.set (Int.toNat (List.getD s.2.2 k.toNat (0, 0, 0, 0, false, false, false, 0, 0, 0, [])).1) (0, t.1, !(List.getD s.2.2 k.toNat (0, 0, 0, 0, false, false, false, 0, 0, 0, [])).2.2.2.2.1), i, n, t, IntKind.i64.wrap (k + 1)) else none else none else L_sgu_5 f (steps, s, of, i, n, t, IntKind.i64.wrap (k + 1)) else L_sgu_5 f (steps, s, of, i, n, t, IntKind.i64.wrap (k + 1)) else none else L_sgu_3 f (steps, t, of, i, IntKind.i64.wrap (n - 1)) := by kernel_rfl
abbrev RunT := Int × Int × Bool
def ofG (of : List RunT) (j : Int) : RunT := of.getD j.toNat (0, 0, false)
theorem ofG_set {of : List RunT} {k j : Int} {v : RunT} (hl : of.length = 32) (hk : 0 ≤ k ∧ k < 32) (hj : 0 ≤ j) : ofG (of.set k.toNat v) j = if j = k then v else ofG of j := by
  unfold ofG
  by_cases h : j = k
  · subst h
    rw [if_pos rfl, List.getD_eq_getElem?_getD, List.getElem?_set_self (by omega)]; rfl
  · rw [if_neg h, List.getD_eq_getElem?_getD, List.getElem?_set_ne (by omega), ← List.getD_eq_getElem?_getD]
def InvD (of : List RunT) (d : SDs) : Prop := dW d = 0 → (ofG of d.1).2.2 = true → dBlk d = false ∧ dRem d = false ∧ dLft d = dBud d - (ofG of d.1).1
def Inv (l : List SDs) (of : List RunT) : Prop := ∀ d ∈ l, InvD of d
theorem InvD.off {of : List RunT} {d : SDs} (h : (ofG of d.1).2.2 = false) : InvD of d := fun _ h2 => by rw [h] at h2; cases h2
theorem InvD.same {of of' : List RunT} {d : SDs} (h : InvD of d) (he : ofG of' d.1 = ofG of d.1) : InvD of' d := fun h1 h2 => by
  rw [he] at h2 ⊢; exact h h1 h2
theorem inv_rep {A B r : List SDs} {d : SDs} {of of' : List RunT} (hs : (A ++ d :: B).Pairwise (fun a b => a.1 < b.1)) (hi : ∀ e ∈ A ++ d :: B, 0 ≤ e.1) (h : Inv (A ++ d :: B) of) (ho : ∀ j, 0 ≤ j → j ≠ d.1 → ofG of' j = ofG of j) (hr : ∀ e ∈ r, InvD of' e) : Inv (A ++ r ++ B) of' := by
  rw [List.pairwise_append] at hs
  obtain ⟨h1, h2, h3⟩ := hs
  rw [List.pairwise_cons] at h2
  intro e he
  rcases List.mem_append.1 he with he | he
  · rcases List.mem_append.1 he with he | he
    · have := h3 e he d (List.mem_cons_self ..)
      exact (h e (List.mem_append_left _ he)).same (ho _ (hi e (List.mem_append_left _ he)) (by omega))
    · exact hr e he
  · have := h2.1 e he
    exact (h e (by simp [he])).same (ho _ (hi e (by simp [he])) (by omega))
theorem chg_form {s : SSd} {id : Int} {f : SDs → List SDs × Int} (h0 : (chgS s id f).2 = 0) : ∃ A d B, s.2.2 = A ++ d :: B ∧ d.1 = id ∧ dRem d = false ∧ vdiS (d, s.1, s.2.1) = true ∧ (f d).2 = 0 ∧ (chgS s id f).1 = (s.1, s.2.1, A ++ (f d).1 ++ B) := by
  unfold chgS at h0 ⊢
  cases hv : valS s
  case false => rw [hv] at h0; exact absurd h0 (by show ¬ (74 : Int) = 0; omega)
  cases ho : decide (opnI id s.2.2 0 < 0)
  case true => rw [hv, ho] at h0; exact absurd h0 (by show ¬ (17 : Int) = 0; omega)
  obtain ⟨A, d, B, e1, e2, e3, e4, vd, hg, hs, ht, hd, k2, k3⟩ := chg_cases hv ho
  rw [hv, ho] at h0
  rw [e2, Int.toNat_natCast, hg zDs] at h0 ⊢
  rw [ht, hd]
  cases hz : decide ((f d).2 = 0)
  case false =>
    rw [hz] at h0
    exact absurd h0 (of_decide_eq_false hz)
  exact ⟨A, d, B, e1, e3, e4, vd, of_decide_eq_true hz, rfl⟩
theorem add_form (a : SSd × Int × Int × Int × Int) (h0 : (addS a).2 = 0) : a.1.2.2.any (fun d => decide (d.1 = a.2.1)) = false ∧ (addS a).1 = (a.1.1, a.1.2.1, insL (newDs a.1 a.2.1 a.2.2.1 a.2.2.2.1 a.2.2.2.2) a.1.2.2) := by
  unfold addS at h0 ⊢
  cases hv : valS a.1
  case false => rw [hv] at h0; exact absurd h0 (by show ¬ (74 : Int) = 0; omega)
  rw [hv] at h0
  cases h1 : vdiS (newDs a.1 a.2.1 a.2.2.1 a.2.2.2.1 a.2.2.2.2, a.1.1, a.1.2.1)
  case false => rw [h1] at h0; exact absurd h0 (by show ¬ (1 : Int) = 0; omega)
  cases h2 : a.1.2.2.any (fun d => decide (d.1 = a.2.1))
  case true => rw [h1, h2] at h0; exact absurd h0 (by show ¬ (56 : Int) = 0; omega)
  cases h3 : decide (utS (insL (newDs a.1 a.2.1 a.2.2.1 a.2.2.2.1 a.2.2.2.2) a.1.2.2) > 1024)
  case true => rw [h1, h2, h3] at h0; exact absurd h0 (by show ¬ (15 : Int) = 0; omega)
  exact ⟨rfl, rfl⟩
structure GI (s : SSd) (of : List RunT) (t : Nat) : Prop where
  sc : Sc s t
  edf : Edf s.1 s.2.2
  len : of.length = 32
  rng : ∀ j : Int, 0 ≤ (ofG of j).1 ∧ (ofG of j).1 ≤ (t : Int)
  inv : Inv s.2.2 of
theorem GI.mono {s : SSd} {of : List RunT} {t u : Nat} (h : GI s of t) (hu : t ≤ u) : GI s of u := ⟨h.sc.mono hu, h.edf, h.len, fun j => by have := h.rng j; omega, h.inv⟩
theorem ofG_rng {of : List RunT} {k : Int} {v : RunT} {t : Nat} (hl : of.length = 32) (hk : 0 ≤ k ∧ k < 32) (h : ∀ j : Int, 0 ≤ (ofG of j).1 ∧ (ofG of j).1 ≤ (t : Int)) (hv : 0 ≤ v.1 ∧ v.1 ≤ (t : Int)) (j : Int) : 0 ≤ (ofG (of.set k.toNat v) j).1 ∧ (ofG (of.set k.toNat v) j).1 ≤ (t : Int) := by
  have e : ofG (of.set k.toNat v) j = ofG (of.set k.toNat v) ((j.toNat : Nat) : Int) := by unfold ofG; rw [Int.toNat_natCast]
  rw [e, ofG_set hl hk (by omega)]
  split
  · exact hv
  · exact h _
def ofU (s' : SSd) (x : SSp) (of : List RunT) : List RunT := bif decide (plc (x.1, 10) = 1) then of.set (plc (x.2.1, 8)).toNat (0, s'.1, true) else
  bif decide (plc (x.1, 10) = 2) || decide (plc (x.1, 10) = 3) then of.set (plc (x.2.1, 8)).toNat (upT (upS false) (of.getD (plc (x.2.1, 8)).toNat (0, 0, false))) else of
theorem GI.off {s s' : SSd} {of : List RunT} {t : Nat} (h : GI s of t) {id : Int} (hid : 0 ≤ id ∧ id < 8) {f : SDs → List SDs × Int} (hf : ∀ d, ∀ e ∈ (f d).1, e.1 = d.1) (h0 : (chgS s id f).2 = 0) (hsc : Sc (chgS s id f).1 t) (hed : Edf (chgS s id f).1.1 (chgS s id f).1.2.2) :
    GI (chgS s id f).1 (of.set id.toNat (upT (upS false) (of.getD id.toNat (0, 0, false)))) t := by
  have V := (valS_iff s).1 h.sc.val
  obtain ⟨A, d, B, e1, e2, e3, e4, e5, e6⟩ := chg_form h0
  refine ⟨hsc, hed, by simpa using h.len, ofG_rng h.len (by omega) h.rng (h.rng id), ?_⟩
  rw [e6]
  have hi : ∀ e ∈ A ++ d :: B, 0 ≤ e.1 := fun e he => (vdi_id (V.all e (by rw [e1]; exact he))).1
  refine inv_rep (d := d) (by rw [← e1]; exact V.srt) hi (by rw [← e1]; exact h.inv) (fun j hj hne => ?_) (fun e he => .off ?_)
  · rw [ofG_set h.len (by omega) hj, if_neg (by rw [← e2]; exact hne)]
  · rw [hf d e he, e2, ofG_set h.len (by omega) (by omega), if_pos rfl]; rfl
theorem GI.keep {s s' : SSd} {of : List RunT} {t : Nat} (h : GI s of t) {id : Int} {f : SDs → List SDs × Int} (hf : ∀ d, (f d).2 = 0 → ∃ d', (f d).1 = [d'] ∧ d'.1 = d.1 ∧ dW d' = dW d ∧ dBud d' = dBud d ∧ (dBlk d = false → dBlk d' = false ∧ dRem d' = dRem d ∧ dLft d' = dLft d)) (h0 : (chgS s id f).2 = 0) (hsc : Sc (chgS s id f).1 t) (hed : Edf (chgS s id f).1.1 (chgS s id f).1.2.2) :
    GI (chgS s id f).1 of t := by
  have V := (valS_iff s).1 h.sc.val
  obtain ⟨A, d, B, e1, e2, e3, e4, e5, e6⟩ := chg_form h0
  refine ⟨hsc, hed, h.len, h.rng, ?_⟩
  obtain ⟨d', g1, g2, g3, g4, g5⟩ := hf d e5
  rw [e6, g1]
  have hi : ∀ e ∈ A ++ d :: B, 0 ≤ e.1 := fun e he => (vdi_id (V.all e (by rw [e1]; exact he))).1
  refine inv_rep (d := d) (by rw [← e1]; exact V.srt) hi (by rw [← e1]; exact h.inv) (fun j hj hne => rfl) (fun e he => ?_)
  rw [List.mem_singleton.1 he]
  intro hw ho
  rw [g2] at ho ⊢
  rw [g3] at hw
  obtain ⟨q1, q2, q3⟩ := h.inv d (by rw [e1]; simp) hw ho
  obtain ⟨p1, p2, p3⟩ := g5 q1
  exact ⟨p1, p2.trans q2, by rw [p3, g4]; exact q3⟩
theorem GI.doo {s : SSd} {of : List RunT} {t : Nat} (h : GI s of t) {x : SSp} (hn : nitS x = 0) (h0 : (doS (s, x)).2 = 0) : GI (doS (s, x)).1 (ofU (doS (s, x)).1 x of) t := by
  have hsc := h.sc.doo hn h0
  have hid := plc_rng x.2.1 (n := 8) (by omega)
  rcases kind7 hn with k | k | k | k | k | k | k
  · have e : ofU (doS (s, x)).1 x of = of := by unfold ofU; rw [k]; rfl
    rw [e]
    rw [doS_0 k] at h0 hsc ⊢
    obtain ⟨a1, a2⟩ := add_form _ h0
    refine ⟨hsc, edf_add _ h.edf h0, h.len, h.rng, fun e he => ?_⟩
    rw [a2] at he
    rcases ins_mem.1 he with rfl | he
    · intro hw
      obtain ⟨r1, r2⟩ := plc_rng x.2.2.1 (n := 10) (by omega)
      have hw : 1 + plc (x.2.2.1, 10) = 0 := hw
      omega
    · exact h.inv e he
  · have e : ofU (doS (s, x)).1 x of = of.set (plc (x.2.1, 8)).toNat (0, (doS (s, x)).1.1, true) := by unfold ofU; rw [k]; rfl
    rw [e]
    rw [doS_1 k] at h0 hsc ⊢
    obtain ⟨a1, a2⟩ := add_form _ h0
    refine ⟨hsc, edf_add _ h.edf h0, by simpa using h.len, ofG_rng h.len (by omega) h.rng ⟨Int.le_refl _, by show (0 : Int) ≤ _; omega⟩, fun e he => ?_⟩
    rw [a2] at he
    rcases ins_mem.1 he with rfl | he
    · intro hw ho
      have : (newDs s (plc (x.2.1, 8)) 0 (shB x.2.2.1) (1 + plc (x.2.2.2, shB x.2.2.1))).1 = plc (x.2.1, 8) := rfl
      refine ⟨rfl, rfl, ?_⟩
      show 1 + plc (x.2.2.2, shB x.2.2.1) = 1 + plc (x.2.2.2, shB x.2.2.1) - (ofG _ (plc (x.2.1, 8))).1
      rw [ofG_set h.len (by omega) (by omega), if_pos rfl]
      show _ = _ - (0 : Int); omega
    · refine (h.inv e he).same ?_
      have hne : e.1 ≠ plc (x.2.1, 8) := fun hq => by
        rw [List.any_eq_false] at a1
        have := a1 e he
        simp at this
        exact this hq
      have h0 := (vdi_id (((valS_iff s).1 h.sc.val).all e he)).1
      rw [ofG_set h.len (by omega) h0, if_neg hne]
  · have e : ofU (doS (s, x)).1 x of = of.set (plc (x.2.1, 8)).toNat (upT (upS false) (of.getD (plc (x.2.1, 8)).toNat (0, 0, false))) := by unfold ofU; rw [k]; rfl
    rw [e]
    rw [doS_2 k] at h0 hsc ⊢
    refine h.off (s' := s) hid (fun d e he => ?_) h0 hsc (edf_chg h.edf (fun d _ _ _ _ D => rem_e) h0)
    unfold remF at he
    cases hw : decide (dW d = 0) <;> rw [hw] at he
    · cases he
    · rw [List.mem_singleton.1 he]
  · have e : ofU (doS (s, x)).1 x of = of.set (plc (x.2.1, 8)).toNat (upT (upS false) (of.getD (plc (x.2.1, 8)).toNat (0, 0, false))) := by unfold ofU; rw [k]; rfl
    rw [e]
    rw [doS_3 k] at h0 hsc ⊢
    refine h.off (s' := s) hid (fun d e he => ?_) h0 hsc (edf_chg h.edf (fun d _ _ _ _ D => blk_e) h0)
    rw [List.mem_singleton.1 he]
  · have e : ofU (doS (s, x)).1 x of = of := by unfold ofU; rw [k]; rfl
    rw [e]
    rw [doS_4 k] at h0 hsc ⊢
    refine h.keep (s' := s) (fun d _ => ⟨wakD s d, rfl, ?_⟩) h0 hsc (edf_chg h.edf (fun d _ hr hv _ D => wak_e hv hr) h0)
    unfold wakD
    cases hb : dBlk d
    · rw [Bool.not_false, cond_true]; exact ⟨rfl, rfl, rfl, fun _ => ⟨hb, rfl, rfl⟩⟩
    · rw [Bool.not_true, cond_false]
      cases decide (dW d = 0)
      · exact ⟨rfl, rfl, rfl, fun h => by cases h⟩
      · exact ⟨rfl, rfl, rfl, fun h => by cases h⟩
  · have e : ofU (doS (s, x)).1 x of = of := by unfold ofU; rw [k]; rfl
    rw [e]
    rw [doS_5 k] at h0 hsc ⊢
    refine h.keep (s' := s) (fun d hz => ?_) h0 hsc (edf_chg h.edf (fun d _ _ _ hz D => pst_e hz) h0)
    unfold pstF at hz ⊢
    cases h1 : decide (1 + plc (x.2.2.1, 100) ≤ 0)
    · rw [h1] at hz
      cases h2 : decide ((ups d).length ≥ 16)
      · exact ⟨_, rfl, rfl, rfl, rfl, fun h => ⟨h, rfl, rfl⟩⟩
      · rw [h2] at hz; exact absurd hz (by show ¬ (65 : Int) = 0; omega)
    · rw [h1] at hz; exact absurd hz (by show ¬ (1 : Int) = 0; omega)
  · have e : ofU (doS (s, x)).1 x of = of := by unfold ofU; rw [k]; rfl
    rw [e]
    rw [doS_6 k] at h0 hsc ⊢
    exact h.keep (s' := s) (fun d _ => ⟨_, rfl, rfl, rfl, rfl, fun h => ⟨h, rfl, rfl⟩⟩) h0 hsc (edf_chg h.edf (fun d _ _ _ _ D => ena_e) h0)
/-! ### A unit of time -/
def dueB (T : Int) (d : SDs) : Bool := decide (dPer d > 0) && decide (dDl d = T)
def updD (T : Int) (of : List RunT) (d : SDs) : List RunT := bif dueB T d then of.set d.1.toNat (0, T, !dBlk d) else of
theorem fold_get (T : Int) : ∀ (l : List SDs) (of : List RunT), l.Pairwise (fun a b => a.1 < b.1) → (∀ d ∈ l, 0 ≤ d.1 ∧ d.1 < 32) → of.length = 32 →
    (l.foldl (updD T) of).length = 32 ∧ (∀ d ∈ l, ofG (l.foldl (updD T) of) d.1 = bif dueB T d then (0, T, !dBlk d) else ofG of d.1) ∧ (∀ j, 0 ≤ j → (∀ d ∈ l, d.1 ≠ j) → ofG (l.foldl (updD T) of) j = ofG of j)
  | [], of, _, _, hl => ⟨hl, (fun d hd => by cases hd), fun j _ _ => rfl⟩
  | d :: r, of, hs, hi, hl => by
    rw [List.pairwise_cons] at hs
    have hd := hi d (List.mem_cons_self ..)
    have hl2 : (updD T of d).length = 32 := by unfold updD; cases dueB T d <;> simp [hl]
    obtain ⟨i1, i2, i3⟩ := fold_get T r (updD T of d) hs.2 (fun e he => hi e (List.mem_cons_of_mem _ he)) hl2
    have hu : ∀ j, 0 ≤ j → ofG (updD T of d) j = if j = d.1 then (bif dueB T d then (0, T, !dBlk d) else ofG of d.1) else ofG of j := fun j hj => by
      unfold updD
      cases dueB T d
      · rw [cond_false, cond_false]; split
        · rename_i e; rw [e]
        · rfl
      · rw [cond_true, cond_true, ofG_set hl hd hj]
    refine ⟨i1, fun e he => ?_, fun j hj hne => ?_⟩
    · rw [List.foldl_cons]
      rcases List.mem_cons.1 he with rfl | he
      · rw [i3 e.1 hd.1 (fun y hy => by have := hs.1 y hy; omega), hu _ hd.1, if_pos rfl]
      · have := hs.1 e he
        rw [i2 e he, hu _ (by omega), if_neg (by omega)]
    · rw [List.foldl_cons, i3 j hj (fun y hy => hne y (List.mem_cons_of_mem _ hy)), hu _ hj, if_neg (fun e => hne d (List.mem_cons_self ..) e.symm)]
def ranU (c : Int) (of : List RunT) : List RunT := bif decide (c ≥ 0) then of.set c.toNat (upH ((of.getD c.toNat (0, 0, false)).1 + 1) (of.getD c.toNat (0, 0, false))) else of
theorem ent_fld (d : SDs) : (entD d).1.1 = d.1 ∧ dW (entD d).1 = dW d ∧ dPer (entD d).1 = dPer d ∧ dBud (entD d).1 = dBud d ∧ dBlk (entD d).1 = dBlk d ∧ dRem (entD d).1 = dRem d ∧ dDl (entD d).1 = dDl d ∧ dLft (entD d).1 = dLft d := by
  obtain ⟨d1, d2, d3, d4, d5, d6, d7, d8, d9, d10, d11⟩ := d
  cases d6 with
  | true => exact ⟨rfl, rfl, rfl, rfl, rfl, rfl, rfl, rfl⟩
  | false => cases d11 <;> exact ⟨rfl, rfl, rfl, rfl, rfl, rfl, rfl, rfl⟩
theorem chg_fld (d : SDs) : (chgD d).1 = d.1 ∧ dW (chgD d) = dW d ∧ dPer (chgD d) = dPer d ∧ dBud (chgD d) = dBud d ∧ dBlk (chgD d) = dBlk d ∧ dRem (chgD d) = dRem d ∧ dDl (chgD d) = dDl d ∧ (dW d = 0 → dLft (chgD d) = dLft d - 1) := by
  unfold chgD
  cases h : decide (dW d = 0)
  · exact ⟨rfl, rfl, rfl, rfl, rfl, rfl, rfl, fun e => absurd e (of_decide_eq_false h)⟩
  · exact ⟨rfl, rfl, rfl, rfl, rfl, rfl, rfl, fun _ => rfl⟩
def SamD (d d' : SDs) : Prop := d'.1 = d.1 ∧ dW d' = dW d ∧ dPer d' = dPer d ∧ dBud d' = dBud d ∧ dBlk d' = dBlk d ∧ dRem d' = dRem d ∧ dDl d' = dDl d
theorem run_sam {s : SSd} (V : Vs s.1 s.2.1 s.2.2) {of : List RunT} (hl : of.length = 32) (hI : Inv s.2.2 of) : ∃ c, (runS s).2.2.1 = c ∧ c < 32 ∧ (c = -1 ∨ 0 ≤ c) ∧ Inv (runS s).1 (ranU c of) ∧ (∀ d' ∈ (runS s).1, ∃ d ∈ s.2.2, SamD d d') ∧ ∀ d ∈ s.2.2, ∃ d' ∈ (runS s).1, SamD d d' := by
  have key : ∀ A d B, s.2.2 = A ++ d :: B → chS s.2.2 = ((A.length : Nat) : Int) → (runS s).2.2.1 = d.1 ∧ (runS s).1 = A ++ [(entD (chgD d)).1] ++ B := fun A d B e1 e2 => by
    have g1 : s.2.2.getD A.length zDs = d := by rw [e1]; simp
    unfold runS
    rw [e2, Int.toNat_natCast, g1, decide_eq_false (show ¬ ((A.length : Nat) : Int) < 0 by omega), cond_false]
    refine ⟨rfl, ?_⟩
    show s.2.2.set A.length (entD (chgD d)).1 = _
    rw [e1, set_mid]
  have refl : ∀ d, SamD d d := fun d => ⟨rfl, rfl, rfl, rfl, rfl, rfl, rfl⟩
  have go : (∃ A d B, s.2.2 = A ++ d :: B ∧ chS s.2.2 = ((A.length : Nat) : Int)) → ∃ c, (runS s).2.2.1 = c ∧ c < 32 ∧ (c = -1 ∨ 0 ≤ c) ∧ Inv (runS s).1 (ranU c of) ∧ (∀ d' ∈ (runS s).1, ∃ d ∈ s.2.2, SamD d d') ∧ ∀ d ∈ s.2.2, ∃ d' ∈ (runS s).1, SamD d d' := by
    rintro ⟨A, d, B, e1, e2⟩
    obtain ⟨k1, k2⟩ := key A d B e1 e2
    have hd := vdi_id (V.all d (by rw [e1]; simp))
    obtain ⟨p1, p2, p3, p4, p5, p6, p7, p8⟩ := ent_fld (chgD d)
    obtain ⟨q1, q2, q3, q4, q5, q6, q7, q8⟩ := chg_fld d
    have hS : SamD d (entD (chgD d)).1 := ⟨p1.trans q1, p2.trans q2, p3.trans q3, p4.trans q4, p5.trans q5, p6.trans q6, p7.trans q7⟩
    have hran : ∀ j, 0 ≤ j → ofG (ranU d.1 of) j = if j = d.1 then upH ((ofG of d.1).1 + 1) (ofG of d.1) else ofG of j := fun j hj => by
      unfold ranU
      rw [decide_eq_true (show d.1 ≥ 0 by omega), cond_true, ofG_set hl hd hj]; rfl
    refine ⟨d.1, k1, hd.2, .inr hd.1, ?_, ?_, ?_⟩
    · rw [k2]
      refine inv_rep (d := d) (by rw [← e1]; exact V.srt) (fun e he => (vdi_id (V.all e (by rw [e1]; exact he))).1) (by rw [← e1]; exact hI) (fun j hj hne => by rw [hran j hj, if_neg hne]) (fun e he => ?_)
      rw [List.mem_singleton.1 he]
      intro hw ho
      have hw2 : dW d = 0 := by rw [← hS.2.1]; exact hw
      rw [hS.1, hran _ hd.1, if_pos rfl] at ho ⊢
      obtain ⟨g1, g2, g3⟩ := hI d (by rw [e1]; simp) hw2 ho
      refine ⟨hS.2.2.2.2.1.trans g1, hS.2.2.2.2.2.1.trans g2, ?_⟩
      rw [p8, q8 hw2, hS.2.2.2.1, g3]
      show dBud d - (ofG of d.1).1 - 1 = dBud d - ((ofG of d.1).1 + 1)
      omega
    · rw [k2, e1]
      intro d' hd'
      rcases List.mem_append.1 hd' with hd' | hd'
      · rcases List.mem_append.1 hd' with hd' | hd'
        · exact ⟨d', by simp [hd'], refl _⟩
        · rw [List.mem_singleton.1 hd']; exact ⟨d, by simp, hS⟩
      · exact ⟨d', by simp [hd'], refl _⟩
    · rw [k2, e1]
      intro d' hd'
      rcases List.mem_append.1 hd' with hd' | hd'
      · exact ⟨d', by simp [hd'], refl _⟩
      · rcases List.mem_cons.1 hd' with rfl | hd'
        · exact ⟨_, by simp, hS⟩
        · exact ⟨d', by simp [hd'], refl _⟩
  rcases ch_best s.2.2 with ⟨e0, e1, e2⟩ | ⟨A, d, B, e1, e2, _⟩ | ⟨A, d, B, e1, e2, _⟩
  · have e : runS s = (s.2.2, s.2.1, -1, 0, 0) := by unfold runS; rw [decide_eq_true e0]; rfl
    rw [e]
    exact ⟨-1, rfl, by omega, .inl rfl, hI, fun d hd => ⟨d, hd, refl _⟩, fun d hd => ⟨d, hd, refl _⟩⟩
  · exact go ⟨A, d, B, e1, e2⟩
  · exact go ⟨A, d, B, e1, e2⟩
theorem GI.tick {s : SSd} {of : List RunT} {t : Nat} (h : GI s of t) (ht : t < 4800) : ∃ c, (tckS s).2.1 = c ∧ c < 32 ∧ (c = -1 ∨ 0 ≤ c) ∧ (ranU c of).length = 32 ∧
    (∀ d ∈ s.2.2, dueB (s.1 + 1) d = true → (ofG (ranU c of) d.1).2.2 = true → (ofG (ranU c of) d.1).1 = dBud d) ∧ GI (tckS s).1 (s.2.2.foldl (updD (s.1 + 1)) (ranU c of)) (t + 1) := by
  obtain ⟨k1, k2, k3, k4, k5⟩ := h.sc.tick ht
  have V := (valS_iff s).1 h.sc.val
  have hvir := h.sc.vir
  obtain ⟨c, c1, c2, c3, c4, c5, c6⟩ := run_sam V h.len h.inv
  obtain ⟨g1, g2⟩ := edf_tick h.sc.val (by omega) h.edf
  have hid : ∀ d ∈ s.2.2, 0 ≤ d.1 ∧ d.1 < 32 := fun d hd => vdi_id (V.all d hd)
  have hlen : (ranU c of).length = 32 := by unfold ranU; cases decide (c ≥ 0) <;> simp [h.len]
  obtain ⟨f1, f2, f3⟩ := fold_get (s.1 + 1) s.2.2 (ranU c of) V.srt hid hlen
  have hrng : ∀ j : Int, 0 ≤ (ofG (ranU c of) j).1 ∧ (ofG (ranU c of) j).1 ≤ ((t + 1 : Nat) : Int) := fun j => by
    unfold ranU
    cases hc : decide (c ≥ 0)
    · have := h.rng j
      rw [cond_false]; omega
    · rw [cond_true]
      have h2 := h.rng c
      exact ofG_rng h.len ⟨of_decide_eq_true hc, c2⟩ (fun j => by have := h.rng j; omega) (show 0 ≤ (ofG of c).1 + 1 ∧ (ofG of c).1 + 1 ≤ ((t + 1 : Nat) : Int) by omega) j
  have perW : ∀ d ∈ s.2.2, (dPer d > 0 ↔ dW d = 0) := fun d hd => by
    have hv := V.all d hd
    by_cases hw : dW d = 0
    · simp only [vdiS, corB, decide_eq_true hw, cond_true, rtB, Bool.and_eq_true, decide_eq_true_eq] at hv
      have := perB_rng hv.2.2.2.2.1
      omega
    · simp only [vdiS, corB, decide_eq_false hw, cond_false, beB, Bool.and_eq_true, decide_eq_true_eq] at hv
      have := hv.2.2.2.2.2.2.2.2.1
      omega
  refine ⟨c, by rw [k5]; exact c1, c2, c3, hlen, fun d hd hdue ho => ?_, k2, ?_, f1, fun j => ?_, ?_⟩
  · simp only [dueB, Bool.and_eq_true, decide_eq_true_eq] at hdue
    obtain ⟨d', hd', s1, s2, s3, s4, s5, s6, s7⟩ := c6 d hd
    have hw : dW d' = 0 := s2.trans ((perW d hd).1 hdue.1)
    obtain ⟨i1, i2, i3⟩ := c4 d' hd' hw (by rw [s1]; exact ho)
    have := g2 d' hd' (decide_eq_true hw) i1 i2 (s7.trans hdue.2)
    rw [s1, s4] at i3
    omega
  · rw [k3, k5]; exact g1
  · have ej : ofG (s.2.2.foldl (updD (s.1 + 1)) (ranU c of)) j = ofG (s.2.2.foldl (updD (s.1 + 1)) (ranU c of)) ((j.toNat : Nat) : Int) := by unfold ofG; rw [Int.toNat_natCast]
    rw [ej]
    by_cases hex : ∃ d ∈ s.2.2, d.1 = ((j.toNat : Nat) : Int)
    · obtain ⟨d, hd, hq⟩ := hex
      rw [← hq, f2 d hd]
      cases dueB (s.1 + 1) d
      · exact hrng _
      · exact ⟨Int.le_refl _, by show (0 : Int) ≤ _; omega⟩
    · rw [f3 _ (by omega) (fun d hd hq => hex ⟨d, hd, hq⟩)]
      exact hrng _
  · rw [k5]
    intro e he
    have he : e ∈ tckL (s.1 + 1) (runS s).1 := he
    rw [tckL_eq] at he
    obtain ⟨d', hd', rfl⟩ := List.mem_map.1 he
    obtain ⟨hd', hg⟩ := List.mem_filter.1 hd'
    obtain ⟨d, hd, s1, s2, s3, s4, s5, s6, s7⟩ := c5 d' hd'
    have hf := f2 d hd
    have e1 : (renS (s.1 + 1) d').1 = d.1 := by unfold renS; cases decide (dW d' = 0) && decide (dDl d' = s.1 + 1) <;> exact s1
    intro hw ho
    rw [e1, hf] at ho ⊢
    cases hren : decide (dW d' = 0) && decide (dDl d' = s.1 + 1)
    · have er : renS (s.1 + 1) d' = d' := by unfold renS; rw [hren]; rfl
      rw [er] at hw ⊢
      have hdue : dueB (s.1 + 1) d = false := by
        unfold dueB
        rw [hw] at hren
        rw [← s7]
        cases hq : decide (dDl d' = s.1 + 1)
        · rw [Bool.and_false]
        · rw [hq] at hren; exact absurd hren (by decide)
      rw [hdue, cond_false] at ho ⊢
      have := c4 d' hd' hw
      rw [s1] at this
      exact this ho
    · have er : renS (s.1 + 1) d' = (dId d', dW d', dPer d', dBud d', dBlk d', dDis d', dRem d', dDl d' + dPer d', dBud d', dPas d', ups d') := by unfold renS; rw [hren]; rfl
      simp only [Bool.and_eq_true, decide_eq_true_eq] at hren
      have hdue : dueB (s.1 + 1) d = true := by
        unfold dueB
        rw [decide_eq_true ((perW d hd).2 (s2 ▸ hren.1)), decide_eq_true (s7 ▸ hren.2)]; rfl
      rw [hdue, cond_true] at ho ⊢
      have hb : dBlk d = false := by simpa using ho
      have hrem : dRem d' = false := by
        unfold goneS at hg
        rw [decide_eq_true hren.1, decide_eq_true hren.2] at hg
        simpa using hg
      rw [er]
      exact ⟨s5.trans hb, hrem, by show dBud d' = dBud d' - 0; omega⟩
/-! ### The loops -/
theorem sgu_5 (steps : List SSp) (s : SSd) (i n : Int) (t : SSd) (hT : s.2.2.length ≤ 32) : ∀ (r : List SDs) (k : Nat) (of : List RunT), s.2.2.drop k = r → of.length = 32 → r.Pairwise (fun a b => a.1 < b.1) → (∀ d ∈ r, 0 ≤ d.1 ∧ d.1 < 32) →
    (∀ d ∈ r, dueB t.1 d = true → (ofG of d.1).2.2 = true → (ofG of d.1).1 = dBud d) → (∃ f, L_sgu_3 f (steps, t, r.foldl (updD t.1) of, i, IntKind.i64.wrap (n - 1)) = some true) → ∃ f, L_sgu_5 f (steps, s, of, i, n, t, ((k : Nat) : Int)) = some true
  | [], k, of, h, hl, hs, hi, hq, hk => by
    obtain ⟨f, hf⟩ := hk
    refine ⟨f + 1, ?_⟩
    have hlen := List.drop_eq_nil_iff.1 h
    rw [L_sgu_5_eq, decide_eq_false (show ¬ ((k : Nat) : Int) < ((s.2.2.length : Nat) : Int) by omega), cond_false]
    exact hf
  | d :: r, k, of, h, hl, hs, hi, hq, hk => by
    obtain ⟨h1, h2, h3⟩ := drop_get2 (0, 0, 0, 0, false, false, false, 0, 0, 0, []) h
    have hlt : k < s.2.2.length := by
      rcases Nat.lt_or_ge k s.2.2.length with h' | h'
      · exact h'
      · rw [List.drop_eq_nil_of_le h'] at h; cases h
    rw [List.pairwise_cons] at hs
    have hd := hi d (List.mem_cons_self ..)
    have hl2 : (updD t.1 of d).length = 32 := by unfold updD; cases dueB t.1 d <;> simp [hl]
    have hu : ∀ e ∈ r, ofG (updD t.1 of d) e.1 = ofG of e.1 := fun e he => by
      have := hs.1 e he
      unfold updD
      cases dueB t.1 d
      · rfl
      · rw [cond_true, ofG_set hl hd (by omega), if_neg (by omega)]
    obtain ⟨f, hf⟩ := sgu_5 steps s i n t hT r (k + 1) (updD t.1 of d) h3 hl2 hs.2 (fun e he => hi e (List.mem_cons_of_mem _ he)) (fun e he hdue ho => by rw [hu e he] at ho ⊢; exact hq e (List.mem_cons_of_mem _ he) hdue ho) hk
    refine ⟨f + 1, ?_⟩
    have hg : s.2.2.getD k (0, 0, 0, 0, false, false, false, 0, 0, 0, []) = d := by
      rw [List.getD_eq_getElem?_getD, List.getElem?_eq_getElem hlt]
      rw [List.drop_eq_getElem_cons hlt] at h
      exact (List.cons.inj h).1
    have d1 : decide (((k : Nat) : Int) < ((s.2.2.length : Nat) : Int)) = true := decide_eq_true (by omega)
    have d2 : decide ((0 : Int) ≤ ((k : Nat) : Int)) = true := decide_eq_true (by omega)
    have d3 : decide (d.1 < 0) = false := decide_eq_false (by omega)
    have d4 : decide (d.1 ≥ 32) = false := decide_eq_false (by omega)
    have d5 : Nat.beq 32 of.length = true := by rw [hl]; rfl
    have d6 : decide (0 ≤ d.1) = true := decide_eq_true hd.1
    have d7 : decide (d.1 < ((of.length : Nat) : Int)) = true := decide_eq_true (by rw [hl]; omega)
    have e2 : IntKind.i64.wrap (((k : Nat) : Int) + 1) = ((k + 1 : Nat) : Int) := by rw [i64_id (by omega) (by omega)]; omega
    rw [L_sgu_5_eq]
    simp only [hg, d1, d2, d3, d4, d5, d6, d7, e2, Int.toNat_natCast, Bool.and_self, cond_true, cond_false, beqD, bneD]
    have hq0 := hq d (List.mem_cons_self ..)
    unfold updD dueB at hf
    unfold dueB at hq0
    show (bif decide (dPer d > 0) then bif decide (dDl d = t.1) then bif (ofG of d.1).2.2 then bif !decide ((ofG of d.1).1 = dBud d) then some false else L_sgu_5 f (steps, s, of.set d.1.toNat (0, t.1, !dBlk d), i, n, t, ((k + 1 : Nat) : Int)) else L_sgu_5 f (steps, s, of.set d.1.toNat (0, t.1, !dBlk d), i, n, t, ((k + 1 : Nat) : Int)) else L_sgu_5 f (steps, s, of, i, n, t, ((k + 1 : Nat) : Int)) else L_sgu_5 f (steps, s, of, i, n, t, ((k + 1 : Nat) : Int))) = some true
    cases hp : decide (dPer d > 0)
    · rw [hp] at hf; exact hf
    · cases hq2 : decide (dDl d = t.1)
      · rw [hp, hq2] at hf; exact hf
      · rw [hp, hq2] at hf hq0
        cases hw : (ofG of d.1).2.2
        · exact hf
        · rw [decide_eq_true (hq0 rfl hw)]; exact hf
theorem sgu_3 (steps : List SSp) (i : Int) : ∀ (m : Nat) (s : SSd) (of : List RunT) (t : Nat), GI s of t → t + m ≤ 4800 → (∀ s' of', GI s' of' (t + m) → ∃ f, L_sgu_0 f (steps, s', of', IntKind.i64.wrap (i + 1)) = some true) → ∃ f, L_sgu_3 f (steps, s, of, i, ((m : Nat) : Int)) = some true
  | 0, s, of, t, h, ht, hk => by
    obtain ⟨f, hf⟩ := hk s of h
    refine ⟨f + 1, ?_⟩
    rw [L_sgu_3_eq, decide_eq_false (show ¬ ((0 : Nat) : Int) > 0 by omega), cond_false]
    exact hf
  | m + 1, s, of, t, h, ht, hk => by
    obtain ⟨k1, k2, k3, k4, k5⟩ := h.sc.tick (by omega)
    have V := (valS_iff s).1 h.sc.val
    obtain ⟨c, c1, c2, c3, c4, c5, c6⟩ := h.tick (by omega)
    have hnow := h.sc.now
    have hr := V.rng
    simp only [rngB, Bool.and_eq_true, decide_eq_true_eq] at hr
    have e1 : IntKind.i64.wrap (s.1 + 1) = s.1 + 1 := i64_id (by omega) (by omega)
    have e2 : IntKind.i64.wrap (((m + 1 : Nat) : Int) - 1) = ((m : Nat) : Int) := by rw [i64_id (by omega) (by omega)]; omega
    have hnext := sgu_3 steps i m (tckS s).1 _ (t + 1) c6 (by omega) (fun s' of' hs' => hk s' of' (by rw [show t + (m + 1) = t + 1 + m by omega]; exact hs'))
    obtain ⟨f, hf⟩ := sgu_5 steps s i ((m + 1 : Nat) : Int) (tckS s).1 V.len s.2.2 0 (ranU c of) rfl c4 V.srt (fun d hd => vdi_id (V.all d hd)) (by rw [k3]; exact c5) (by rw [k3, e2]; exact hnext)
    refine ⟨f + 1, ?_⟩
    have d1 : decide (((m + 1 : Nat) : Int) > 0) = true := decide_eq_true (by omega)
    rw [L_sgu_3_eq]
    simp only [d1, h.sc.ok, k1, k3, e1, c1, bneD, decide_true, Bool.not_true, cond_true, cond_false]
    have b := h.rng c
    have eb : IntKind.i64.wrap ((of.getD c.toNat (0, 0, false)).1 + 1) = (of.getD c.toNat (0, 0, false)).1 + 1 := i64_id (show -9223372036854775808 ≤ (ofG of c).1 + 1 by omega) (show (ofG of c).1 + 1 ≤ _ by omega)
    unfold ranU at hf
    cases hc : decide (c ≥ 0)
    · rw [hc] at hf; exact hf
    · rw [hc] at hf
      have hc0 := of_decide_eq_true hc
      have d5 : Nat.beq 32 of.length = true := by rw [h.len]; rfl
      have d7 : decide (c < ((of.length : Nat) : Int)) = true := decide_eq_true (by rw [h.len]; omega)
      simp only [d5, d7, eb, decide_eq_true (show 0 ≤ c by omega), decide_eq_true c2, Bool.and_self, cond_true]
      exact hf
theorem sgu_0 (steps : List SSp) : ∀ (r i : Nat) (s : SSd) (of : List RunT), i + r = 120 → GI s of (40 * i) → ∃ f, L_sgu_0 f (steps, s, of, ((i : Nat) : Int)) = some true
  | 0, i, s, of, hi, h => by
    refine ⟨1, ?_⟩
    rw [L_sgu_0_eq, decide_eq_false (show ¬ ((i : Nat) : Int) < 120 by omega)]
    simp
  | r + 1, i, s, of, hi, h => by
    by_cases hl : i < steps.length
    · have e2 : IntKind.i64.wrap (((i : Nat) : Int) + 1) = ((i + 1 : Nat) : Int) := by rw [i64_id (by omega) (by omega)]; omega
      have hd1 : decide (((i : Nat) : Int) < ((steps.length : Nat) : Int)) = true := decide_eq_true (by omega)
      have hd2 : decide (((i : Nat) : Int) < 120) = true := decide_eq_true (by omega)
      have hd3 : decide ((0 : Int) ≤ ((i : Nat) : Int)) = true := decide_eq_true (by omega)
      have hnext : ∀ s' of', GI s' of' (40 * i + 40) → ∃ f, L_sgu_0 f (steps, s', of', ((i + 1 : Nat) : Int)) = some true := fun s' of' h' => sgu_0 steps r (i + 1) s' of' (by omega) (by rw [show 40 * (i + 1) = 40 * i + 40 by omega]; exact h')
      obtain ⟨x, hx⟩ : ∃ x, steps.getD i (0, 0, 0, 0) = x := ⟨_, rfl⟩
      have step : ∀ f, L_sgu_0 (f + 1) (steps, s, of, ((i : Nat) : Int)) = _ := fun f => L_sgu_0_eq f steps s of _
      have hid := plc_rng x.2.1 (n := 8) (by omega)
      have d5 : Nat.beq 32 of.length = true := by rw [h.len]; rfl
      have d6 : decide (0 ≤ plc (x.2.1, 8)) = true := decide_eq_true hid.1
      have d7 : decide (plc (x.2.1, 8) < ((of.length : Nat) : Int)) = true := decide_eq_true (by rw [h.len]; omega)
      simp only [hd1, hd2, hd3, Int.toNat_natCast, hx, e2, cond_true, Bool.and_self, h.sc.ok, beqD, bneD, d5, d6, d7] at step
      by_cases hn : nitS x = 0
      · simp only [decide_eq_true hn, cond_true] at step
        by_cases h0 : (doS (s, x)).2 = 0
        · obtain ⟨f, hf⟩ := hnext _ _ ((h.doo hn h0).mono (by omega))
          refine ⟨f + 1, (step f).trans ?_⟩
          unfold ofU at hf
          rw [decide_eq_true h0, cond_true]
          cases w1 : decide (plc (x.1, 10) = 1) <;> cases w2 : decide (plc (x.1, 10) = 2) <;> cases w3 : decide (plc (x.1, 10) = 3) <;> rw [w1] at hf <;> (try rw [w2] at hf) <;> (try rw [w3] at hf) <;> exact hf
        · obtain ⟨f, hf⟩ := hnext s of (h.mono (by omega))
          refine ⟨f + 1, (step f).trans ?_⟩
          simp only [decide_eq_false h0, cond_false]
          exact hf
      · simp only [decide_eq_false hn, cond_false] at step
        obtain ⟨n1, n2⟩ := nit_rng x
        obtain ⟨m, hm⟩ : ∃ m : Nat, nitS x = ((m : Nat) : Int) := ⟨(nitS x).toNat, by omega⟩
        obtain ⟨f, hf⟩ := sgu_3 steps ((i : Nat) : Int) m s of (40 * i) h (by omega) (fun s' of' hs' => by rw [e2]; exact hnext s' of' (hs'.mono (by omega)))
        refine ⟨f + 1, (step f).trans ?_⟩
        rw [hm]; exact hf
    · refine ⟨1, ?_⟩
      rw [L_sgu_0_eq, decide_eq_false (show ¬ ((i : Nat) : Int) < ((steps.length : Nat) : Int) by omega)]
      rfl
theorem sgu_true : ∀ a : List SSp, ∃ f, M_sgu f a = some true := fun steps => by
  have hz : ∀ j : Int, ofG (List.replicate 32 (0, 0, false)) j = (0, 0, false) := fun j => by
    unfold ofG
    rw [List.getD_eq_getElem?_getD, List.getElem?_replicate]; split <;> rfl
  obtain ⟨f, hf⟩ := sgu_0 steps 120 0 (0, 0, []) (List.replicate 32 (0, 0, false)) rfl ⟨Sc.zero, fun D => Int.le_refl _, by simp, fun j => by rw [hz]; exact ⟨Int.le_refl _, Int.le_refl _⟩, fun d hd => by cases hd⟩
  exact ⟨f + 1, by rw [M_sgu_eq]; exact hf⟩
end Go.AL
