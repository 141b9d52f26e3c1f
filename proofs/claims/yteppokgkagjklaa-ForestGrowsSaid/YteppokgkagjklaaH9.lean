/-
  ForestInsertRemove and ForestGrows: the plain law. By an AI agent.
-/
import Derived.Test.YteppokgkagjklaaH8
namespace Go.AL
open Go.Proofs
set_option linter.unusedVariables false
set_option linter.unusedSimpArgs false
theorem insL_split (e : SEn) : ∀ l : List SEn, ∃ p q, l = p ++ q ∧ insL e l = p ++ e :: q
  | [] => ⟨[], [], rfl, rfl⟩
  | u :: r => by
    simp only [insL]
    cases lessI (eid e, eid u)
    · obtain ⟨p, q, h1, h2⟩ := insL_split e r
      exact ⟨u :: p, q, by rw [h1]; rfl, by rw [cond_false, h2]; rfl⟩
    · exact ⟨[], u :: r, rfl, rfl⟩
theorem findE_none {l : List SEn} {id : SId} (h : ∀ x ∈ l, eid x ≠ id) : decide (findE l id ≥ 0) = false := by
  refine decide_eq_false ?_
  have := (findI_none (p := fun e : SEn => decide (eid e = id)) (l := l) (k := 0) (by omega)).1 (fun x hx => decide_eq_false (h x hx))
  show ¬ findI _ l 0 ≥ 0
  omega
theorem atE_none {l : List SEn} {c s : Int} (h : ∀ x ∈ l, ¬ (x.1 = c ∧ x.2.1 = s)) : decide (atE l c s ≥ 0) = false := by
  refine decide_eq_false ?_
  have := (findI_none (p := fun e : SEn => decide (e.1 = c) && decide (e.2.1 = s)) (l := l) (k := 0) (by omega)).1 (fun x hx => by
    have := h x hx
    cases hd : decide (x.1 = c) && decide (x.2.1 = s) with
    | false => rfl
    | true => simp only [Bool.and_eq_true, decide_eq_true_eq] at hd; exact absurd hd this)
  show ¬ findI _ l 0 ≥ 0
  omega
theorem inr_core {l : List SEn} {e : SEn} (hid : ∀ x ∈ l, eid x ≠ eid e) (hat : ∀ x ∈ l, ¬ (x.1 = e.1 ∧ x.2.1 = e.2.1)) : insS (l, e) = (insL e l, true) ∧ ∃ k : Nat, findE (insL e l) (eid e) = (k : Int) ∧ atE (insL e l) e.1 e.2.1 = (k : Int) ∧ remS (insL e l, eid e) = (l, true) ∧ (insS (insL e l, e)).2 = false := by
  refine ⟨by simp only [insS, findE_none hid, atE_none hat]; rfl, ?_⟩
  obtain ⟨p, q, h1, h2⟩ := insL_split e l
  have f1 : findE (insL e l) (eid e) = ((p.length : Nat) : Int) := by
    have := (findI_at (q := fun x : SEn => decide (eid x = eid e)) (u := e) (by simp) q p 0 (by omega)).2 (fun f hf => decide_eq_false (hid f (by rw [h1]; exact List.mem_append_left _ hf)))
    rw [Int.zero_add, ← h2] at this; exact this
  have f2 : atE (insL e l) e.1 e.2.1 = ((p.length : Nat) : Int) := by
    have := (findI_at (q := fun x : SEn => decide (x.1 = e.1) && decide (x.2.1 = e.2.1)) (u := e) (by simp) q p 0 (by omega)).2 (fun f hf => by
      have := hat f (by rw [h1]; exact List.mem_append_left _ hf)
      cases hd : decide (f.1 = e.1) && decide (f.2.1 = e.2.1) with
      | false => rfl
      | true => simp only [Bool.and_eq_true, decide_eq_true_eq] at hd; exact absurd hd this)
    rw [Int.zero_add, ← h2] at this; exact this
  refine ⟨p.length, f1, f2, ?_, ?_⟩
  · simp only [remS, f1, show decide (((p.length : Nat) : Int) ≥ 0) = true from decide_eq_true (by omega), Int.toNat_natCast, cond_true]
    rw [h2, h1]; simp
  · simp only [insS, f1, show decide (((p.length : Nat) : Int) ≥ 0) = true from decide_eq_true (by omega)]; rfl
theorem inr_true : ∀ a : List SSt × Int × Int × Int × SCp, ∃ f, M_inr f a = some true := by
  rintro ⟨steps, core, slot, op, c⟩
  obtain ⟨hv, hlen⟩ := forest_vf steps
  have key : P_inr (steps, core, slot, op, c) = true ∧ F_inr (steps, core, slot, op, c) = true := by
    have hE : okE (forest steps) = true := okE_vf hv (by omega)
    have hF : okF (forest steps) = true := by simp only [okF, Bool.and_eq_true]; exact ⟨decide_eq_true (by omega), hE⟩
    have k4 := place_range core (s := 4) (by omega)
    have hc : IntKind.i64.wrap (4 + place (core, 4)) = 4 + place (core, 4) := i64_id (by omega) (by omega)
    simp only [P_inr, F_inr, hc]
    generalize forest steps = l at hv hlen hE hF ⊢
    obtain ⟨e, he⟩ : ∃ e : SEn, e = (4 + place (core, 4), slot, 4, op, 0, [], c) := ⟨_, rfl⟩
    rw [← he]
    have e1 : eid e = (4, op, 0) := by rw [he]; rfl
    have e2 : epath e = [] := by rw [he]; rfl
    have e3 : e.1 = 4 + place (core, 4) := by rw [he]
    have e4 : e.2.1 = slot := by rw [he]
    obtain ⟨h1, k, h2, h3, h4, h5⟩ := inr_core (l := l) (e := e)
      (fun x hx hh => by
        have a1 := hv.idc x hx
        have a2 := (hv.cs x hx).1
        rw [hh, e1] at a1; simp only at a1; omega)
      (fun x hx hh => by have a2 := (hv.cs x hx).1; omega)
    rw [e1] at h2 h4
    rw [e3, e4] at h3
    have p1 : insPreF (l, e) = true := by simp only [insPreF, Bool.and_eq_true]; exact ⟨hF, by show len40n (epath e) = true; rw [e2]; rfl⟩
    have pE : okE (insL e l) = true := okE_mk (by rw [len_insL]; omega) (fun x hx => by
      rcases mem_insL.1 hx with rfl | hx
      · show len40n (epath x) = true; rw [e2]; rfl
      · exact okE_mem hE hx)
    have pF : okF (insL e l) = true := by simp only [okF, Bool.and_eq_true]; exact ⟨decide_eq_true (by rw [len_insL]; omega), pE⟩
    have p2 : insPreF (insL e l, e) = true := by simp only [insPreF, Bool.and_eq_true]; exact ⟨pF, by show len40n (epath e) = true; rw [e2]; rfl⟩
    have p3 : len40n (insL e l) = true := decide_eq_true (by rw [len_insL]; omega)
    have w : IntKind.i64.wrap (((l.length : Nat) : Int) + 1) = ((l.length : Nat) : Int) + 1 := i64_id (by omega) (by omega)
    have hs : sentS (l, l) = true := decide_eq_true rfl
    simp only [h1, h2, h3, h4, h5, p1, p2, p3, pE, pF, hE, hs, w, len_insL, fndR_ok, show decide (((k : Nat) : Int) ≥ 0) = true from decide_eq_true (by omega), Int.natCast_succ, beq_self_eq_true, cond_true, Bool.not_false, Bool.true_and]
    exact ⟨trivial, trivial⟩
  have := inr_auto (steps, core, slot, op, c) key.1
  rw [key.2] at this; exact this
end Go.AL
