/-
  Layer 30 (sched): admission, plain laws. No program in sight. By an AI agent.
-/
import Derived.Test.YtmdmmikpmhopkaaK17
namespace Go.AL
open Go.Proofs
set_option linter.unusedVariables false
set_option linter.unusedSimpArgs false
def pj (d : SDs) : Int × Int × Int × Int × Bool × Int := (d.1, dW d, dPer d, dBud d, dRem d, bif dRem d then dDl d else 0)
def shQ (q : Int × Int × Int × Int × Bool × Int) : Int := bif decide (q.2.1 = 0) then q.2.2.2.1 * (1024 / q.2.2.1) else 0
def sumQ : List (Int × Int × Int × Int × Bool × Int) → Int
  | [] => 0
  | q :: r => shQ q + sumQ r
theorem utS_pj : ∀ l : List SDs, utS l = sumQ (l.map pj)
  | [] => rfl
  | d :: r => by rw [utS, utS_pj r]; rfl
theorem sumQ_app : ∀ l r, sumQ (l ++ r) = sumQ l + sumQ r
  | [], r => by simp [sumQ]
  | q :: l, r => by simp only [List.cons_append, sumQ, sumQ_app l r]; omega
theorem pj_chg (d : SDs) : pj (chgD d) = pj d := by unfold chgD; cases decide (dW d = 0) <;> rfl
theorem pj_ent (d : SDs) : pj (entD d).1 = pj d := by
  obtain ⟨d1, d2, d3, d4, d5, d6, d7, d8, d9, d10, d11⟩ := d
  cases d6 with
  | true => rfl
  | false => cases d11 <;> rfl
theorem set_map_same {l : List SDs} {k : Nat} {d z : SDs} (h : pj d = pj (l.getD k z)) : (l.set k d).map pj = l.map pj := by
  rw [List.map_set]
  by_cases hk : k < l.length
  · rw [h, List.getD_eq_getElem?_getD, List.getElem?_eq_getElem hk]
    apply List.ext_getElem?
    intro i
    by_cases hi : k = i
    · subst hi; rw [List.getElem?_set_self (by simpa using hk)]; simp [hk]
    · rw [List.getElem?_set_ne hi]
  · rw [List.set_eq_of_length_le (by simpa using hk)]
theorem run_pj (s : SSd) : (runS s).1.map pj = s.2.2.map pj := by
  unfold runS
  cases decide (chS s.2.2 < 0) with
  | true => rfl
  | false => exact set_map_same (z := zDs) (by rw [pj_ent, pj_chg])
theorem run_virt (s : SSd) (h : ∀ d ∈ s.2.2, dW d = 0) : (runS s).2.1 = s.2.1 := by
  unfold runS
  cases decide (chS s.2.2 < 0) with
  | true => rfl
  | false =>
    have : dW (s.2.2.getD (chS s.2.2).toNat zDs) = 0 := by
      by_cases hk : (chS s.2.2).toNat < s.2.2.length
      · rw [List.getD_eq_getElem?_getD, List.getElem?_eq_getElem hk]; exact h _ (List.getElem_mem hk)
      · rw [List.getD_eq_getElem?_getD, List.getElem?_eq_none (by omega)]; rfl
    show (bif decide (dW (s.2.2.getD (chS s.2.2).toNat zDs) = 0) then s.2.1 else _) = _
    rw [decide_eq_true this]; rfl
def goneQ (n : Int) (q : Int × Int × Int × Int × Bool × Int) : Bool := decide (q.2.1 = 0) && q.2.2.2.2.1 && decide (q.2.2.2.2.2 = n)
theorem goneS_pj (n : Int) (d : SDs) : goneS d n = goneQ n (pj d) := by
  unfold goneS goneQ pj
  cases hr : dRem d with
  | true => rfl
  | false => simp only [Bool.and_false, Bool.false_and]
theorem pj_ren {n : Int} {d : SDs} (h : goneS d n = false) : pj (renS n d) = pj d := by
  unfold renS
  cases h1 : decide (dW d = 0) && decide (dDl d = n) with
  | false => rfl
  | true =>
    unfold goneS at h
    rw [Bool.and_eq_true] at h1
    rw [h1.1, h1.2, Bool.true_and, Bool.and_true] at h
    unfold pj
    show (_, _, _, _, dRem d, bif dRem d then _ else _) = (_, _, _, _, dRem d, bif dRem d then _ else _)
    rw [h]; rfl
theorem tckL_pj (n : Int) (l : List SDs) : (tckL n l).map pj = (l.map pj).filter fun q => !goneQ n q := by
  rw [tckL_eq]
  induction l with
  | nil => rfl
  | cons d r ih =>
    rw [List.filter_cons, List.map_cons, List.filter_cons, ← goneS_pj]
    cases hg : goneS d n with
    | true => simpa using ih
    | false => simp only [Bool.not_false, if_true, List.map_cons, pj_ren hg, ih]
theorem tck_pj {s : SSd} (hv : valS s = true) (hn : s.1 < 1099511627776) (hz : s.2.1 ≤ 1125899906842624 - 2520) (hw : ∀ d ∈ s.2.2, dW d = 0) :
    (tckS s).2.2.2.2 = 0 ∧ valS (tckS s).1 = true ∧ (tckS s).1.1 = s.1 + 1 ∧ (tckS s).1.2.1 = s.2.1 ∧ (tckS s).1.2.2.map pj = (s.2.2.map pj).filter fun q => !goneQ (s.1 + 1) q := by
  obtain ⟨h1, h2, h3, h4⟩ := tck_val hv hn hz
  refine ⟨h1, h2, h3, ?_⟩
  unfold tckS
  rw [hv, decide_eq_false (show ¬ s.1 = 1099511627776 by omega), decide_eq_false (show ¬ s.2.1 > 1125899906842624 - 2520 by omega)]
  refine ⟨run_virt s hw, ?_⟩
  show (tckL (s.1 + 1) (runS s).1).map pj = _
  rw [tckL_pj, run_pj]
theorem val_ok {s : SSd} (h : valS s = true) : okD s = true := by
  have V := (valS_iff s).1 h
  refine okD_mk (by have := V.len; omega) (fun d hd => ?_)
  have := V.all d hd
  simp only [vdiS, upB, Bool.and_eq_true, decide_eq_true_eq] at this
  have := this.2.2.1.1
  omega
theorem utS_ins (d : SDs) : ∀ l : List SDs, utS (insL d l) = utS l + shD d
  | [] => by simp only [insL, utS]; omega
  | e :: r => by
    rw [insL]
    cases decide (e.1 < d.1) with
    | true => rw [cond_true, utS, utS_ins d r, utS]; omega
    | false => rw [cond_false, utS]; omega
theorem add_rt {s : SSd} (hv : valS s = true) (hn : s.1 ≤ 1000000) {id p b : Int} (h0 : 0 ≤ id) (h1 : id < 32) (hp : perB p = true) (hb : 1 ≤ b) (hb2 : b ≤ p) :
    vdiS (newDs s id 0 p b, s.1, s.2.1) = true ∧ shD (newDs s id 0 p b) = b * (1024 / p) ∧
    addS (s, id, 0, p, b) = bif s.2.2.any (fun d => decide (d.1 = id)) then (zSs, 56) else bif decide (utS s.2.2 + b * (1024 / p) > 1024) then (zSs, 15) else ((s.1, s.2.1, insL (newDs s id 0 p b) s.2.2), 0) := by
  have pr := perB_rng hp
  have hvd : vdiS (newDs s id 0 p b, s.1, s.2.1) = true := by
    simp only [vdiS, upB, corB, rtB, newDs, hp, dId, dW, dPer, dBud, dBlk, dDis, dRem, dDl, dLft, dPas, ups, decide_true, cond_true, Bool.and_self, Bool.true_and]
    simp; omega
  have hsh : shD (newDs s id 0 p b) = b * (1024 / p) := rfl
  refine ⟨hvd, hsh, ?_⟩
  unfold addS
  simp only [hv, hvd, Bool.not_true, cond_false, utS_ins, hsh]
end Go.AL
