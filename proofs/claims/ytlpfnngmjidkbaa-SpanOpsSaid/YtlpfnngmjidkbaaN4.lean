/-
  Layer 33 (span): what Apply does, on lists. By an AI agent.
-/
import Derived.Test.YtlpfnngmjidkbaaN2
namespace Go.AL
open Go.Proofs
set_option linter.unusedVariables false
set_option linter.unusedSimpArgs false
def ascC : SPg → List SPg → Bool
  | _, [] => true
  | u, v :: r => bif decide (u.1 < v.1) then ascC v r else false
def asS : List SPg → Bool
  | [] => true
  | u :: r => ascC u r
theorem asc_0 : ∀ (rest table : List SPg) (k : Nat) (u : SPg), table.drop k = u :: rest → table.length ≤ 1000 → F_asc_0 rest (table, k + 1) = ascC u rest ∧ P_asc_0 rest (table, k + 1) = true ∧ F_ris_0 rest (table, k + 1) = ascC u rest ∧ P_ris_0 rest (table, k + 1) = true
  | [], table, k, u, h, hl => ⟨rfl, rfl, rfl, rfl⟩
  | v :: rest, table, k, u, h, hl => by
    obtain ⟨h1, h2, h3⟩ := drop_get2 (0, 0, 0) h
    obtain ⟨i1, i2, i3, i4⟩ := asc_0 rest table (k + 1) v h3 hl
    have e : IntKind.i64.wrap (((k + 1 : Nat) : Int) - 1) = ((k : Nat) : Int) := by rw [i64_id (by omega) (by omega)]; omega
    simp only [F_asc_0, P_asc_0, F_ris_0, P_ris_0, e, Int.toNat_natCast, h2, i1, i2, i3, i4, ascC, decide_eq_true (show (0 : Int) ≤ (k : Int) by omega), decide_eq_true (show ((k : Nat) : Int) < (table.length : Int) by omega), Bool.true_and]
    by_cases hlt : u.1 < v.1
    · rw [decide_eq_true hlt, decide_eq_false (show ¬ u.1 ≥ v.1 by omega)]
      exact ⟨rfl, rfl, rfl, rfl⟩
    · rw [decide_eq_false hlt, decide_eq_true (show u.1 ≥ v.1 by omega)]
      exact ⟨rfl, rfl, rfl, rfl⟩
theorem asc_all (l : List SPg) (hl : l.length ≤ 1000) : F_asc l = asS l ∧ P_asc l = true ∧ F_ris l = asS l ∧ P_ris l = true := by
  simp only [F_asc, P_asc, F_ris, P_ris, decide_eq_true (show l.length ≤ 1099511627776 by omega), Bool.true_and]
  cases l with
  | nil => exact ⟨rfl, rfl, rfl, rfl⟩
  | cons u r => exact asc_0 r (u :: r) 0 u rfl hl
theorem ascC_iff : ∀ (u : SPg) (r : List SPg), ascC u r = true ↔ (u :: r).Pairwise (fun a b => a.1 < b.1)
  | u, [] => by simp [ascC]
  | u, v :: r => by
    simp only [ascC]
    by_cases h : u.1 < v.1
    · rw [decide_eq_true h, cond_true, ascC_iff v r]
      refine ⟨fun hp => List.pairwise_cons.2 ⟨fun x hx => ?_, hp⟩, fun hp => (List.pairwise_cons.1 hp).2⟩
      rcases List.mem_cons.1 hx with rfl | hx
      · exact h
      · have := (List.pairwise_cons.1 hp).1 x hx
        omega
    · rw [decide_eq_false h]
      exact ⟨fun h' => (by cases h'), fun hp => absurd ((List.pairwise_cons.1 hp).1 v (by simp)) h⟩
theorem asS_iff (l : List SPg) : asS l = true ↔ l.Pairwise (fun a b => a.1 < b.1) := by
  cases l with
  | nil => simp [asS]
  | cons u r => exact ascC_iff u r
theorem sam_0 : ∀ (rest p : List SPg), F_sam_0 rest (p ++ rest, p ++ rest, p.length) = true ∧ P_sam_0 rest (p ++ rest, p ++ rest, p.length) = true
  | [], p => ⟨rfl, rfl⟩
  | u :: rest, p => by
    obtain ⟨i1, i2⟩ := sam_0 rest (p ++ [u])
    simp only [List.append_assoc, List.singleton_append, List.length_append, List.length_cons, List.length_nil, Nat.zero_add] at i1 i2
    have e : (p ++ u :: rest).getD p.length (0, 0, 0) = u := by simp [List.getD_eq_getElem?_getD]
    simp only [F_sam_0, P_sam_0, Int.toNat_natCast, e, i1, i2, beq_self_eq_true, Bool.true_and, Bool.and_true, Bool.not_true, cond_false, List.length_append, List.length_cons, decide_eq_true (show ((p.length : Nat) : Int) < ((p.length + (rest.length + 1) : Nat) : Int) by omega), true_and, and_self]
theorem sam_all (l : List SPg) (hl : l.length ≤ 1000) : F_sam (l, l) = true ∧ P_sam (l, l) = true := by
  obtain ⟨h1, h2⟩ := sam_0 l []
  simp only [F_sam, P_sam, bneD, decide_true, Bool.not_true, cond_false, decide_eq_true (show l.length ≤ 1099511627776 by omega), Bool.true_and]
  exact ⟨h1, h2⟩
def fndS (p : Int) : List SPg → SPg → Bool → List SPg → SPg × Bool × List SPg
  | [], x, h, r => (x, h, r)
  | u :: l, x, h, r => bif decide (u.1 = p) then fndS p l u true r else fndS p l x h (r ++ [u])
theorem beqD' (a b : Int) : (a == b) = decide (a = b) := by
  by_cases h : a = b
  · subst h; simp
  · simp [h]
theorem fnd_0 (t : List SPg) (p : Int) (x4 : SPg) : ∀ (l : List SPg) (x : SPg) (h : Bool) (r : List SPg) (k : Nat), r.length + l.length ≤ 1000 → F_fnd_0 l (t, p, x4, x, r, h, k) = fndS p l x h r ∧ P_fnd_0 l (t, p, x4, x, r, h, k) = true
  | [], x, h, r, k, hl => ⟨rfl, rfl⟩
  | u :: l, x, h, r, k, hl => by
    simp only [List.length_cons] at hl
    obtain ⟨i1, i2⟩ := fnd_0 t p x4 l u true r (k + 1) (by omega)
    obtain ⟨j1, j2⟩ := fnd_0 t p x4 l x h (r ++ [u]) (k + 1) (by simp; omega)
    simp only [F_fnd_0, P_fnd_0, fndS, i1, i2, j1, j2, beqD', List.length_cons, List.length_nil, decide_eq_true (show (r.length + (0 + 1)) * 24 ≤ 140737488355328 by omega), Bool.true_and]
    cases decide (u.1 = p)
    · exact ⟨trivial, rfl⟩
    · exact ⟨trivial, rfl⟩
theorem fnd_all (l : List SPg) (p : Int) (hl : l.length ≤ 1000) : F_fnd (l, p) = fndS p l (0, 0, 0) false [] ∧ P_fnd (l, p) = true := by
  obtain ⟨h1, h2⟩ := fnd_0 l p (0, 0, 0) l (0, 0, 0) false [] 0 (by simpa using hl)
  simp only [F_fnd, P_fnd, decide_eq_true (show l.length ≤ 1099511627776 by omega), Bool.true_and]
  exact ⟨h1, h2⟩
theorem fndS_no (p : Int) : ∀ (l : List SPg) (x : SPg) (h : Bool) (r : List SPg), (∀ e ∈ l, e.1 ≠ p) → fndS p l x h r = (x, h, r ++ l)
  | [], x, h, r, _ => by simp [fndS]
  | u :: l, x, h, r, hn => by
    simp only [fndS, decide_eq_false (hn u (by simp)), cond_false]
    rw [fndS_no p l x h (r ++ [u]) (fun e he => hn e (by simp [he]))]
    simp
theorem fndS_yes {p : Int} {A B : List SPg} {e : SPg} (hA : ∀ x ∈ A, x.1 ≠ p) (hB : ∀ x ∈ B, x.1 ≠ p) (he : e.1 = p) : fndS p (A ++ e :: B) (0, 0, 0) false [] = (e, true, A ++ B) := by
  have key : ∀ (l : List SPg) (x : SPg) (h : Bool) (r : List SPg), (∀ y ∈ l, y.1 ≠ p) → fndS p (l ++ e :: B) x h r = (e, true, r ++ l ++ B) := by
    intro l
    induction l with
    | nil => intro x h r _; simp only [List.nil_append, fndS, decide_eq_true he, cond_true]; rw [fndS_no p B e true r hB]; simp
    | cons u l ih =>
      intro x h r hn
      simp only [List.cons_append, fndS, decide_eq_false (hn u (by simp)), cond_false]
      rw [ih x h (r ++ [u]) (fun y hy => hn y (by simp [hy]))]
      simp
  simpa using key A (0, 0, 0) false [] hA
/-! ### The loops of Apply -/
theorem app_skip (op : SOp) (t : List SPg) (k : Int) (th : Bool) (x19 : List SPg) (x20 : Int) : ∀ (rest R : List SPg) (n : Nat), (∀ e ∈ rest, e.1 ≠ op.2.2.2.1) → F_app_0 (rest ++ R) (t, op, k, th, x19, x20, n) = F_app_0 R (t, op, k, th, x19, x20, n + rest.length) ∧ P_app_0 (rest ++ R) (t, op, k, th, x19, x20, n) = P_app_0 R (t, op, k, th, x19, x20, n + rest.length)
  | [], R, n, _ => ⟨rfl, rfl⟩
  | u :: rest, R, n, h => by
    obtain ⟨i1, i2⟩ := app_skip op t k th x19 x20 rest R (n + 1) (fun e he => h e (by simp [he]))
    have hu : (u.1 == op.2.2.2.1) = false := by rw [beqD']; exact decide_eq_false (h u (by simp))
    simp only [List.cons_append, F_app_0, P_app_0, hu, cond_false, i1, i2, List.length_cons, show n + 1 + rest.length = n + (rest.length + 1) by omega, and_self]
theorem app_at (op : SOp) (t B x19 : List SPg) (k : Int) (th : Bool) (x20 : Int) (e : SPg) (n : Nat) (he : e.1 = op.2.2.2.1) : F_app_0 (e :: B) (t, op, k, th, x19, x20, n) = F_app_0 B (t, op, (n : Int), true, x19, x20, n + 1) ∧ P_app_0 (e :: B) (t, op, k, th, x19, x20, n) = P_app_0 B (t, op, (n : Int), true, x19, x20, n + 1) := by
  have hu : (e.1 == op.2.2.2.1) = true := by rw [beqD']; exact decide_eq_true he
  simp only [F_app_0, P_app_0, hu, cond_true, and_self]
theorem app_4 (op : SOp) (out : List SPg) (ho : out.length ≤ 1000) : ∀ (A B : List SPg) (n : Nat), n + A.length ≤ out.length → (∀ e ∈ A, e.1 < op.2.2.2.1) → (∀ e ∈ B, ¬ e.1 < op.2.2.2.1) → F_app_4 (A ++ B) (op, n, out) = (insF out [op.2.2.2] ((n + A.length : Nat) : Int), 0) ∧ P_app_4 (A ++ B) (op, n, out) = true
  | [], B, n, hn, _, hB => by
    have hi : insP 24 out [op.2.2.2] ((n : Nat) : Int) = true := by
      simp only [insP, List.length_cons, List.length_nil, decide_eq_true (show (0 : Int) ≤ (n : Int) by omega), decide_eq_true (show ((n : Nat) : Int) ≤ (out.length : Int) by simp at hn; omega), decide_eq_true (show (out.length + 1) * 24 ≤ 140737488355328 by omega)]
      rfl
    cases B with
    | nil => exact ⟨rfl, hi⟩
    | cons u B =>
      simp only [List.nil_append, F_app_4, P_app_4, decide_eq_false (hB u (by simp)), cond_false, List.length_nil, Nat.add_zero]
      exact ⟨trivial, hi⟩
  | u :: A, B, n, hn, hA, hB => by
    simp only [List.length_cons] at hn
    obtain ⟨i1, i2⟩ := app_4 op out ho A B (n + 1) (by omega) (fun e he => hA e (by simp [he])) hB
    simp only [List.cons_append, F_app_4, P_app_4, decide_eq_true (hA u (by simp)), cond_true, i1, i2, List.length_cons, show n + 1 + A.length = n + (A.length + 1) by omega, and_self]
theorem insF_at {A B : List SPg} {x : SPg} : insF (A ++ B) [x] ((0 + A.length : Nat) : Int) = A ++ x :: B := by
  simp [insF]
section
variable {op : SOp} {A B : List SPg} {e : SPg}
theorem app_no (hv : F_vop op = true) (hasc : asS (A ++ B) = true) (hl : (A ++ B).length ≤ 100) (hA : ∀ x ∈ A, x.1 < op.2.2.2.1) (hB : ∀ x ∈ B, op.2.2.2.1 < x.1) (hk : op.2.2.1 = 1 ∨ op.2.2.1 = 2 ∨ op.2.2.1 = 3) :
    P_app (A ++ B, op) = true ∧ F_app (A ++ B, op) = bif decide (op.2.2.1 = 1) then (A ++ op.2.2.2 :: B, 0) else ([], 13) := by
  obtain ⟨a1, a2, _, _⟩ := asc_all (A ++ B) (by omega)
  have hno : ∀ x ∈ A ++ B, x.1 ≠ op.2.2.2.1 := fun x hx => by
    rcases List.mem_append.1 hx with h | h
    · have := hA x h; omega
    · have := hB x h; omega
  obtain ⟨s1, s2⟩ := app_skip op (A ++ B) (-1) false (A ++ B) (((A ++ B).length : Nat) : Int) (A ++ B) [] 0 hno
  rw [List.append_nil] at s1 s2
  obtain ⟨q1, q2⟩ := app_4 op (A ++ B) (by omega) A B 0 (by simp) hA (fun x hx => by have := hB x hx; omega)
  rw [insF_at] at q1
  have h40 : len40n (A ++ B) = true := decide_eq_true (by omega)
  have hlt : ¬ ((((A ++ B).length : Nat) : Int) ≥ 256) := by omega
  simp only [F_app, P_app, hv, a1, a2, hasc, Bool.not_true, Bool.true_and, cond_false, decide_eq_true (show (A ++ B).length ≤ 1099511627776 by omega), s1, s2]
  rcases hk with hk | hk | hk <;> simp only [F_app_0, P_app_0, hk, q1, q2, h40, decide_eq_false hlt, decide_eq_true (show (A ++ B).length ≤ 1099511627776 by omega)] <;> exact ⟨rfl, rfl⟩
theorem app_yes (hv : F_vop op = true) (hasc : asS (A ++ e :: B) = true) (hl : (A ++ e :: B).length ≤ 100) (hA : ∀ x ∈ A, x.1 < op.2.2.2.1) (hB : ∀ x ∈ B, op.2.2.2.1 < x.1) (he : e.1 = op.2.2.2.1) (hk : op.2.2.1 = 1 ∨ op.2.2.1 = 2 ∨ op.2.2.1 = 3) :
    P_app (A ++ e :: B, op) = true ∧ F_app (A ++ e :: B, op) = bif decide (op.2.2.1 = 1) then ([], 12) else bif decide (op.2.2.1 = 2) then (A ++ B, 0) else (A ++ (e.1, e.2.1, op.2.2.2.2.2) :: B, 0) := by
  obtain ⟨a1, a2, _, _⟩ := asc_all (A ++ e :: B) (by omega)
  obtain ⟨s1, s2⟩ := app_skip op (A ++ e :: B) (-1) false (A ++ e :: B) (((A ++ e :: B).length : Nat) : Int) A (e :: B) 0 (fun x hx => by have := hA x hx; omega)
  obtain ⟨t1, t2⟩ := app_at op (A ++ e :: B) B (A ++ e :: B) (-1) false (((A ++ e :: B).length : Nat) : Int) e (0 + A.length) he
  obtain ⟨r1, r2⟩ := app_skip op (A ++ e :: B) ((0 + A.length : Nat) : Int) true (A ++ e :: B) (((A ++ e :: B).length : Nat) : Int) B [] (0 + A.length + 1) (fun x hx => by have := hB x hx; omega)
  rw [List.append_nil] at r1 r2
  have h40 : len40n (A ++ e :: B) = true := decide_eq_true (by omega)
  have hlen : (A ++ e :: B).length = A.length + (B.length + 1) := by simp
  have hw : IntKind.i64.wrap (((0 + A.length : Nat) : Int) + 1) = ((0 + A.length : Nat) : Int) + 1 := i64_id (by omega) (by omega)
  have h0 : (0 : Int) ≤ ((0 + A.length : Nat) : Int) := by omega
  have h1 : ((0 + A.length : Nat) : Int) < (((A ++ e :: B).length : Nat) : Int) := by omega
  have hdp : delP (A ++ e :: B) (((0 + A.length : Nat) : Int), ((0 + A.length : Nat) : Int) + 1) = true := by
    simp only [delP, decide_eq_true h0, decide_eq_true h1, decide_true]; rfl
  have hdf : delF (A ++ e :: B) (((0 + A.length : Nat) : Int), ((0 + A.length : Nat) : Int) + 1) = A ++ B := by
    simp only [delF, Int.toNat_natCast, Nat.zero_add]
    rw [List.take_left, List.drop_append]
    simp
  have hset : (A ++ e :: B).set (((0 + A.length : Nat) : Int)).toNat (upT (upS op.2.2.2.2.2) ((A ++ e :: B).getD (((0 + A.length : Nat) : Int)).toNat (0, 0, 0))) = A ++ (e.1, e.2.1, op.2.2.2.2.2) :: B := by
    simp only [Int.toNat_natCast, Nat.zero_add]
    rw [show (A ++ e :: B).getD A.length (0, 0, 0) = e by simp [List.getD_eq_getElem?_getD]]
    simp [upT, upS]
  simp only [F_app, P_app, hv, a1, a2, hasc, Bool.not_true, Bool.true_and, cond_false, decide_eq_true (show (A ++ e :: B).length ≤ 1099511627776 by omega), s1, s2, t1, t2, r1, r2]
  rcases hk with hk | hk | hk <;> simp only [F_app_0, P_app_0, hk, h40, hw, hdp, hdf, hset, decide_eq_true h0, decide_eq_true h1] <;> exact ⟨rfl, rfl⟩
end
end Go.AL
