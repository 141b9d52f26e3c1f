/-
  Contracts of memrange.Free and of the reference's Free, as in layer 10. By an AI agent.
-/
import Derived.Test.YteppokgkagjklaaH1
namespace Go.AL
open Go.Proofs
set_option linter.unusedVariables false
set_option linter.unusedSimpArgs false
def freeN : Nat → Rg → List Rg → List Rg
  | 0, _, _ => []
  | n + 1, r, used => bif valid r then
      (bif used.any (fun u => contains (u, r)) then [] else
        bif (used.filter (fun u => overlaps (u, r))).isEmpty then [r] else
        bif r.2 == 6 then [] else
          freeN n (r.1, r.2 - 1) (used.filter (fun u => overlaps (u, r))) ++ freeN n (r.1 + p2 (r.2 - 1), r.2 - 1) (used.filter (fun u => overlaps (u, r))))
      else []
def free (a : Rg × List Rg) : List Rg := freeN a.1.2.toNat a.1 a.2
def tailF (r : Rg) (near : List Rg) : List Rg := bif near.isEmpty then [r] else bif r.2 == 6 then [] else free ((r.1, r.2 - 1), near) ++ free ((r.1 + p2 (r.2 - 1), r.2 - 1), near)
theorem freeN_inv {n : Nat} {r : Rg} {used : List Rg} (h : valid r = false) : freeN n r used = [] := by
  cases n with
  | zero => rfl
  | succ n => simp [freeN, h]
theorem free_eq (r : Rg) (used : List Rg) : free (r, used) = bif valid r then (bif used.any (fun u => contains (u, r)) then [] else tailF r (used.filter (fun u => overlaps (u, r)))) else [] := by
  cases hv : valid r with
  | false => simp [free, freeN_inv hv]
  | true =>
    obtain ⟨h1, h2, h3, h4, h5⟩ := valid_elim hv
    have e : r.2.toNat = (r.2 - 1).toNat + 1 := by omega
    simp only [free, tailF, e, freeN, hv, cond_true]
theorem freeN_len : ∀ (n : Nat) (r : Rg) (used : List Rg), (freeN n r used).length ≤ 2 ^ n
  | 0, r, used => by simp [freeN]
  | n + 1, r, used => by
    have i1 := freeN_len n (r.1, r.2 - 1) (used.filter (fun u => overlaps (u, r)))
    have i2 := freeN_len n (r.1 + p2 (r.2 - 1), r.2 - 1) (used.filter (fun u => overlaps (u, r)))
    have h3 : 1 ≤ 2 ^ (n + 1) := Nat.one_le_two_pow
    have h4 : 2 ^ (n + 1) = 2 * 2 ^ n := by rw [Nat.pow_succ]; omega
    unfold freeN
    cases valid r <;> cases used.any (fun u => contains (u, r)) <;> cases (used.filter (fun u => overlaps (u, r))).isEmpty <;> cases (r.2 == 6) <;> simp_all <;> omega
theorem free_len (a : Rg × List Rg) : (free a).length ≤ 1099511627776 := by
  cases hv : valid a.1 with
  | false => simp [free, freeN_inv hv]
  | true =>
    obtain ⟨h1, h2, h3, h4, h5⟩ := valid_elim hv
    have := freeN_len a.1.2.toNat a.1 a.2
    have h6 : 2 ^ a.1.2.toNat ≤ 2 ^ 40 := Nat.pow_le_pow_right (by omega) (by omega)
    exact Nat.le_trans this (Nat.le_trans h6 (by decide))
def smallF (a : Rg × List Rg) : Bool := decide (a.2.length ≤ 1000)
def E0_free (p0 : Rg × (List (Rg)) → Bool) : Ent := ⟨63, [.g tRg, .rd tRg], [.o 41 2 tRg], fun a => (p0 : Rg × (List (Rg)) → Bool) a, fun a => (free : Rg × (List (Rg)) → (List (Rg))) a⟩
noncomputable def C_free (p0 : Rg × (List (Rg)) → Bool) : Cfg := ⟨Try.prog, [E_valid, E_cont, E_over, E_half, E0_free p0], pmT [(17, ([(0, []), (1, []), (3, []), (4, []), (2, []), (5, []), (6, []), (7, [])], [(4, 4), (44, 50)]))], 51, [], []⟩
theorem es_free {p0 : Rg × (List (Rg)) → Bool} (h0 : (E0_free p0).Ok Try.prog) : EsOk Try.prog [E_valid, E_cont, E_over, E_half, E0_free p0] [] := es_cons E_valid_ok (es_cons E_cont_ok (es_cons E_over_ok (es_cons E_half_ok ((es_cons h0 es_nil)))))
def Lt_free : Nat → LD := ldT [(0, ⟨[.box 2 2 41 2 tRg, .list 5 999 41 2 tRg, .rd 14 tRg, .c 15 (.int .i64), .c 16 (.int .i64)], [], 0⟩)]
noncomputable def M_free (p0 : Rg × (List (Rg)) → Bool) (f : Nat) (a : Rg × (List (Rg))) : Option ((List (Rg))) := (runX (C_free p0) Lt_free (Kret Try.prog [.tmp 4] [.o 41 2 tRg]) f [.code (bodyOf Try.f63)] (initX [.g tRg, .rd tRg] a) : Option (ResT [.o 41 2 tRg]))
noncomputable def L_free_0 (p0 : Rg × (List (Rg)) → Bool) (f : Nat) (x : Rg × (List (Rg)) × (List (Rg)) × Int × Int) : Option ((List (Rg))) := (runX (C_free p0) Lt_free (Kret Try.prog [.tmp 4] [.o 41 2 tRg]) f (headOf Try.f63 0) ((Lt_free 0).mk' x) : Option (ResT [.o 41 2 tRg]))
theorem M_free_eq (p0 : Rg × (List (Rg)) → Bool) (f : Nat) (r : Rg) (used : List (Rg)) : M_free p0 (f + 1) (r, used) =
    bif !valid r then some [] else L_free_0 p0 f (r, [], used, (↑used.length : Int), 0) := by kernel_rfl
theorem L_free_0_eq (p0 : Rg × (List (Rg)) → Bool) (f : Nat) (r : Rg) (near : List (Rg)) (x14 : List (Rg)) (x15 : Int) (x16 : Int) : L_free_0 p0 (f + 1) (r, near, x14, x15, x16) =
    bif decide (x16 < x15) then bif decide (0 ≤ x16) && decide (x16 < (↑x14.length : Int)) then bif contains (x14.getD x16.toNat (0, 0), r) then some [] else bif overlaps (x14.getD x16.toNat (0, 0), r) then bif decide ((near.length + [x14.getD x16.toNat (0, 0)].length) * 16 ≤ 140737488355328) then L_free_0 p0 f (r, near ++ [x14.getD x16.toNat (0, 0)], x14, x15, IntKind.i64.wrap (x16 + 1)) else none else L_free_0 p0 f (r, near, x14, x15, IntKind.i64.wrap (x16 + 1)) else none else bif (↑near.length : Int) == 0 then some [r] else bif !(halves r).2.2 then some [] else bif p0 ((halves r).1, near) then bif p0 ((halves r).2.1, near) then bif decide (((free ((halves r).1, near)).length + (free ((halves r).2.1, near)).length) * 16 ≤ 140737488355328) then some (free ((halves r).1, near) ++ free ((halves r).2.1, near)) else none else none else none := by kernel_rfl
theorem half_valid {r : Rg} (h : valid r = true) : halves r = bif r.2 == 6 then ((0, 0), (0, 0), false) else ((r.1, r.2 - 1), (r.1 + p2 (r.2 - 1), r.2 - 1), true) := by simp [halves, h]
theorem tail_run {p0 : Rg × List Rg → Bool} {r : Rg} {near : List Rg} (hv : valid r = true) (h1 : p0 ((r.1, r.2 - 1), near) = true) (h2 : p0 ((r.1 + p2 (r.2 - 1), r.2 - 1), near) = true) :
    (bif ((near.length : Int)) == 0 then Option.some [(r.1, r.2)]
    else
      bif !(halves (r.1, r.2)).2.2 then Option.some []
      else
        bif p0 (((halves (r.1, r.2)).1.1, (halves (r.1, r.2)).1.2), near) then
          bif p0 (((halves (r.1, r.2)).2.1.1, (halves (r.1, r.2)).2.1.2), near) then
            bif decide (((free (((halves (r.1, r.2)).1.1, (halves (r.1, r.2)).1.2), near)).length + (free (((halves (r.1, r.2)).2.1.1, (halves (r.1, r.2)).2.1.2), near)).length) * 16 ≤ 140737488355328) then
              Option.some (free (((halves (r.1, r.2)).1.1, (halves (r.1, r.2)).1.2), near) ++ free (((halves (r.1, r.2)).2.1.1, (halves (r.1, r.2)).2.1.2), near))
            else Option.none
          else Option.none
        else Option.none) = some (tailF r near) := by
  have l1 := free_len ((r.1, r.2 - 1), near); have l2 := free_len ((r.1 + p2 (r.2 - 1), r.2 - 1), near)
  have d : decide (((free ((r.1, r.2 - 1), near)).length + (free ((r.1 + p2 (r.2 - 1), r.2 - 1), near)).length) * 16 ≤ 140737488355328) = true := by simp; omega
  rw [show ((r.1, r.2) : Rg) = r from rfl, half_valid hv]
  have e0 : (((near.length : Nat) : Int) == 0) = near.isEmpty := by cases near <;> simp; omega
  unfold tailF
  rw [e0]
  cases near.isEmpty
  · cases (r.2 == 6)
    · simp only [cond_false, cond_true, Bool.not_true, h1, h2, d]
    · rfl
  · rfl
theorem free_loop (p0 : Rg × List Rg → Bool) (r : Rg) (hv : valid r = true) (hp : ∀ near : List Rg, near.length ≤ 1000 → p0 ((r.1, r.2 - 1), near) = true ∧ p0 ((r.1 + p2 (r.2 - 1), r.2 - 1), near) = true) :
    ∀ (rest pre near : List Rg), (pre ++ rest).length ≤ 1000 → near.length ≤ pre.length →
      ∃ f, L_free_0 p0 f (r, near, pre ++ rest, (((pre ++ rest).length : Nat) : Int), ((pre.length : Nat) : Int)) = some (bif rest.any (fun u => contains (u, r)) then [] else tailF r (near ++ rest.filter (fun u => overlaps (u, r))))
  | [], pre, near, hl, hn => by
    refine ⟨1, (L_free_0_eq p0 0 _ _ _ _ _).trans ?_⟩
    rw [lt_end]
    obtain ⟨h1, h2⟩ := hp near (by simp at hl; omega)
    simpa using tail_run hv h1 h2
  | u :: rest, pre, near, hl, hn => by
    have hl' : pre.length < 1000 := by simp at hl; omega
    have ih := fun near' hn' => free_loop p0 r hv hp rest (pre ++ [u]) near' (by simpa using hl) hn'
    have dn : decide ((near.length + [(u.1, u.2)].length) * 16 ≤ 140737488355328) = true := by simp; omega
    cases hc : contains (u, r) with
    | true =>
      refine ⟨1, (L_free_0_eq p0 0 _ _ _ _ _).trans ?_⟩
      simp only [lt_mid, ge0, Bool.and_self, cond_true, getD_mid, show contains ((u.1, u.2), r.1, r.2) = true from hc, List.any_cons, hc, Bool.true_or]
    | false =>
      cases ho : overlaps (u, r) with
      | true =>
        obtain ⟨f, hf⟩ := ih (near ++ [u]) (by simp; omega)
        refine ⟨f + 1, (L_free_0_eq p0 f _ _ _ _ _).trans ?_⟩
        simp only [lt_mid, ge0, Bool.and_self, cond_true, cond_false, getD_mid, show contains ((u.1, u.2), r.1, r.2) = false from hc, show overlaps ((u.1, u.2), r.1, r.2) = true from ho, dn, i64_succ u (by omega : pre.length < 4611686018427387904)]
        rw [app_mid pre u rest]
        refine hf.trans ?_
        simp [List.filter_cons, hc, ho]
      | false =>
        obtain ⟨f, hf⟩ := ih near (by simp; omega)
        refine ⟨f + 1, (L_free_0_eq p0 f _ _ _ _ _).trans ?_⟩
        simp only [lt_mid, ge0, Bool.and_self, cond_true, cond_false, getD_mid, show contains ((u.1, u.2), r.1, r.2) = false from hc, show overlaps ((u.1, u.2), r.1, r.2) = false from ho, i64_succ u (by omega : pre.length < 4611686018427387904)]
        rw [app_mid pre u rest]
        refine hf.trans ?_
        simp [List.filter_cons, hc, ho]
theorem free_pre {r : Rg} {n : Nat} (hv : valid r = true) (h : r.2.toNat < n + 1) (near : List Rg) (hn : near.length ≤ 1000) :
    (smallF ((r.1, r.2 - 1), near) && decide ((r.2 - 1).toNat < n)) = true ∧ (smallF ((r.1 + p2 (r.2 - 1), r.2 - 1), near) && decide ((r.2 - 1).toNat < n)) = true := by
  obtain ⟨h1, _⟩ := valid_elim hv
  have : (r.2 - 1).toNat < n := by omega
  simp [smallF, hn]; omega
theorem free_run (n : Nat) : ∀ a, (smallF a && decide ((fun a : Rg × List Rg => a.1.2.toNat) a < n + 1)) = true → ∃ f, M_free (fun a => smallF a && decide ((fun a : Rg × List Rg => a.1.2.toNat) a < n)) f a = some (free a) := by
  rintro ⟨r, used⟩ h
  rw [Bool.and_eq_true] at h
  obtain ⟨h1, h2⟩ := h
  have h1 : used.length ≤ 1000 := of_decide_eq_true h1
  have h2 : r.2.toNat < n + 1 := of_decide_eq_true h2
  rw [free_eq]
  cases hv : valid r with
  | false =>
    refine ⟨1, (M_free_eq _ 0 _ _).trans ?_⟩
    rw [show valid (r.1, r.2) = false from hv]; rfl
  | true =>
    obtain ⟨f, hf⟩ := free_loop (fun a => smallF a && decide ((fun a : Rg × List Rg => a.1.2.toNat) a < n)) r hv (fun near hn => free_pre hv h2 near hn) used [] [] (by simpa using h1) (by simp)
    refine ⟨f + 1, (M_free_eq _ f _ _).trans ?_⟩
    rw [show valid (r.1, r.2) = true from hv]
    simpa using hf
theorem E0_free_ok : ∀ n : Nat, (E0_free (fun a => (smallF : Rg × (List (Rg)) → Bool) a && decide ((fun a => a.1.2.toNat : Rg × (List (Rg)) → Nat) a < n))).Ok Try.prog
  | 0 => fun a hp => absurd (of_decide_eq_true (Bool.and_eq_true_iff.1 hp).2) (Nat.not_lt_zero _)
  | n + 1 => fun a hp vs hv => (free_run n a hp).elim fun f h => fnX_ok (C := C_free (fun a => (smallF : Rg × (List (Rg)) → Bool) a && decide ((fun a => a.1.2.toNat : Rg × (List (Rg)) → Nat) a < n))) (Lt := Lt_free) (fn := Try.f63) (rs := [.tmp 4]) [.g tRg, .rd tRg] [.o 41 2 tRg] mixed (es_free (E0_free_ok n)) Try.func63 rfl rfl rfl (by kernel_rfl) (by kernel_rfl) f h vs hv
noncomputable def E_free : Ent := ⟨63, [.g tRg, .rd tRg], [.o 41 2 tRg], fun a => (smallF : Rg × (List (Rg)) → Bool) a, fun a => (free : Rg × (List (Rg)) → (List (Rg))) a⟩
theorem E_free_ok : E_free.Ok Try.prog := fun a hp vs hv => E0_free_ok ((fun a => a.1.2.toNat : Rg × (List (Rg)) → Nat) a + 1) a (Bool.and_eq_true_iff.2 ⟨hp, decide_eq_true (Nat.lt_succ_self _)⟩) vs hv
end Go.AL
