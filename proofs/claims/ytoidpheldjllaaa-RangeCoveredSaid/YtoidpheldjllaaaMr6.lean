/-
  Contract of the reference's Covered. By an AI agent.
-/
import Derived.Test.YtoidpheldjllaaaMrq
namespace Go.AL
open Go.Proofs
set_option linter.unusedVariables false
set_option linter.unusedSimpArgs false
noncomputable def C_rcov : Cfg := ⟨Try.prog, [E_rvalid, E_rcont], pmT [(9, ([(0, []), (1, []), (2, []), (3, []), (4, []), (5, []), (6, []), (7, []), (8, []), (9, []), (10, []), (11, []), (12, []), (13, []), (14, []), (15, []), (16, []), (17, []), (18, []), (19, []), (20, []), (21, []), (22, []), (23, []), (24, []), (25, []), (26, [])], [(27, 53)]))], 65, []⟩
theorem es_rcov : EsOk Try.prog [E_rvalid, E_rcont] [] := es_cons E_rvalid_ok (es_cons E_rcont_ok (es_nil))
def Lt_rcov : Nat → LD := ldT [(0, ⟨[.rd 0 tRg, .c 3 (.int .i64), .c 4 (.int .i64)], []⟩), (2, ⟨[.rd 0 tRg, .c 3 (.int .i64), .c 4 (.int .i64), .c 5 (.bool), .c 6 (.int .i64)], []⟩)]
noncomputable def M_rcov (f : Nat) (a : (List (Rg))) : Option (Int) := (runX (C_rcov) Lt_rcov (Kret Try.prog [.tmp 2] [.v (.int .i64)]) f [.code (bodyOf Try.f35)] (initX [.rd tRg] a) : Option (ResT [.v (.int .i64)]))
noncomputable def L_rcov_0 (f : Nat) (x : (List (Rg)) × Int × Int) : Option (Int) := (runX (C_rcov) Lt_rcov (Kret Try.prog [.tmp 2] [.v (.int .i64)]) f (headOf Try.f35 0) ((Lt_rcov 0).mk' x) : Option (ResT [.v (.int .i64)]))
noncomputable def L_rcov_2 (f : Nat) (x : (List (Rg)) × Int × Int × Bool × Int) : Option (Int) := (runX (C_rcov) Lt_rcov (Kret Try.prog [.tmp 2] [.v (.int .i64)]) f (headOf Try.f35 2) ((Lt_rcov 2).mk' x) : Option (ResT [.v (.int .i64)]))
theorem M_rcov_eq (f : Nat) (l : List (Rg)) : M_rcov (f + 1) l =
    L_rcov_0 f (l, 0, 0) := by kernel_rfl
theorem L_rcov_0_eq (f : Nat) (l : List (Rg)) (n : Int) (i : Int) : L_rcov_0 (f + 1) (l, n, i) =
    bif decide (i < (↑l.length : Int)) then bif decide (0 ≤ i) && decide (i < (↑l.length : Int)) then L_rcov_2 f (l, n, i, valid ((l.getD i.toNat (0, 0)).1, (l.getD i.toNat (0, 0)).2), 0) else none else some n := by kernel_rfl
theorem L_rcov_2_eq (f : Nat) (l : List (Rg)) (n : Int) (i : Int) (count : Bool) (k : Int) : L_rcov_2 (f + 1) (l, n, i, count, k) =
    bif decide (k < (↑l.length : Int)) then bif count then bif decide (0 ≤ k) && decide (k < (↑l.length : Int)) then bif decide (0 ≤ i) && decide (i < (↑l.length : Int)) then bif contains (((l.getD k.toNat (0, 0)).1, (l.getD k.toNat (0, 0)).2), (l.getD i.toNat (0, 0)).1, (l.getD i.toNat (0, 0)).2) then bif decide (0 ≤ k) && decide (k < (↑l.length : Int)) then bif decide (0 ≤ i) && decide (i < (↑l.length : Int)) then bif decide ((l.getD k.toNat (0, 0)).2 > (l.getD i.toNat (0, 0)).2) then L_rcov_2 f (l, n, i, false, IntKind.i64.wrap (k + 1)) else bif decide (k < i) then L_rcov_2 f (l, n, i, false, IntKind.i64.wrap (k + 1)) else L_rcov_2 f (l, n, i, count, IntKind.i64.wrap (k + 1)) else none else none else L_rcov_2 f (l, n, i, count, IntKind.i64.wrap (k + 1)) else none else none else bif count then bif decide (0 ≤ i) && decide (i < (↑l.length : Int)) then bif decide (0 ≤ IntKind.u64.wrap (l.getD i.toNat (0, 0)).2) then L_rcov_0 f (l, IntKind.i64.wrap (n + IntKind.i64.wrap (1 * 2 ^ min (IntKind.u64.wrap (l.getD i.toNat (0, 0)).2).toNat IntKind.i64.bits)), IntKind.i64.wrap (i + 1)) else none else none else L_rcov_0 f (l, n, IntKind.i64.wrap (i + 1)) else bif count then bif decide (0 ≤ i) && decide (i < (↑l.length : Int)) then bif decide (0 ≤ IntKind.u64.wrap (l.getD i.toNat (0, 0)).2) then L_rcov_0 f (l, IntKind.i64.wrap (n + IntKind.i64.wrap (1 * 2 ^ min (IntKind.u64.wrap (l.getD i.toNat (0, 0)).2).toNat IntKind.i64.bits)), IntKind.i64.wrap (i + 1)) else none else none else L_rcov_0 f (l, n, IntKind.i64.wrap (i + 1)) := by kernel_rfl
def rcovG : List Rg → List Rg → Int
  | _, [] => 0
  | pre, x :: rest => (bif (valid x && !(pre.any (fun y => contains (y, x)) || rest.any (fun y => contains (y, x) && decide (y.2 > x.2)))) then p2 x.2 else 0) + rcovG (pre ++ [x]) rest
def len20 (l : List Rg) : Bool := decide (l.length ≤ 1048576)
def badI (x : Rg) (i : Nat) : Nat → List Rg → Bool
  | _, [] => false
  | k, y :: r => (contains (y, x) && (decide (y.2 > x.2) || decide (k < i))) || badI x i (k + 1) r
theorem badI_app (x : Rg) (i : Nat) : ∀ (p r : List Rg) (k : Nat), badI x i k (p ++ r) = (badI x i k p || badI x i (k + p.length) r)
  | [], r, k => by simp [badI]
  | y :: p, r, k => by
    have := badI_app x i p r (k + 1)
    simp only [List.cons_append, badI, this, List.length_cons, Bool.or_assoc]
    rw [show k + 1 + p.length = k + (p.length + 1) by omega]
theorem badI_lt (x : Rg) (i : Nat) : ∀ (p : List Rg) (k : Nat), k + p.length ≤ i → badI x i k p = p.any (fun y => contains (y, x))
  | [], k, h => rfl
  | y :: p, k, h => by
    simp only [List.length_cons] at h
    have := badI_lt x i p (k + 1) (by omega)
    simp only [badI, this, List.any_cons, show decide (k < i) = true from decide_eq_true (by omega), Bool.or_true, Bool.and_true]
theorem badI_ge (x : Rg) (i : Nat) : ∀ (p : List Rg) (k : Nat), i ≤ k → badI x i k p = p.any (fun y => contains (y, x) && decide (y.2 > x.2))
  | [], k, h => rfl
  | y :: p, k, h => by
    have := badI_ge x i p (k + 1) (by omega)
    simp only [badI, this, List.any_cons, show decide (k < i) = false from decide_eq_false (by omega), Bool.or_false]
theorem badI_mid (x : Rg) (p r : List Rg) : badI x p.length 0 (p ++ x :: r) = (p.any (fun y => contains (y, x)) || r.any (fun y => contains (y, x) && decide (y.2 > x.2))) := by
  rw [badI_app, badI_lt x _ p 0 (by omega)]
  simp only [badI, Nat.zero_add]
  rw [badI_ge x _ r _ (by omega)]
  simp
theorem rcov_inner (l pre : List Rg) (x : Rg) (rest : List Rg) (hl : pre ++ x :: rest = l) (hlen : l.length ≤ 1048576) (n : Int) (hn : 0 ≤ n) (hn' : n ≤ 1099511627776 * pre.length) (res : Bool → Int)
    (h0 : ∃ f, L_rcov_0 f (l, n, (((pre ++ [x]).length : Nat) : Int)) = some (res false)) (h1 : valid x = true → ∃ f, L_rcov_0 f (l, n + p2 x.2, (((pre ++ [x]).length : Nat) : Int)) = some (res true)) :
    ∀ (r p : List Rg) (count : Bool), p ++ r = l → (count = true → valid x = true) → ∃ f, L_rcov_2 f (l, n, ((pre.length : Nat) : Int), count, ((p.length : Nat) : Int)) = some (res (count && !badI x pre.length p.length r)) := by
  have hpl : pre.length < 1048576 := by rw [← hl] at hlen; simp at hlen; omega
  have gx := getD_mid pre x rest (0, 0); rw [hl] at gx
  have lx := lt_mid pre x rest; rw [hl] at lx
  have fin : ∀ count : Bool, (count = true → valid x = true) → ∃ f, (bif count then
      bif decide (0 ≤ ((pre.length : Nat) : Int)) && decide (((pre.length : Nat) : Int) < ((l.length : Nat) : Int)) then
        bif decide (0 ≤ IntKind.u64.wrap (l.getD (Int.toNat ((pre.length : Nat) : Int)) (0, 0)).snd) then
          L_rcov_0 f (l, IntKind.i64.wrap (n + IntKind.i64.wrap (1 * 2 ^ min (IntKind.u64.wrap (l.getD (Int.toNat ((pre.length : Nat) : Int)) (0, 0)).snd).toNat IntKind.i64.bits)), IntKind.i64.wrap (((pre.length : Nat) : Int) + 1))
        else none
      else none
    else L_rcov_0 f (l, n, IntKind.i64.wrap (((pre.length : Nat) : Int) + 1))) = some (res count) := by
    intro count hc
    rw [i64_succ x (by omega), gx, lx]
    cases count with
    | false => exact h0
    | true =>
      have hv := hc rfl
      obtain ⟨e1, e2, e3, e4, e5⟩ := valid_elim hv
      have hp := p2_le40 e2; have hq := p2_pos x.2
      rw [u64_id (n := x.2) (by omega) (by omega), sh1 (k := x.2) (by omega) (by omega), i64_id (n := n + p2 x.2) (by omega) (by omega)]
      have d0 : decide (0 ≤ x.2) = true := decide_eq_true (by omega)
      simp only [d0, ge0, Bool.and_self, cond_true]
      exact h1 hv
  intro r
  induction r with
  | nil =>
    intro p count hp hc
    obtain ⟨f, hf⟩ := fin count hc
    refine ⟨f + 1, (L_rcov_2_eq f _ _ _ _ _).trans ?_⟩
    have := lt_end p; rw [hp] at this
    rw [this]
    simpa [badI] using hf
  | cons y r ih =>
    intro p count hp hc
    have lk := lt_mid p y r; rw [hp] at lk
    have gk := getD_mid p y r (0, 0); rw [hp] at gk
    have hp' : p.length < 1048576 := by rw [← hp] at hlen; simp at hlen; omega
    cases count with
    | false =>
      obtain ⟨f, hf⟩ := fin false hc
      refine ⟨f + 1, (L_rcov_2_eq f _ _ _ _ _).trans ?_⟩
      rw [lk]
      exact hf
    | true =>
      obtain ⟨ft, hft⟩ := ih (p ++ [y]) true (by simpa using hp) hc
      obtain ⟨ff, hff⟩ := ih (p ++ [y]) false (by simpa using hp) (fun h => by cases h)
      have e1 : (p ++ [y]).length = p.length + 1 := by simp
      have e2 : decide (((p.length : Nat) : Int) < ((pre.length : Nat) : Int)) = decide (p.length < pre.length) := decide_eq_decide.2 (by omega)
      have bb : badI x pre.length p.length (y :: r) = ((contains (y, x) && (decide (y.2 > x.2) || decide (p.length < pre.length))) || badI x pre.length (p.length + 1) r) := rfl
      rw [e1] at hft hff
      rw [bb]
      cases hcy : contains (y, x) with
      | false =>
        refine ⟨ft + 1, (L_rcov_2_eq ft _ _ _ _ _).trans ?_⟩
        rw [gk, gx, lk, lx, show contains ((y.1, y.2), x.1, x.2) = false from hcy, i64_succ y (by omega), e1]
        simpa using hft
      | true =>
        cases hgt : decide (y.2 > x.2) with
        | true =>
          refine ⟨ff + 1, (L_rcov_2_eq ff _ _ _ _ _).trans ?_⟩
          rw [gk, gx, lk, lx, show contains ((y.1, y.2), x.1, x.2) = true from hcy, i64_succ y (by omega), e1, hgt]
          simpa using hff
        | false =>
          cases hlt : decide (p.length < pre.length) with
          | true =>
            refine ⟨ff + 1, (L_rcov_2_eq ff _ _ _ _ _).trans ?_⟩
            rw [gk, gx, lk, lx, show contains ((y.1, y.2), x.1, x.2) = true from hcy, i64_succ y (by omega), e1, hgt, e2, hlt]
            simpa using hff
          | false =>
            refine ⟨ft + 1, (L_rcov_2_eq ft _ _ _ _ _).trans ?_⟩
            rw [gk, gx, lk, lx, show contains ((y.1, y.2), x.1, x.2) = true from hcy, i64_succ y (by omega), e1, hgt, e2, hlt]
            simpa using hft
theorem rcov_outer (l : List Rg) (hlen : l.length ≤ 1048576) : ∀ (rest pre : List Rg) (n : Int), pre ++ rest = l → 0 ≤ n → n ≤ 1099511627776 * pre.length →
    ∃ f, L_rcov_0 f (l, n, ((pre.length : Nat) : Int)) = some (n + rcovG pre rest)
  | [], pre, n, hp, hn, hn' => by
    refine ⟨1, (L_rcov_0_eq 0 _ _ _).trans ?_⟩
    have := lt_end pre; rw [hp] at this
    rw [this]; simp [rcovG]
  | x :: rest, pre, n, hp, hn, hn' => by
    have e1 : (pre ++ [x]).length = pre.length + 1 := by simp
    have lx := lt_mid pre x rest; rw [hp] at lx
    have gx := getD_mid pre x rest (0, 0); rw [hp] at gx
    obtain ⟨f0, hf0⟩ := rcov_outer l hlen rest (pre ++ [x]) n (by simpa using hp) hn (by rw [e1]; omega)
    obtain ⟨f, hf⟩ := rcov_inner l pre x rest hp hlen n hn hn' (fun c => n + (bif c then p2 x.2 else 0) + rcovG (pre ++ [x]) rest) ⟨f0, by simpa using hf0⟩ (fun hv => by
      have h1 := p2_le40 (valid_elim hv).2.1; have h2 := p2_pos x.2
      exact rcov_outer l hlen rest (pre ++ [x]) (n + p2 x.2) (by simpa using hp) (by omega) (by rw [e1]; omega)) l [] (valid x) rfl (fun h => h)
    refine ⟨f + 1, (L_rcov_0_eq f _ _ _).trans ?_⟩
    rw [lx, gx]
    have bm := badI_mid x pre rest; rw [hp] at bm
    simp only [List.length_nil, bm] at hf
    simp only [ge0, Bool.and_self, cond_true]
    refine hf.trans ?_
    simp only [rcovG]
    congr 1; omega
def rcovS (l : List Rg) : Int := rcovG [] l
theorem rcov_run : ∀ a, len20 a = true → ∃ f, M_rcov f a = some (rcovS a) := by
  intro a h
  have h : a.length ≤ 1048576 := of_decide_eq_true h
  obtain ⟨f, hf⟩ := rcov_outer a h a [] 0 rfl (by omega) (by simp)
  refine ⟨f + 1, (M_rcov_eq f _).trans ?_⟩
  rw [Int.zero_add] at hf
  exact hf
noncomputable def E_rcov : Ent := ⟨35, [.rd tRg], [.v (.int .i64)], fun a => (len20 : (List (Rg)) → Bool) a, fun a => (rcovS : (List (Rg)) → Int) a⟩
theorem E_rcov_ok : E_rcov.Ok Try.prog := fun a hp vs hv => (rcov_run a hp).elim fun f h => fnX_ok (C := C_rcov) (Lt := Lt_rcov) (fn := Try.f35) (rs := [.tmp 2]) [.rd tRg] [.v (.int .i64)] mixed es_rcov Try.func35 rfl rfl rfl (by kernel_rfl) (by kernel_rfl) f h vs hv
theorem rcovG_sum : ∀ (rest pre : List Rg), (pre ++ rest).Pairwise Asc → (∀ x, x ∈ pre ++ rest → valid x = true) → rcovG pre rest = sumF rest
  | [], pre, h, hv => rfl
  | x :: rest, pre, h, hv => by
    have ih := rcovG_sum rest (pre ++ [x]) (by simpa using h) (by simpa using hv)
    have hx : valid x = true := hv x (by simp)
    have hpx := p2_pos x.2
    have h1 : pre.any (fun y => contains (y, x)) = false := by
      cases e : pre.any (fun y => contains (y, x)) with
      | false => rfl
      | true =>
        obtain ⟨y, hy, hc⟩ := List.any_eq_true.1 e
        have ha : Asc y x := (List.pairwise_append.1 h).2.2 y hy x List.mem_cons_self
        obtain ⟨_, _, c1, c2⟩ := cont_elim hc
        unfold Asc at ha; omega
    have h2 : rest.any (fun y => contains (y, x) && decide (y.2 > x.2)) = false := by
      cases e : rest.any (fun y => contains (y, x) && decide (y.2 > x.2)) with
      | false => rfl
      | true =>
        obtain ⟨y, hy, hc⟩ := List.any_eq_true.1 e
        have ha : Asc x y := (List.pairwise_cons.1 (List.pairwise_append.1 h).2.1).1 y hy
        obtain ⟨_, _, c1, c2⟩ := cont_elim (Bool.and_eq_true_iff.1 hc).1
        unfold Asc at ha; omega
    simp only [rcovG, h1, h2, hx, ih, sumF]; rfl
theorem rcov_free {r : Rg} (hr : valid r = true) (used : List Rg) : rcovS (free (r, used)) = sumF (free (r, used)) :=
  rcovG_sum _ [] (free_asc r hr used) (fun x hx => (cont_elim (free_in r hr used x hx)).2.1)
end Go.AL
