/-
  RangeAllocate returns true at every input and leaves its arguments as they were; no condition. By an AI agent.
-/
import Derived.Test.YtoidpheldjllaaaMr8
namespace Go.AL
open Go.Proofs
set_option linter.unusedVariables false
set_option linter.unusedSimpArgs false
theorem unhit_eq {k : Int} (hk : 6 ≤ k) {r : Rg} (hr : valid r = true) (used : List Rg) : unhit k r used = (free (r, used)).flatMap (blks k) := by
  by_cases h : k ≤ r.2
  · exact free_blks k hk r hr used h
  · unfold unhit
    rw [blks_lt (by omega), flat_nil]
    · rfl
    · intro f hf
      have := cont_bits (free_in r hr used f hf); omega
theorem find_head {k : Int} (hk : 6 ≤ k) {r : Rg} (hr : valid r = true) (used : List Rg) : findS (r, used, k) = headR (unhit k r used) := by
  unfold findS
  rw [bif_neg (by show ¬ k < 6; omega), findL_head, unhit_eq hk hr]
theorem blk_len : ∀ (n : Nat) (r : Rg), (blk n r).length = 2 ^ n
  | 0, r => rfl
  | n + 1, r => by simp [blk, blk_len n]; rw [Nat.pow_succ]; omega
theorem blks_len {k : Int} {r : Rg} (h : k ≤ r.2) : (((blks k r).length : Nat) : Int) = p2 (r.2 - k) := by
  rw [blks_ge h, blk_len, p2_nat]; congr 1; omega
theorem unhit_bits {k : Int} {r : Rg} {used : List Rg} (hk : 6 ≤ k) (hr : valid r = true) {y : Rg} (h : y ∈ unhit k r used) : valid y = true ∧ y.2 = k ∧ hits used y = false := by
  by_cases hkr : k ≤ r.2
  · obtain ⟨h1, h2, h3⟩ := unhit_in hk hr hkr h
    exact ⟨(cont_elim h1).2.1, h2, h3⟩
  · unfold unhit at h
    rw [blks_lt (by omega)] at h; cases h
theorem unhit_nodup {k : Int} {r : Rg} (hk : 6 ≤ k) (used : List Rg) : (unhit k r used).Pairwise (fun x y => x ≠ y) := by
  by_cases hkr : k ≤ r.2
  · unfold unhit
    rw [blks_row hk hkr]
    exact (row_nodup _ _ _).filter _
  · unfold unhit
    rw [blks_lt (by omega)]; simp
theorem hits_app (used : List Rg) (x y : Rg) : hits (used ++ [x]) y = (hits used y || overlaps (y, x)) := by simp [hits]
theorem same_apart {x y : Rg} (hx : valid x = true) (hy : valid y = true) (he : x.2 = y.2) (hne : x ≠ y) : overlaps (y, x) = false := by
  cases h : overlaps (y, x) with
  | false => rfl
  | true =>
    have h1 : contains (x, y) = true := by rw [← over_le hy hx (by omega)]; exact h
    have h2 : contains (y, x) = true := by rw [← over_le hx hy (by omega), over_symm]; exact h
    exact absurd (cont_both h1 h2) hne
theorem unhit_step {k : Int} (hk : 6 ≤ k) {r : Rg} (hr : valid r = true) {used : List Rg} {x : Rg} {t : List Rg} (h : unhit k r used = x :: t) : unhit k r (used ++ [x]) = t := by
  have e : unhit k r (used ++ [x]) = (unhit k r used).filter (fun y => !overlaps (y, x)) := by
    unfold unhit
    rw [List.filter_filter]
    apply List.filter_congr
    intro y _
    rw [hits_app, Bool.not_or, Bool.and_comm]
  have hnd := unhit_nodup (k := k) (r := r) hk used
  have hx := unhit_bits hk hr (show x ∈ unhit k r used by rw [h]; exact List.mem_cons_self)
  have ht : ∀ y, y ∈ t → (!overlaps (y, x)) = true := fun y hy => by
    have h1 := unhit_bits hk hr (show y ∈ unhit k r used by rw [h]; exact List.mem_cons_of_mem _ hy)
    rw [h] at hnd
    have h2 : x ≠ y := (List.pairwise_cons.1 hnd).1 y hy
    rw [same_apart hx.1 h1.1 (by omega) h2]; rfl
  rw [e, h, List.filter_cons, over_refl hx.1]
  exact List.filter_eq_self.2 ht
noncomputable def C_allo : Cfg := ⟨Try.prog, [E_small, E_smalls, E_place, E_copied, E_free, E_find, E_awake, E_rover], pmT [(3, ([(0, []), (3, []), (4, []), (5, []), (1, []), (2, []), (6, []), (7, [])], [(11, 11), (24, 30)])), (5, ([(0, []), (1, []), (2, []), (3, []), (4, [])], [(13, 13), (31, 34)])), (14, ([(0, []), (1, []), (3, []), (8, []), (2, []), (4, []), (5, []), (6, []), (7, []), (9, []), (10, [])], [(16, 17), (63, 70)])), (20, ([(0, []), (1, []), (2, []), (3, []), (4, []), (5, [])], [(85, 90)]))], 95⟩
theorem es_allo : EsOk Try.prog [E_small, E_smalls, E_place, E_copied, E_free, E_find, E_awake, E_rover] := es_cons E_small_ok (es_cons E_smalls_ok (es_cons E_place_ok (es_cons E_copied_ok (es_cons E_free_ok (es_cons E_find_ok (es_cons E_awake_ok (es_cons E_rover_ok (es_nil))))))))
def Lt_allo : Nat → LD := ldT [(0, ⟨[.box 9 9 23 2 tRg, .list 10 999 23 2 tRg, .c 11 (.int .i64), .c 12 (.int .i64), .list 13 998 23 2 tRg, .c 14 (.int .i64)], []⟩), (2, ⟨[.box 9 9 23 2 tRg, .list 10 999 23 2 tRg, .c 11 (.int .i64), .c 12 (.int .i64), .c 15 (.int .i64)], []⟩), (4, ⟨[.box 9 9 23 2 tRg, .list 10 999 23 2 tRg, .c 11 (.int .i64), .c 12 (.int .i64), .c 15 (.int .i64), .box 16 16 23 2 tRg, .c 18 (.int .i64)], []⟩)]
noncomputable def M_allo (f : Nat) (a : Int × Int × (List (Int)) × Int) : Option (Bool) := (runX (C_allo) Lt_allo (Kret Try.prog [.tmp 8] [.v (.bool)]) f [.code (bodyOf Try.f10)] (initX [.c (.int .i64), .c (.int .i64), .rd [.int .i64], .c (.int .i64)] a) : Option (ResT [.v (.bool)]))
noncomputable def L_allo_0 (f : Nat) (x : Rg × (List (Rg)) × Int × Int × (List (Rg)) × Int) : Option (Bool) := (runX (C_allo) Lt_allo (Kret Try.prog [.tmp 8] [.v (.bool)]) f (headOf Try.f10 0) ((Lt_allo 0).mk' x) : Option (ResT [.v (.bool)]))
noncomputable def L_allo_2 (f : Nat) (x : Rg × (List (Rg)) × Int × Int × Int) : Option (Bool) := (runX (C_allo) Lt_allo (Kret Try.prog [.tmp 8] [.v (.bool)]) f (headOf Try.f10 2) ((Lt_allo 2).mk' x) : Option (ResT [.v (.bool)]))
noncomputable def L_allo_4 (f : Nat) (x : Rg × (List (Rg)) × Int × Int × Int × Rg × Int) : Option (Bool) := (runX (C_allo) Lt_allo (Kret Try.prog [.tmp 8] [.v (.bool)]) f (headOf Try.f10 4) ((Lt_allo 4).mk' x) : Option (ResT [.v (.bool)]))
theorem M_allo_eq (f : Nat) (base : Int) (bits : Int) (l : List (Int)) (size : Int) : M_allo (f + 1) (base, bits, l, size) =
    bif Go.AL.len40 (Go.AL.smallsN 40 l) then
        bif Go.AL.smallF (((Go.AL.small (base, bits)).fst, (Go.AL.small (base, bits)).snd), Go.AL.smallsN 40 l) then
          L_allo_0 f
            (((Go.AL.small (base, bits)).fst, (Go.AL.small (base, bits)).snd), Go.AL.smallsN 40 l,
              if Go.IntKind.i64.wrap ((Go.AL.small (base, bits)).snd - 6) > Go.IntKind.i64.wrap (6 + Go.AL.place (size, 11)) then Go.IntKind.i64.wrap ((Go.AL.small (base, bits)).snd - 6) else Go.IntKind.i64.wrap (6 + Go.AL.place (size, 11)), 0,
              Go.AL.free (((Go.AL.small (base, bits)).fst, (Go.AL.small (base, bits)).snd), Go.AL.smallsN 40 l), 0)
        else Option.none
      else Option.none := by kernel_rfl
theorem L_allo_0_eq (f : Nat) (r : Rg) (used : List (Rg)) (k : Int) (want : Int) (free : List (Rg)) (i : Int) : L_allo_0 (f + 1) (r, used, k, want, free, i) =
    bif Decidable.decide (i < (↑free.length : Int)) then
        bif Decidable.decide (0 ≤ i) && Decidable.decide (i < (↑free.length : Int)) then
          bif Decidable.decide ((free.getD i.toNat (0, 0)).snd ≥ k) then
            bif Decidable.decide (0 ≤ i) && Decidable.decide (i < (↑free.length : Int)) then
              bif Decidable.decide (0 ≤ Go.IntKind.u64.wrap (Go.IntKind.i64.wrap ((free.getD i.toNat (0, 0)).snd - k))) then
                L_allo_0 f
                  ((r.fst, r.snd), used, k, Go.IntKind.i64.wrap (want + Go.IntKind.i64.wrap (1 * 2 ^ Min.min (Go.IntKind.u64.wrap (Go.IntKind.i64.wrap ((free.getD i.toNat (0, 0)).snd - k))).toNat Go.IntKind.i64.bits)), free,
                    Go.IntKind.i64.wrap (i + 1))
              else Option.none
            else Option.none
          else L_allo_0 f ((r.fst, r.snd), used, k, want, free, Go.IntKind.i64.wrap (i + 1))
        else Option.none
      else L_allo_2 f ((r.fst, r.snd), used, k, want, 0) := by kernel_rfl
theorem L_allo_2_eq (f : Nat) (r : Rg) (used : List (Rg)) (k : Int) (want : Int) (i : Int) : L_allo_2 (f + 1) (r, used, k, want, i) =
    bif Decidable.decide (i < 80) then
        bif Go.AL.len40 used then
          bif Go.AL.smallF3 ((r.fst, r.snd), used, k) then
            bif !(Go.AL.findS ((r.fst, r.snd), used, k)).snd then bif i == want then Option.some (Bool.true) else Option.some Bool.false
            else L_allo_4 f ((r.fst, r.snd), used, k, want, i, ((Go.AL.findS ((r.fst, r.snd), used, k)).fst.fst, (Go.AL.findS ((r.fst, r.snd), used, k)).fst.snd), 0)
          else Option.none
        else Option.none
      else Option.some Bool.false := by kernel_rfl
theorem L_allo_4_eq (f : Nat) (r : Rg) (used : List (Rg)) (k : Int) (want : Int) (i : Int) (x : Rg) (j : Int) : L_allo_4 (f + 1) (r, used, k, want, i, x, j) =
    bif Decidable.decide (j < (↑used.length : Int)) then
        bif Decidable.decide (0 ≤ j) && Decidable.decide (j < (↑used.length : Int)) then
          bif Go.AL.overlaps ((x.fst, x.snd), (used.getD j.toNat (0, 0)).fst, (used.getD j.toNat (0, 0)).snd) then Option.some Bool.false else L_allo_4 f ((r.fst, r.snd), used, k, want, i, (x.fst, x.snd), Go.IntKind.i64.wrap (j + 1))
        else Option.none
      else bif Decidable.decide ((used.length + [(x.fst, x.snd)].length) * 16 ≤ 140737488355328) then L_allo_2 f ((r.fst, r.snd), used ++ [(x.fst, x.snd)], k, want, Go.IntKind.i64.wrap (i + 1)) else Option.none := by kernel_rfl
theorem allo_4 (r : Rg) (k want : Int) (i : Int) (x : Rg) (used : List Rg) (hu : used.length ≤ 1000) (hx : hits used x = false) (h0 : ∃ f, L_allo_2 f (r, used ++ [x], k, want, IntKind.i64.wrap (i + 1)) = some true) :
    ∀ (rest pre : List Rg), pre ++ rest = used → ∃ f, L_allo_4 f (r, used, k, want, i, x, ((pre.length : Nat) : Int)) = some true
  | [], pre, hp => by
    obtain ⟨f, hf⟩ := h0
    refine ⟨f + 1, (L_allo_4_eq f _ _ _ _ _ _ _).trans ?_⟩
    have := lt_end pre; rw [hp] at this
    rw [this, cond_false, bif_pos (by simp; omega)]; exact hf
  | u :: rest, pre, hp => by
    have lk := lt_mid pre u rest; rw [hp] at lk
    have gk := getD_mid pre u rest (0, 0); rw [hp] at gk
    have hpl : pre.length < 1000 := by rw [← hp] at hu; simp at hu; omega
    have e := i64_succ (l := pre) u (by omega)
    have ho : overlaps (x, u) = false := by
      cases h : overlaps (x, u) with
      | false => rfl
      | true =>
        have : hits used x = true := List.any_eq_true.2 ⟨u, by rw [← hp]; simp, h⟩
        rw [hx] at this; cases this
    obtain ⟨f, hf⟩ := allo_4 r k want i x used hu hx h0 rest (pre ++ [u]) (by simpa using hp)
    refine ⟨f + 1, (L_allo_4_eq f _ _ _ _ _ _ _).trans ?_⟩
    rw [lk, e, gk, ge0, show overlaps ((x.1, x.2), u.1, u.2) = false from ho]; exact hf
theorem allo_2 (r : Rg) (hr : valid r = true) (k : Int) (hk : 6 ≤ k) (want : Int) (hw : want ≤ 64) :
    ∀ (un : List Rg) (used : List Rg) (i : Nat), unhit k r used = un → (i : Int) + un.length = want → used.length ≤ 40 + i → ∃ f, L_allo_2 f (r, used, k, want, (i : Int)) = some true
  | [], used, i, hun, hi, hl => by
    refine ⟨1, (L_allo_2_eq 0 _ _ _ _ _).trans ?_⟩
    simp only [List.length_nil] at hi
    have c1 : len40 used = true := decide_eq_true (by omega)
    have c2 : ∀ x y, smallF3 (x, used, y) = true := fun x y => decide_eq_true (by show used.length ≤ 1000; omega)
    have c3 : decide ((i : Int) < 80) = true := decide_eq_true (by omega)
    have c4 : (((i : Nat) : Int) == want) = true := by simp; omega
    rw [c1, c2, c3, find_head hk (show valid (r.1, r.2) = true from hr), show unhit k (r.1, r.2) used = [] from hun, c4]; rfl
  | x :: t, used, i, hun, hi, hl => by
    simp only [List.length_cons] at hi
    have c1 : len40 used = true := decide_eq_true (by omega)
    have c2 : ∀ x y, smallF3 (x, used, y) = true := fun x y => decide_eq_true (by show used.length ≤ 1000; omega)
    have c3 : decide ((i : Int) < 80) = true := decide_eq_true (by omega)
    have hx := unhit_bits hk hr (show x ∈ unhit k r used by rw [hun]; exact List.mem_cons_self)
    have ih := allo_2 r hr k hk want hw t (used ++ [x]) (i + 1) (unhit_step hk hr hun) (by omega) (by simp; omega)
    obtain ⟨f, hf⟩ := allo_4 r k want i x used (by omega) hx.2.2 (by rw [i64_id (by omega) (by omega)]; exact ih) used [] rfl
    refine ⟨f + 1, (L_allo_2_eq f _ _ _ _ _).trans ?_⟩
    rw [c1, c2, c3, find_head hk (show valid (r.1, r.2) = true from hr), show unhit k (r.1, r.2) used = x :: t from hun]; exact hf
theorem allo_0 (r : Rg) (used : List Rg) (k : Int) (hk : 0 ≤ k) (fr : List Rg) (hfl : fr.length ≤ 1099511627776) (hv : ∀ x, x ∈ fr → valid x = true) :
    ∀ (rest pre : List Rg) (want : Int), pre ++ rest = fr → 0 ≤ want → want + ((rest.flatMap (blks k)).length : Nat) ≤ 64 → (∃ f, L_allo_2 f (r, used, k, want + ((rest.flatMap (blks k)).length : Nat), 0) = some true) →
      ∃ f, L_allo_0 f (r, used, k, want, fr, ((pre.length : Nat) : Int)) = some true
  | [], pre, want, hp, h0, h1, h2 => by
    obtain ⟨f, hf⟩ := h2
    refine ⟨f + 1, (L_allo_0_eq f _ _ _ _ _ _).trans ?_⟩
    have := lt_end pre; rw [hp] at this
    rw [this]
    simpa using hf
  | x :: rest, pre, want, hp, h0, h1, h2 => by
    have lk := lt_mid pre x rest; rw [hp] at lk
    have gk := getD_mid pre x rest (0, 0); rw [hp] at gk
    have hpl : pre.length < 1099511627776 := by rw [← hp] at hfl; simp at hfl; omega
    have e := i64_succ (l := pre) x (by omega)
    obtain ⟨e1, e2, e3, e4, e5⟩ := valid_elim (hv x (by rw [← hp]; simp))
    rw [List.flatMap_cons, List.length_append] at h1 h2
    by_cases hkx : k ≤ x.2
    · have hb := blks_len hkx
      have hq := p2_pos (x.2 - k)
      have eq : want + (((blks k x).length + (rest.flatMap (blks k)).length : Nat) : Int) = want + p2 (x.2 - k) + ((rest.flatMap (blks k)).length : Nat) := by omega
      rw [eq] at h1 h2
      obtain ⟨f, hf⟩ := allo_0 r used k hk fr hfl hv rest (pre ++ [x]) (want + p2 (x.2 - k)) (by simpa using hp) (by omega) h1 h2
      refine ⟨f + 1, (L_allo_0_eq f _ _ _ _ _ _).trans ?_⟩
      rw [lk, gk, ge0, e, i64_id (n := x.2 - k) (by omega) (by omega), u64_id (n := x.2 - k) (by omega) (by omega), sh1 (k := x.2 - k) (by omega) (by omega), i64_id (n := want + p2 (x.2 - k)) (by omega) (by omega), show decide (x.2 ≥ k) = true from decide_eq_true hkx, show decide (0 ≤ x.2 - k) = true from decide_eq_true (by omega)]
      exact hf
    · rw [blks_lt (by omega)] at h1 h2
      simp only [List.length_nil, Nat.zero_add] at h1 h2
      obtain ⟨f, hf⟩ := allo_0 r used k hk fr hfl hv rest (pre ++ [x]) want (by simpa using hp) h0 h1 h2
      refine ⟨f + 1, (L_allo_0_eq f _ _ _ _ _ _).trans ?_⟩
      rw [lk, gk, ge0, e, show decide (x.2 ≥ k) = false from decide_eq_false hkx]
      exact hf
theorem allo_true : ∀ a : Int × Int × List Int × Int, ArgsW [.c (.int .i64), .c (.int .i64), .rd [.int .i64], .c (.int .i64)] a → ∃ f, M_allo f a = some true := by
  rintro ⟨base, bits, l, size⟩ h
  have hr := small_valid (base, bits)
  have hb := small_bits (base, bits)
  have hu := smalls_len 40 l
  have hpl := place_range size (s := 11) (by omega)
  have key : ∀ k : Int, 6 ≤ k → (small (base, bits)).2 - 6 ≤ k → ∃ f, L_allo_0 f (small (base, bits), smallsN 40 l, k, 0, free (small (base, bits), smallsN 40 l), 0) = some true := by
    intro k hk hk'
    generalize small (base, bits) = r at *
    generalize smallsN 40 l = used at *
    have hlen : (unhit k r used).length ≤ 64 := by
      by_cases hkr : k ≤ r.2
      · have h1 : (unhit k r used).length ≤ (blks k r).length := List.length_filter_le _ _
        have h2 := blks_len hkr
        have h3 := p2_mono (show r.2 - k ≤ 6 by omega)
        rw [show p2 6 = 64 from by decide] at h3
        omega
      · unfold unhit
        rw [blks_lt (by omega)]; simp
    refine allo_0 r used k (by omega) _ (free_len _) (fun x hx => (cont_elim (free_in r hr used x hx)).2.1) (free (r, used)) [] 0 rfl (Int.le_refl _) ?_ ?_
    · rw [← unhit_eq hk hr]; omega
    · rw [← unhit_eq hk hr]
      exact allo_2 r hr k hk _ (by omega) _ used 0 rfl (by omega) (by omega)
  have c1 : len40 (smallsN 40 l) = true := decide_eq_true (by omega)
  have c2 : ∀ x, smallF (x, smallsN 40 l) = true := fun x => decide_eq_true (by show (smallsN 40 l).length ≤ 1000; omega)
  have hv := valid_elim hr
  by_cases hgt : (small (base, bits)).2 - 6 > 6 + place (size, 11)
  · obtain ⟨f, hf⟩ := key ((small (base, bits)).2 - 6) (by omega) (by omega)
    refine ⟨f + 1, (M_allo_eq f _ _ _ _).trans ?_⟩
    rw [i64_id (n := 6 + place (size, 11)) (by omega) (by omega), i64_id (n := (small (base, bits)).2 - 6) (by omega) (by omega), if_pos hgt, c1, c2]
    exact hf
  · obtain ⟨f, hf⟩ := key (6 + place (size, 11)) (by omega) (by omega)
    refine ⟨f + 1, (M_allo_eq f _ _ _ _).trans ?_⟩
    rw [i64_id (n := 6 + place (size, 11)) (by omega) (by omega), i64_id (n := (small (base, bits)).2 - 6) (by omega) (by omega), if_neg hgt, c1, c2]
    exact hf
theorem allo_law : ∀ a : ArgT [.c (.int .i64), .c (.int .i64), .rd [.int .i64], .c (.int .i64)], ArgsW [.c (.int .i64), .c (.int .i64), .rd [.int .i64], .c (.int .i64)] a → ∀ vs, ArgsV [.c (.int .i64), .c (.int .i64), .rd [.int .i64], .c (.int .i64)] a vs → FnP Try.prog 10 vs (RessV [.v .bool] (true : Bool)) :=
  fun a hw vs hv => (allo_true a hw).elim fun f h => fnX_ok (C := C_allo) (Lt := Lt_allo) (fn := Try.f10) (rs := [.tmp 8]) [.c (.int .i64), .c (.int .i64), .rd [.int .i64], .c (.int .i64)] [.v (.bool)] mixed es_allo Try.func10 rfl rfl rfl (by kernel_rfl) (by kernel_rfl) f h vs hv
end Go.AL
namespace Go.Proofs.Ytoidpheldjllaaa
open Go.ChangeShapes Go.WideShapes Go.ChangeAt Go.RowKit Go.AL
set_option maxRecDepth 100000 in
theorem rangeAllocate_lifted (os : Os) (started : os.Started) (H : Type) (enc : TypeId × Value → H) :
    ReturnsInHanded {} Try.checked os 10 .any (Rows.rangeAllocateSpec.pre6 enc Try.prog Try.f10 Rows.rangeAllocateRow.domain false) (Rows.rangeAllocateSpec.post enc Try.prog Try.f10 false true false false) := by
  refine returnsInHanded_of_change (C := Try.checked) Try.own started (by kernel_rfl) Try.func10
    (ChangeSpec.witness6 (enc := enc) (C := Try.checked) false ⟨#[], #[.int .i64 0, .int .i64 0, .slice none 0 0, .int .i64 0], []⟩ 8 (by kernel_rfl) (by kernel_rfl) (by kernel_rfl) (by kernel_rfl)) ?_
  intro W base args ds gs before hval hW hcnd _
  refine law_calls (P := Try.prog) (pts := [3, 3, 40, 3]) (tb := 4) [.c (.int .i64), .c (.int .i64), .rd [.int .i64], .c (.int .i64)] (by kernel_rfl) (by kernel_rfl) Try.laidOut (by kernel_rfl) (by kernel_rfl) (by kernel_rfl) rfl ?_ allo_law W base args ds gs before hval hW
  intro ds hds
  match ds, hds with
  | [d0, d1, d2, d3], _ => exact ⟨rfl, rfl, rfl⟩
theorem rangeAllocate_holds : Rows.RangeAllocateSaid :=
  OpenClaim.holds_of_wide 10 Try.f10 rfl rfl rfl rfl rfl rfl rfl ⟨rfl, rfl, rfl, rfl, rfl⟩ rfl rfl rfl rfl rfl (by kernel_rfl) Try.func10 (by kernel_rfl)
    (of_decide_eq_true (by kernel_rfl)) (by unfold Func.isWrapper; first | (rw [if_pos (by decide +kernel)]; kernel_rfl) | (rw [if_neg (by decide +kernel)]; exact ⟨rfl, rfl⟩))
    (fun os started H enc _ => rangeAllocate_lifted os started H enc)
end Go.Proofs.Ytoidpheldjllaaa
namespace Go.AL
open Go.Proofs
set_option linter.unusedVariables false
set_option linter.unusedSimpArgs false
end Go.AL
