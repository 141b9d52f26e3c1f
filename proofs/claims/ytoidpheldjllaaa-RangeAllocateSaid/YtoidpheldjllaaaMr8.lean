/-
  RangeLowest and RangeAllocate return true at every input and leave their arguments as they were; no condition. By an AI agent.
-/
import Derived.Test.YtoidpheldjllaaaMrb
namespace Go.AL
open Go.Proofs
set_option linter.unusedVariables false
set_option linter.unusedSimpArgs false
/-- The blocks of one size that are free. -/
def unhit (k : Int) (r : Rg) (used : List Rg) : List Rg := (blks k r).filter (fun y => !hits used y)
def headR : List Rg → Rg × Bool
  | [] => ((0, 0), false)
  | y :: _ => (y, true)
theorem blk_head : ∀ (n : Nat) (r : Rg), ∃ t, blk n r = (r.1, r.2 - n) :: t
  | 0, r => ⟨[], by simp [blk]⟩
  | n + 1, r => by
    obtain ⟨t, h⟩ := blk_head n (lowH r)
    refine ⟨t ++ blk n (highH r), ?_⟩
    rw [blk, h]
    simp only [lowH, List.cons_append]
    rw [show r.2 - 1 - (n : Int) = r.2 - ((n + 1 : Nat) : Int) by omega]
theorem findL_head (k : Int) : ∀ l : List Rg, findL k l = headR (l.flatMap (blks k))
  | [] => rfl
  | x :: l => by
    by_cases h : k ≤ x.2
    · obtain ⟨t, ht⟩ := blk_head (x.2 - k).toNat x
      rw [show x.2 - ((x.2 - k).toNat : Int) = k by omega] at ht
      rw [findL, bif_pos h, List.flatMap_cons, blks_ge h, ht]; rfl
    · rw [findL, bif_neg h, List.flatMap_cons, blks_lt (by omega), List.nil_append, findL_head k l]
theorem find_unhit {k : Int} (hk : 6 ≤ k) {r : Rg} (hr : valid r = true) (hkr : k ≤ r.2) (used : List Rg) : findS (r, used, k) = headR (unhit k r used) := by
  unfold findS unhit
  rw [bif_neg (by show ¬ k < 6; omega), findL_head, free_blks k hk r hr used hkr]
theorem find_none {k : Int} {r : Rg} (hr : valid r = true) (hkr : r.2 < k) (used : List Rg) : (findS (r, used, k)).2 = false := by
  unfold findS
  by_cases h6 : k < 6
  · rw [bif_pos h6]
  · rw [bif_neg h6, findL_head, flat_nil]
    · rfl
    · intro f hf
      have := cont_bits (free_in r hr used f hf)
      show f.2 < k; omega
theorem unhit_in {k : Int} (hk : 6 ≤ k) {r : Rg} (hr : valid r = true) (hkr : k ≤ r.2) {used : List Rg} {y : Rg} (h : y ∈ unhit k r used) : contains (r, y) = true ∧ y.2 = k ∧ hits used y = false := by
  obtain ⟨h1, h2⟩ := List.mem_filter.1 h
  rw [blks_ge hkr] at h1
  refine ⟨blk_in _ r hr (by omega) y h1, ?_, by simpa using h2⟩
  rw [blk_row _ _ (by omega)] at h1
  have := (row_ge _ _ _ _ h1).2
  omega
noncomputable def C_lowe : Cfg := ⟨Try.prog, [E_small, E_smalls, E_place, E_copied, E_find, E_awake, E_rcont, E_rend, E_rover], pmT [(4, ([(0, []), (1, []), (3, []), (8, []), (2, []), (4, []), (5, []), (6, []), (7, []), (9, []), (10, [])], [(12, 13), (26, 33)])), (17, ([(0, []), (1, []), (2, []), (3, []), (4, []), (5, []), (6, []), (7, []), (8, []), (9, [])], [(16, 16), (76, 84)]))], 103⟩
theorem es_lowe : EsOk Try.prog [E_small, E_smalls, E_place, E_copied, E_find, E_awake, E_rcont, E_rend, E_rover] := es_cons E_small_ok (es_cons E_smalls_ok (es_cons E_place_ok (es_cons E_copied_ok (es_cons E_find_ok (es_cons E_awake_ok (es_cons E_rcont_ok (es_cons E_rend_ok (es_cons E_rover_ok (es_nil)))))))))
def Lt_lowe : Nat → LD := ldT [(0, ⟨[.box 9 9 23 2 tRg, .list 10 999 23 2 tRg, .c 11 (.int .i64), .box 12 12 23 2 tRg, .c 13 (.bool), .c 14 (.int .i64)], []⟩), (2, ⟨[.box 9 9 23 2 tRg, .list 10 999 23 2 tRg, .c 11 (.int .i64), .box 12 12 23 2 tRg, .c 13 (.bool), .c 14 (.int .i64), .box 15 15 23 2 tRg, .c 16 (.bool), .c 17 (.int .i64)], []⟩)]
noncomputable def M_lowe (f : Nat) (a : Int × Int × (List (Int)) × Int) : Option (Bool) := (runX (C_lowe) Lt_lowe (Kret Try.prog [.tmp 8] [.v (.bool)]) f [.code (bodyOf Try.f9)] (initX [.c (.int .i64), .c (.int .i64), .rd [.int .i64], .c (.int .i64)] a) : Option (ResT [.v (.bool)]))
noncomputable def L_lowe_0 (f : Nat) (x : Rg × (List (Rg)) × Int × Rg × Bool × Int) : Option (Bool) := (runX (C_lowe) Lt_lowe (Kret Try.prog [.tmp 8] [.v (.bool)]) f (headOf Try.f9 0) ((Lt_lowe 0).mk' x) : Option (ResT [.v (.bool)]))
noncomputable def L_lowe_2 (f : Nat) (x : Rg × (List (Rg)) × Int × Rg × Bool × Int × Rg × Bool × Int) : Option (Bool) := (runX (C_lowe) Lt_lowe (Kret Try.prog [.tmp 8] [.v (.bool)]) f (headOf Try.f9 2) ((Lt_lowe 2).mk' x) : Option (ResT [.v (.bool)]))
theorem M_lowe_eq (f : Nat) (base : Int) (bits : Int) (l : List (Int)) (size : Int) : M_lowe (f + 1) (base, bits, l, size) =
    bif Go.AL.len40 (Go.AL.smallsN 40 l) then
        bif Go.AL.smallF3 (((Go.AL.small (base, bits)).fst, (Go.AL.small (base, bits)).snd), Go.AL.smallsN 40 l, Go.IntKind.i64.wrap (6 + Go.AL.place (size, 11))) then
          bif Decidable.decide (Go.IntKind.i64.wrap (6 + Go.AL.place (size, 11)) > (Go.AL.small (base, bits)).snd) then
            bif !(Go.AL.findS (((Go.AL.small (base, bits)).fst, (Go.AL.small (base, bits)).snd), Go.AL.smallsN 40 l, Go.IntKind.i64.wrap (6 + Go.AL.place (size, 11)))).snd then Option.some (Bool.true) else Option.some Bool.false
          else
            bif (Go.AL.findS (((Go.AL.small (base, bits)).fst, (Go.AL.small (base, bits)).snd), Go.AL.smallsN 40 l, Go.IntKind.i64.wrap (6 + Go.AL.place (size, 11)))).snd then
              bif (Go.AL.findS (((Go.AL.small (base, bits)).fst, (Go.AL.small (base, bits)).snd), Go.AL.smallsN 40 l, Go.IntKind.i64.wrap (6 + Go.AL.place (size, 11)))).fst.snd != Go.IntKind.i64.wrap (6 + Go.AL.place (size, 11)) then
                Option.some Bool.false
              else
                bif
                    !Go.AL.contains
                        (((Go.AL.small (base, bits)).fst, (Go.AL.small (base, bits)).snd),
                          (Go.AL.findS (((Go.AL.small (base, bits)).fst, (Go.AL.small (base, bits)).snd), Go.AL.smallsN 40 l, Go.IntKind.i64.wrap (6 + Go.AL.place (size, 11)))).fst.fst,
                          (Go.AL.findS (((Go.AL.small (base, bits)).fst, (Go.AL.small (base, bits)).snd), Go.AL.smallsN 40 l, Go.IntKind.i64.wrap (6 + Go.AL.place (size, 11)))).fst.snd) then
                  Option.some Bool.false
                else
                  L_lowe_0 f
                    (((Go.AL.small (base, bits)).fst, (Go.AL.small (base, bits)).snd), Go.AL.smallsN 40 l, Go.IntKind.i64.wrap (6 + Go.AL.place (size, 11)),
                      ((Go.AL.findS (((Go.AL.small (base, bits)).fst, (Go.AL.small (base, bits)).snd), Go.AL.smallsN 40 l, Go.IntKind.i64.wrap (6 + Go.AL.place (size, 11)))).fst.fst,
                        (Go.AL.findS (((Go.AL.small (base, bits)).fst, (Go.AL.small (base, bits)).snd), Go.AL.smallsN 40 l, Go.IntKind.i64.wrap (6 + Go.AL.place (size, 11)))).fst.snd),
                      (Go.AL.findS (((Go.AL.small (base, bits)).fst, (Go.AL.small (base, bits)).snd), Go.AL.smallsN 40 l, Go.IntKind.i64.wrap (6 + Go.AL.place (size, 11)))).snd, (Go.AL.small (base, bits)).fst)
            else
              L_lowe_0 f
                (((Go.AL.small (base, bits)).fst, (Go.AL.small (base, bits)).snd), Go.AL.smallsN 40 l, Go.IntKind.i64.wrap (6 + Go.AL.place (size, 11)),
                  ((Go.AL.findS (((Go.AL.small (base, bits)).fst, (Go.AL.small (base, bits)).snd), Go.AL.smallsN 40 l, Go.IntKind.i64.wrap (6 + Go.AL.place (size, 11)))).fst.fst,
                    (Go.AL.findS (((Go.AL.small (base, bits)).fst, (Go.AL.small (base, bits)).snd), Go.AL.smallsN 40 l, Go.IntKind.i64.wrap (6 + Go.AL.place (size, 11)))).fst.snd),
                  (Go.AL.findS (((Go.AL.small (base, bits)).fst, (Go.AL.small (base, bits)).snd), Go.AL.smallsN 40 l, Go.IntKind.i64.wrap (6 + Go.AL.place (size, 11)))).snd, (Go.AL.small (base, bits)).fst)
        else Option.none
      else Option.none := by kernel_rfl
theorem L_lowe_0_eq (f : Nat) (r : Rg) (used : List (Rg)) (k : Int) (x : Rg) (ok : Bool) (b : Int) : L_lowe_0 (f + 1) (r, used, k, x, ok, b) =
    bif Decidable.decide (b < Go.AL.rend (r.fst, r.snd)) then L_lowe_2 f ((r.fst, r.snd), used, k, (x.fst, x.snd), ok, b, (b, k), Bool.false, 0) else bif !ok then Option.some (Bool.true) else Option.some Bool.false := by kernel_rfl
theorem L_lowe_2_eq (f : Nat) (r : Rg) (used : List (Rg)) (k : Int) (x : Rg) (ok : Bool) (b : Int) (y : Rg) (hit : Bool) (i : Int) : L_lowe_2 (f + 1) (r, used, k, x, ok, b, y, hit, i) =
    bif Decidable.decide (i < (↑used.length : Int)) then
        bif hit then L_lowe_2 f ((r.fst, r.snd), used, k, (x.fst, x.snd), ok, b, (y.fst, y.snd), Bool.true, Go.IntKind.i64.wrap (i + 1))
        else
          bif Decidable.decide (0 ≤ i) && Decidable.decide (i < (↑used.length : Int)) then
            L_lowe_2 f ((r.fst, r.snd), used, k, (x.fst, x.snd), ok, b, (y.fst, y.snd), Go.AL.overlaps ((y.fst, y.snd), (used.getD i.toNat (0, 0)).fst, (used.getD i.toNat (0, 0)).snd), Go.IntKind.i64.wrap (i + 1))
          else Option.none
      else
        bif ok then
          bif y.fst == x.fst && (y.snd == x.snd && Bool.true) then bif !hit then Option.some (Bool.true) else Option.some Bool.false
          else
            bif !hit then Option.some Bool.false
            else
              bif Decidable.decide (0 ≤ Go.IntKind.u64.wrap k) then L_lowe_0 f ((r.fst, r.snd), used, k, (x.fst, x.snd), ok, Go.IntKind.i64.wrap (b + Go.IntKind.i64.wrap (1 * 2 ^ Min.min (Go.IntKind.u64.wrap k).toNat Go.IntKind.i64.bits)))
              else Option.none
        else
          bif !hit then Option.some Bool.false
          else
            bif Decidable.decide (0 ≤ Go.IntKind.u64.wrap k) then L_lowe_0 f ((r.fst, r.snd), used, k, (x.fst, x.snd), ok, Go.IntKind.i64.wrap (b + Go.IntKind.i64.wrap (1 * 2 ^ Min.min (Go.IntKind.u64.wrap k).toNat Go.IntKind.i64.bits)))
            else Option.none := by kernel_rfl
/-- One block's turn: the loop over the used ranges, then what follows. -/
theorem lowe_inner (r : Rg) (used : List Rg) (hu : used.length ≤ 1000) (k : Int) (x : Rg) (ok : Bool) (b : Int) (y : Rg) (res : Bool → Bool)
    (hend : ∀ h : Bool, ∃ f, (bif ok then
      bif y.1 == x.1 && (y.2 == x.2 && true) then bif !h then some true else some false
      else
        bif !h then some false
        else
          bif decide (0 ≤ IntKind.u64.wrap k) then L_lowe_0 f (r, used, k, x, ok, IntKind.i64.wrap (b + IntKind.i64.wrap (1 * 2 ^ min (IntKind.u64.wrap k).toNat IntKind.i64.bits)))
          else none
    else
      bif !h then some false
      else
        bif decide (0 ≤ IntKind.u64.wrap k) then L_lowe_0 f (r, used, k, x, ok, IntKind.i64.wrap (b + IntKind.i64.wrap (1 * 2 ^ min (IntKind.u64.wrap k).toNat IntKind.i64.bits)))
        else none) = some (res h)) :
    ∀ (rest pre : List Rg) (hit : Bool), pre ++ rest = used → ∃ f, L_lowe_2 f (r, used, k, x, ok, b, y, hit, ((pre.length : Nat) : Int)) = some (res (hit || hits rest y))
  | [], pre, hit, hp => by
    obtain ⟨f, hf⟩ := hend hit
    refine ⟨f + 1, (L_lowe_2_eq f _ _ _ _ _ _ _ _ _).trans ?_⟩
    have := lt_end pre; rw [hp] at this
    rw [this]
    simpa [hits] using hf
  | u :: rest, pre, hit, hp => by
    have lk := lt_mid pre u rest; rw [hp] at lk
    have gk := getD_mid pre u rest (0, 0); rw [hp] at gk
    have hpl : pre.length < 1000 := by rw [← hp] at hu; simp at hu; omega
    have e := i64_succ (l := pre) u (by omega)
    have eh : hits (u :: rest) y = (overlaps (y, u) || hits rest y) := rfl
    cases hit with
    | true =>
      obtain ⟨f, hf⟩ := lowe_inner r used hu k x ok b y res hend rest (pre ++ [u]) true (by simpa using hp)
      refine ⟨f + 1, (L_lowe_2_eq f _ _ _ _ _ _ _ _ _).trans ?_⟩
      rw [lk, e]; exact hf
    | false =>
      obtain ⟨f, hf⟩ := lowe_inner r used hu k x ok b y res hend rest (pre ++ [u]) (overlaps (y, u)) (by simpa using hp)
      refine ⟨f + 1, (L_lowe_2_eq f _ _ _ _ _ _ _ _ _).trans ?_⟩
      rw [lk, e, gk, ge0, eh]; exact hf
theorem lowe_outer (r : Rg) (hr : valid r = true) (used : List Rg) (hu : used.length ≤ 1000) (k : Int) (hk : 6 ≤ k) (hk' : k ≤ 40) (x : Rg) (ok : Bool) :
    ∀ (m : Nat) (b : Int), 0 ≤ b → b + m * p2 k = r.1 + p2 r.2 → ((row k m b).filter (fun y => !hits used y) = [] → ok = false) → (∀ z t, (row k m b).filter (fun y => !hits used y) = z :: t → ok = true ∧ x = z) →
      ∃ f, L_lowe_0 f (r, used, k, x, ok, b) = some true
  | 0, b, hb, hm, h0, h1 => by
    refine ⟨1, (L_lowe_0_eq 0 _ _ _ _ _ _).trans ?_⟩
    have : decide (b < rend (r.1, r.2)) = false := decide_eq_false (by
      have : rend (r.1, r.2) = r.1 + p2 r.2 := by simp [rend, show valid (r.1, r.2) = true from hr]
      simp at hm; omega)
    rw [this, h0 rfl]; rfl
  | m + 1, b, hb, hm, h0, h1 => by
    have hp := p2_pos k
    have hv := valid_elim hr
    have e : ((m + 1 : Nat) : Int) * p2 k = m * p2 k + p2 k := by rw [show ((m + 1 : Nat) : Int) = (m : Int) + 1 by omega, Int.add_mul, Int.one_mul]
    have hm0 : 0 ≤ (m : Int) * p2 k := Int.mul_nonneg (by omega) (by omega)
    have hlt : decide (b < rend (r.1, r.2)) = true := decide_eq_true (by
      have : rend (r.1, r.2) = r.1 + p2 r.2 := by simp [rend, show valid (r.1, r.2) = true from hr]
      omega)
    have hrow : row k (m + 1) b = (b, k) :: row k m (b + p2 k) := rfl
    have next : hits used (b, k) = true → ∃ f, L_lowe_0 f (r, used, k, x, ok, b + p2 k) = some true := fun hh => by
      have ef : (row k (m + 1) b).filter (fun y => !hits used y) = (row k m (b + p2 k)).filter (fun y => !hits used y) := by
        rw [hrow, List.filter_cons, hh]; rfl
      rw [ef] at h0 h1
      exact lowe_outer r hr used hu k hk hk' x ok m (b + p2 k) (by omega) (by omega) h0 h1
    have uh : hits used (b, k) = false → ok = true ∧ x = (b, k) := fun hh => by
      refine h1 (b, k) ((row k m (b + p2 k)).filter (fun y => !hits used y)) ?_
      rw [hrow, List.filter_cons, hh]; rfl
    have hne : hits used (b, k) = true → ok = true → ((b, k).1 == x.1 && ((b, k).2 == x.2 && true)) = false := fun hh hok => by
      cases ee : ((b, k).1 == x.1 && ((b, k).2 == x.2 && true)) with
      | false => rfl
      | true =>
        simp only [Bool.and_true, Bool.and_eq_true, beq_iff_eq] at ee
        have hx : x = (b, k) := Prod.ext ee.1.symm ee.2.symm
        have ef : (row k (m + 1) b).filter (fun y => !hits used y) = (row k m (b + p2 k)).filter (fun y => !hits used y) := by
          rw [hrow, List.filter_cons, hh]; rfl
        cases el : (row k m (b + p2 k)).filter (fun y => !hits used y) with
        | nil => rw [ef] at h0; rw [h0 el] at hok; cases hok
        | cons z t =>
          have := (h1 z t (by rw [ef, el])).2
          have hz : z ∈ row k m (b + p2 k) := (List.mem_filter.1 (by rw [el]; exact List.mem_cons_self)).1
          have := (row_ge k m _ z hz).1
          rw [← ‹x = z›, hx] at this; simp only at this; omega
    have hnw : IntKind.i64.wrap (b + IntKind.i64.wrap (1 * 2 ^ min (IntKind.u64.wrap k).toNat IntKind.i64.bits)) = b + p2 k := by
      have := p2_le40 hk'
      rw [u64_id (n := k) (by omega) (by omega), sh1 (k := k) (by omega) (by omega), i64_id (by omega) (by omega)]
    have hk0 : decide (0 ≤ IntKind.u64.wrap k) = true := decide_eq_true (u64_nn k)
    have key : ∃ f, L_lowe_2 f (r, used, k, x, ok, b, (b, k), false, ((([] : List Rg).length : Nat) : Int)) = some true := by
      cases hh : hits used (b, k) with
      | true =>
        obtain ⟨f, hf⟩ := next hh
        have hx := hne hh
        refine Exists.elim (lowe_inner r used hu k x ok b (b, k) (fun h => h) ?_ used [] false rfl) fun g hg => ⟨g, by rw [hg, hh]; rfl⟩
        intro h
        refine ⟨f, ?_⟩
        rw [hnw, hk0]
        cases ok with
        | true => rw [hx rfl]; cases h <;> simp [hf]
        | false => cases h <;> simp [hf]
      | false =>
        obtain ⟨hok, hx⟩ := uh hh
        refine Exists.elim (lowe_inner r used hu k x ok b (b, k) (fun h => !h) ?_ used [] false rfl) fun g hg => ⟨g, by rw [hg, hh]; rfl⟩
        intro h
        refine ⟨0, ?_⟩
        rw [hok, hx]
        cases h <;> simp
    obtain ⟨f, hf⟩ := key
    refine ⟨f + 1, (L_lowe_0_eq f _ _ _ _ _ _).trans ?_⟩
    rw [hlt]; exact hf
theorem blks_row {k : Int} {r : Rg} (hk : 6 ≤ k) (hkr : k ≤ r.2) : blks k r = row k (2 ^ (r.2 - k).toNat) r.1 := by
  rw [blks_ge hkr, blk_row _ _ (by omega)]; congr 1; omega
theorem lowe_true : ∀ a : Int × Int × List Int × Int, ArgsW [.c (.int .i64), .c (.int .i64), .rd [.int .i64], .c (.int .i64)] a → ∃ f, M_lowe f a = some true := by
  rintro ⟨base, bits, l, size⟩ h
  have hr := small_valid (base, bits)
  have hb := small_bits (base, bits)
  have hu := smalls_len 40 l
  have hpl := place_range size (s := 11) (by omega)
  have key : ∃ f, (bif decide (6 + place (size, 11) > (small (base, bits)).2) then some true else L_lowe_0 f (small (base, bits), smallsN 40 l, 6 + place (size, 11), (findS (small (base, bits), smallsN 40 l, 6 + place (size, 11))).1, (findS (small (base, bits), smallsN 40 l, 6 + place (size, 11))).2, (small (base, bits)).1)) = some true := by
    generalize small (base, bits) = r at *
    generalize smallsN 40 l = used at *
    generalize place (size, 11) = t at *
    obtain ⟨e1, e2, e3, e4, e5⟩ := valid_elim hr
    by_cases hgt : 6 + t > r.2
    · exact ⟨0, by rw [bif_pos hgt]⟩
    · rw [find_unhit (by omega) hr (by omega)]
      refine Exists.elim (lowe_outer r hr used (by omega) (6 + t) (by omega) (by omega) (headR (unhit (6 + t) r used)).1 (headR (unhit (6 + t) r used)).2 (2 ^ (r.2 - (6 + t)).toNat) r.1 e3 ?_ ?_ ?_) fun f hf => ⟨f, by rw [bif_neg hgt]; exact hf⟩
      · rw [p2_nat, ← p2_add (by omega) (by omega)]; congr 2; omega
      · rw [← blks_row (by omega) (by omega)]
        intro hh; unfold unhit; rw [hh]; rfl
      · rw [← blks_row (by omega) (by omega)]
        intro z tl hh; unfold unhit; rw [hh]; exact ⟨rfl, rfl⟩
  obtain ⟨f, hf⟩ := key
  refine ⟨f + 1, (M_lowe_eq f _ _ _ _).trans ?_⟩
  have c1 : len40 (smallsN 40 l) = true := decide_eq_true (by omega)
  have c2 : ∀ x y, smallF3 (x, smallsN 40 l, y) = true := fun x y => decide_eq_true (by show (smallsN 40 l).length ≤ 1000; omega)
  rw [i64_id (n := 6 + place (size, 11)) (by omega) (by omega)]
  simp only [c1, c2, cond_true]
  rw [show (((small (base, bits)).1, (small (base, bits)).2) : Rg) = small (base, bits) from rfl]
  by_cases hgt : 6 + place (size, 11) > (small (base, bits)).2
  · rw [bif_pos hgt, find_none hr (by omega)]; rfl
  · rw [bif_neg hgt] at hf ⊢
    cases hok : (findS (small (base, bits), smallsN 40 l, 6 + place (size, 11))).2 with
    | false => rw [hok] at hf; exact hf
    | true =>
      rw [hok] at hf
      rw [find_unhit (by omega) hr (by omega)] at hok hf ⊢
      cases hun : unhit (6 + place (size, 11)) (small (base, bits)) (smallsN 40 l) with
      | nil => rw [hun] at hok; cases hok
      | cons y t =>
        rw [hun] at hf
        obtain ⟨g1, g2, g3⟩ := unhit_in (by omega) hr (by omega) (show y ∈ unhit (6 + place (size, 11)) (small (base, bits)) (smallsN 40 l) by rw [hun]; exact List.mem_cons_self)
        have n1 : (y.2 != 6 + place (size, 11)) = false := by simp [g2]
        have n2 : contains (small (base, bits), (y.1, y.2)) = true := g1
        simp only [headR, n1, n2, cond_true, cond_false, Bool.not_true]
        exact hf
theorem lowe_law : ∀ a : ArgT [.c (.int .i64), .c (.int .i64), .rd [.int .i64], .c (.int .i64)], ArgsW [.c (.int .i64), .c (.int .i64), .rd [.int .i64], .c (.int .i64)] a → ∀ vs, ArgsV [.c (.int .i64), .c (.int .i64), .rd [.int .i64], .c (.int .i64)] a vs → FnP Try.prog 9 vs (RessV [.v .bool] (true : Bool)) :=
  fun a hw vs hv => (lowe_true a hw).elim fun f h => fnX_ok (C := C_lowe) (Lt := Lt_lowe) (fn := Try.f9) (rs := [.tmp 8]) [.c (.int .i64), .c (.int .i64), .rd [.int .i64], .c (.int .i64)] [.v (.bool)] mixed es_lowe Try.func9 rfl rfl rfl (by kernel_rfl) (by kernel_rfl) f h vs hv
end Go.AL
namespace Go.Proofs.Ytoidpheldjllaaa
open Go.ChangeShapes Go.WideShapes Go.ChangeAt Go.RowKit Go.AL
set_option maxRecDepth 100000 in
theorem rangeLowest_lifted (os : Os) (started : os.Started) (H : Type) (enc : TypeId × Value → H) :
    ReturnsInHanded {} Try.checked os 9 .any (Rows.rangeLowestSpec.pre6 enc Try.prog Try.f9 Rows.rangeLowestRow.domain false) (Rows.rangeLowestSpec.post enc Try.prog Try.f9 false true false false) := by
  refine returnsInHanded_of_change (C := Try.checked) Try.own started (by kernel_rfl) Try.func9
    (ChangeSpec.witness6 (enc := enc) (C := Try.checked) false ⟨#[], #[.int .i64 0, .int .i64 0, .slice none 0 0, .int .i64 0], []⟩ 8 (by kernel_rfl) (by kernel_rfl) (by kernel_rfl) (by kernel_rfl)) ?_
  intro W base args ds gs before hval hW hcnd _
  refine law_calls (P := Try.prog) (pts := [3, 3, 40, 3]) (tb := 4) [.c (.int .i64), .c (.int .i64), .rd [.int .i64], .c (.int .i64)] (by kernel_rfl) (by kernel_rfl) Try.laidOut (by kernel_rfl) (by kernel_rfl) (by kernel_rfl) rfl ?_ lowe_law W base args ds gs before hval hW
  intro ds hds
  match ds, hds with
  | [d0, d1, d2, d3], _ => exact ⟨rfl, rfl, rfl⟩
theorem rangeLowest_holds : Rows.RangeLowestSaid :=
  OpenClaim.holds_of_wide 9 Try.f9 rfl rfl rfl rfl rfl rfl rfl ⟨rfl, rfl, rfl, rfl, rfl⟩ rfl rfl rfl rfl rfl (by kernel_rfl) Try.func9 (by kernel_rfl)
    (of_decide_eq_true (by kernel_rfl)) (by unfold Func.isWrapper; first | (rw [if_pos (by decide +kernel)]; kernel_rfl) | (rw [if_neg (by decide +kernel)]; exact ⟨rfl, rfl⟩))
    (fun os started H enc _ => rangeLowest_lifted os started H enc)
end Go.Proofs.Ytoidpheldjllaaa
namespace Go.AL
open Go.Proofs
set_option linter.unusedVariables false
set_option linter.unusedSimpArgs false
end Go.AL
