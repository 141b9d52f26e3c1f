/-
  RangeNested, RangeMaximal and RangeSplits return true at every input and leave their arguments as they were; no condition. By an AI agent.
-/
import Derived.Test.YtoidpheldjllaaaMrb
namespace Go.AL
open Go.Proofs
set_option linter.unusedVariables false
set_option linter.unusedSimpArgs false
noncomputable def C_nest : Cfg := ⟨Try.prog, [E_block, E_valid, E_over, E_cont, E_awake], pmT [(3, ([(0, []), (1, []), (2, []), (3, []), (4, []), (5, []), (6, []), (7, []), (8, []), (9, []), (10, []), (11, []), (12, []), (13, []), (14, []), (15, []), (16, []), (18, []), (19, []), (17, []), (20, []), (21, []), (22, [])], [(17, 39)])), (5, ([(0, []), (1, []), (3, []), (4, []), (2, []), (5, []), (6, []), (7, []), (8, []), (9, []), (10, []), (11, [])], [(40, 51)])), (7, ([(0, []), (1, []), (8, []), (9, []), (10, []), (2, []), (3, []), (4, []), (5, []), (6, []), (7, []), (11, []), (12, []), (13, []), (14, []), (15, [])], [(8, 8), (52, 66)]))], 67⟩
theorem es_nest : EsOk Try.prog [E_block, E_valid, E_over, E_cont, E_awake] := es_cons E_block_ok (es_cons E_valid_ok (es_cons E_over_ok (es_cons E_cont_ok (es_cons E_awake_ok (es_nil)))))
def Lt_nest : Nat → LD := ldT []
noncomputable def M_nest (f : Nat) (a : Int × Int × Int × Int) : Option (Bool) := (runX (C_nest) Lt_nest (Kret Try.prog [.tmp 8] [.v (.bool)]) f [.code (bodyOf Try.f6)] (initX [.c (.int .i64), .c (.int .i64), .c (.int .i64), .c (.int .i64)] a) : Option (ResT [.v (.bool)]))
theorem M_nest_eq (f : Nat) (a : Int) (b : Int) (c : Int) (d : Int) : M_nest (f + 1) (a, b, c, d) =
    bif !Go.AL.valid ((Go.AL.block (a, b)).fst, (Go.AL.block (a, b)).snd) then Option.some Bool.false
      else
        bif !Go.AL.valid ((Go.AL.block (c, d)).fst, (Go.AL.block (c, d)).snd) then Option.some Bool.false
        else
          bif !Go.AL.overlaps (((Go.AL.block (a, b)).fst, (Go.AL.block (a, b)).snd), (Go.AL.block (a, b)).fst, (Go.AL.block (a, b)).snd) then Option.some Bool.false
          else
            bif
                Go.AL.overlaps (((Go.AL.block (a, b)).fst, (Go.AL.block (a, b)).snd), (Go.AL.block (c, d)).fst, (Go.AL.block (c, d)).snd) !=
                  Go.AL.overlaps (((Go.AL.block (c, d)).fst, (Go.AL.block (c, d)).snd), (Go.AL.block (a, b)).fst, (Go.AL.block (a, b)).snd) then
              Option.some Bool.false
            else
              bif Go.AL.contains (((Go.AL.block (a, b)).fst, (Go.AL.block (a, b)).snd), (Go.AL.block (c, d)).fst, (Go.AL.block (c, d)).snd) then
                bif Go.AL.overlaps (((Go.AL.block (a, b)).fst, (Go.AL.block (a, b)).snd), (Go.AL.block (c, d)).fst, (Go.AL.block (c, d)).snd) != Bool.true then Option.some Bool.false
                else
                  bif Go.AL.contains (((Go.AL.block (a, b)).fst, (Go.AL.block (a, b)).snd), (Go.AL.block (c, d)).fst, (Go.AL.block (c, d)).snd) then
                    bif
                        Go.AL.contains (((Go.AL.block (c, d)).fst, (Go.AL.block (c, d)).snd), (Go.AL.block (a, b)).fst, (Go.AL.block (a, b)).snd) ==
                          ((Go.AL.block (a, b)).fst == (Go.AL.block (c, d)).fst && ((Go.AL.block (a, b)).snd == (Go.AL.block (c, d)).snd && Bool.true)) then
                      Option.some (Bool.true)
                    else Option.some Bool.false
                  else bif Bool.false == ((Go.AL.block (a, b)).fst == (Go.AL.block (c, d)).fst && ((Go.AL.block (a, b)).snd == (Go.AL.block (c, d)).snd && Bool.true)) then Option.some (Bool.true) else Option.some Bool.false
              else
                bif
                    Go.AL.overlaps (((Go.AL.block (a, b)).fst, (Go.AL.block (a, b)).snd), (Go.AL.block (c, d)).fst, (Go.AL.block (c, d)).snd) !=
                      Go.AL.contains (((Go.AL.block (c, d)).fst, (Go.AL.block (c, d)).snd), (Go.AL.block (a, b)).fst, (Go.AL.block (a, b)).snd) then
                  Option.some Bool.false
                else
                  bif Go.AL.contains (((Go.AL.block (a, b)).fst, (Go.AL.block (a, b)).snd), (Go.AL.block (c, d)).fst, (Go.AL.block (c, d)).snd) then
                    bif
                        Go.AL.contains (((Go.AL.block (c, d)).fst, (Go.AL.block (c, d)).snd), (Go.AL.block (a, b)).fst, (Go.AL.block (a, b)).snd) ==
                          ((Go.AL.block (a, b)).fst == (Go.AL.block (c, d)).fst && ((Go.AL.block (a, b)).snd == (Go.AL.block (c, d)).snd && Bool.true)) then
                      Option.some (Bool.true)
                    else Option.some Bool.false
                  else bif Bool.false == ((Go.AL.block (a, b)).fst == (Go.AL.block (c, d)).fst && ((Go.AL.block (a, b)).snd == (Go.AL.block (c, d)).snd && Bool.true)) then Option.some (Bool.true) else Option.some Bool.false := by kernel_rfl
theorem eq_both {x y : Rg} (hx : valid x = true) : (x.1 == y.1 && (x.2 == y.2 && true)) = (contains (x, y) && contains (y, x)) := by
  cases h : contains (x, y) && contains (y, x) with
  | true =>
    obtain ⟨h1, h2⟩ := Bool.and_eq_true_iff.1 h
    rw [cont_both h1 h2]; simp
  | false =>
    cases e : (x.1 == y.1 && (x.2 == y.2 && true)) with
    | false => rfl
    | true =>
      simp only [Bool.and_true, Bool.and_eq_true, beq_iff_eq] at e
      have : x = y := Prod.ext e.1 e.2
      subst this
      rw [cont_refl hx] at h; cases h
theorem nest_true : ∀ a : Int × Int × Int × Int, ArgsW [.c (.int .i64), .c (.int .i64), .c (.int .i64), .c (.int .i64)] a → ∃ f, M_nest f a = some true := by
  rintro ⟨a, b, c, d⟩ _
  refine ⟨1, (M_nest_eq 0 _ _ _ _).trans ?_⟩
  have hx := block_valid (a, b)
  have hy := block_valid (c, d)
  generalize block (a, b) = x at *
  generalize block (c, d) = y at *
  rw [eq_both hx]
  simp only [hx, hy, over_refl hx, over_symm y x, over_cont hx hy]
  cases contains (x, y) <;> cases contains (y, x) <;> rfl
theorem nest_law : ∀ a : ArgT [.c (.int .i64), .c (.int .i64), .c (.int .i64), .c (.int .i64)], ArgsW [.c (.int .i64), .c (.int .i64), .c (.int .i64), .c (.int .i64)] a → ∀ vs, ArgsV [.c (.int .i64), .c (.int .i64), .c (.int .i64), .c (.int .i64)] a vs → FnP Try.prog 6 vs (RessV [.v .bool] (true : Bool)) :=
  fun a hw vs hv => (nest_true a hw).elim fun f h => fnX_ok (C := C_nest) (Lt := Lt_nest) (fn := Try.f6) (rs := [.tmp 8]) [.c (.int .i64), .c (.int .i64), .c (.int .i64), .c (.int .i64)] [.v (.bool)] mixed es_nest Try.func6 rfl rfl rfl (by kernel_rfl) (by kernel_rfl) f h vs hv
end Go.AL
namespace Go.Proofs.Ytoidpheldjllaaa
open Go.ChangeShapes Go.WideShapes Go.ChangeAt Go.RowKit Go.AL
set_option maxRecDepth 100000 in
theorem rangeNested_lifted (os : Os) (started : os.Started) (H : Type) (enc : TypeId × Value → H) :
    ReturnsInHanded {} Try.checked os 6 .any (Rows.rangeNestedSpec.pre6 enc Try.prog Try.f6 Rows.rangeNestedRow.domain false) (Rows.rangeNestedSpec.post enc Try.prog Try.f6 false true false false) := by
  refine returnsInHanded_of_change (C := Try.checked) Try.own started (by kernel_rfl) Try.func6
    (ChangeSpec.witness6 (enc := enc) (C := Try.checked) false ⟨#[], #[.int .i64 0, .int .i64 0, .int .i64 0, .int .i64 0], []⟩ 8 (by kernel_rfl) (by kernel_rfl) (by kernel_rfl) (by kernel_rfl)) ?_
  intro W base args ds gs before hval hW hcnd _
  refine law_calls (P := Try.prog) (pts := [3, 3, 3, 3]) (tb := 4) [.c (.int .i64), .c (.int .i64), .c (.int .i64), .c (.int .i64)] (by kernel_rfl) (by kernel_rfl) Try.laidOut (by kernel_rfl) (by kernel_rfl) (by kernel_rfl) rfl ?_ nest_law W base args ds gs before hval hW
  intro ds hds
  match ds, hds with
  | [d0, d1, d2, d3], _ => exact ⟨rfl, rfl, rfl⟩
theorem rangeNested_holds : Rows.RangeNestedSaid :=
  OpenClaim.holds_of_wide 6 Try.f6 rfl rfl rfl rfl rfl rfl rfl ⟨rfl, rfl, rfl, rfl, rfl⟩ rfl rfl rfl rfl rfl (by kernel_rfl) Try.func6 (by kernel_rfl)
    (of_decide_eq_true (by kernel_rfl)) (by unfold Func.isWrapper; first | (rw [if_pos (by decide +kernel)]; kernel_rfl) | (rw [if_neg (by decide +kernel)]; exact ⟨rfl, rfl⟩))
    (fun os started H enc _ => rangeNested_lifted os started H enc)
end Go.Proofs.Ytoidpheldjllaaa
namespace Go.AL
open Go.Proofs
set_option linter.unusedVariables false
set_option linter.unusedSimpArgs false
noncomputable def C_maxi : Cfg := ⟨Try.prog, [E_small, E_smalls, E_copied, E_free, E_awake, E_rover], pmT [(3, ([(0, []), (1, []), (2, []), (3, []), (4, [])], [(9, 9), (20, 23)])), (10, ([(0, []), (1, []), (2, []), (3, []), (4, []), (5, []), (6, []), (7, []), (8, []), (9, []), (10, []), (11, []), (12, []), (13, []), (14, []), (15, [])], [(12, 12), (43, 56)])), (15, ([(0, []), (1, []), (2, []), (3, []), (4, []), (5, []), (6, []), (7, []), (8, []), (9, [])], [(13, 13), (63, 71)]))], 75⟩
theorem es_maxi : EsOk Try.prog [E_small, E_smalls, E_copied, E_free, E_awake, E_rover] := es_cons E_small_ok (es_cons E_smalls_ok (es_cons E_copied_ok (es_cons E_free_ok (es_cons E_awake_ok (es_cons E_rover_ok (es_nil))))))
def Lt_maxi : Nat → LD := ldT [(0, ⟨[.box 7 7 23 2 tRg, .list 8 999 23 2 tRg, .list 9 998 23 2 tRg, .c 10 (.int .i64)], []⟩), (2, ⟨[.box 7 7 23 2 tRg, .list 8 999 23 2 tRg, .list 9 998 23 2 tRg, .c 10 (.int .i64), .box 12 12 23 2 tRg, .c 13 (.bool), .c 14 (.int .i64)], []⟩)]
noncomputable def M_maxi (f : Nat) (a : Int × Int × (List (Int))) : Option (Bool) := (runX (C_maxi) Lt_maxi (Kret Try.prog [.tmp 6] [.v (.bool)]) f [.code (bodyOf Try.f7)] (initX [.c (.int .i64), .c (.int .i64), .rd [.int .i64]] a) : Option (ResT [.v (.bool)]))
noncomputable def L_maxi_0 (f : Nat) (x : Rg × (List (Rg)) × (List (Rg)) × Int) : Option (Bool) := (runX (C_maxi) Lt_maxi (Kret Try.prog [.tmp 6] [.v (.bool)]) f (headOf Try.f7 0) ((Lt_maxi 0).mk' x) : Option (ResT [.v (.bool)]))
noncomputable def L_maxi_2 (f : Nat) (x : Rg × (List (Rg)) × (List (Rg)) × Int × Rg × Bool × Int) : Option (Bool) := (runX (C_maxi) Lt_maxi (Kret Try.prog [.tmp 6] [.v (.bool)]) f (headOf Try.f7 2) ((Lt_maxi 2).mk' x) : Option (ResT [.v (.bool)]))
theorem M_maxi_eq (f : Nat) (base : Int) (bits : Int) (l : List (Int)) : M_maxi (f + 1) (base, bits, l) =
    bif Go.AL.len40 (Go.AL.smallsN 40 l) then
        bif Go.AL.smallF (((Go.AL.small (base, bits)).fst, (Go.AL.small (base, bits)).snd), Go.AL.smallsN 40 l) then
          L_maxi_0 f (((Go.AL.small (base, bits)).fst, (Go.AL.small (base, bits)).snd), Go.AL.smallsN 40 l, Go.AL.free (((Go.AL.small (base, bits)).fst, (Go.AL.small (base, bits)).snd), Go.AL.smallsN 40 l), 0)
        else Option.none
      else Option.none := by kernel_rfl
theorem L_maxi_0_eq (f : Nat) (r : Rg) (used : List (Rg)) (free : List (Rg)) (i : Int) : L_maxi_0 (f + 1) (r, used, free, i) =
    bif Decidable.decide (i < (↑free.length : Int)) then
        bif Decidable.decide (0 ≤ i) && Decidable.decide (i < (↑free.length : Int)) then
          bif (free.getD i.toNat (0, 0)).fst == r.fst && ((free.getD i.toNat (0, 0)).snd == r.snd && Bool.true) then bif (↑free.length : Int) == 1 then Option.some (Bool.true) else Option.some Bool.false
          else
            bif Decidable.decide (0 ≤ Go.IntKind.u64.wrap (free.getD i.toNat (0, 0)).snd) then
              bif Go.IntKind.i64.wrap (2 * 2 ^ Min.min (Go.IntKind.u64.wrap (free.getD i.toNat (0, 0)).snd).toNat Go.IntKind.i64.bits) != 0 then
                L_maxi_2 f
                  ((r.fst, r.snd), used, free, i,
                    (Go.IntKind.i64.wrap ((free.getD i.toNat (0, 0)).fst - Int.tmod (free.getD i.toNat (0, 0)).fst (Go.IntKind.i64.wrap (2 * 2 ^ Min.min (Go.IntKind.u64.wrap (free.getD i.toNat (0, 0)).snd).toNat Go.IntKind.i64.bits))),
                      Go.IntKind.i64.wrap ((free.getD i.toNat (0, 0)).snd + 1)),
                    Bool.false, 0)
              else Option.none
            else Option.none
        else Option.none
      else Option.some (Bool.true) := by kernel_rfl
theorem L_maxi_2_eq (f : Nat) (r : Rg) (used : List (Rg)) (free : List (Rg)) (i : Int) (twice : Rg) (hit : Bool) (k : Int) : L_maxi_2 (f + 1) (r, used, free, i, twice, hit, k) =
    bif Decidable.decide (k < (↑used.length : Int)) then
        bif hit then L_maxi_2 f ((r.fst, r.snd), used, free, i, (twice.fst, twice.snd), Bool.true, Go.IntKind.i64.wrap (k + 1))
        else
          bif Decidable.decide (0 ≤ k) && Decidable.decide (k < (↑used.length : Int)) then
            L_maxi_2 f ((r.fst, r.snd), used, free, i, (twice.fst, twice.snd), Go.AL.overlaps ((twice.fst, twice.snd), (used.getD k.toNat (0, 0)).fst, (used.getD k.toNat (0, 0)).snd), Go.IntKind.i64.wrap (k + 1))
          else Option.none
      else bif !hit then Option.some Bool.false else L_maxi_0 f ((r.fst, r.snd), used, free, Go.IntKind.i64.wrap (i + 1)) := by kernel_rfl
theorem maxi_inner (r : Rg) (used free : List Rg) (i : Nat) (tw : Rg) (hu : used.length ≤ 1000) (h0 : ∃ f, L_maxi_0 f (r, used, free, IntKind.i64.wrap ((i : Int) + 1)) = some true) :
    ∀ (rest pre : List Rg) (hit : Bool), pre ++ rest = used → (hit || rest.any (fun u => overlaps (tw, u))) = true → ∃ f, L_maxi_2 f (r, used, free, (i : Int), tw, hit, ((pre.length : Nat) : Int)) = some true
  | [], pre, hit, hp, hh => by
    obtain ⟨f, hf⟩ := h0
    refine ⟨f + 1, (L_maxi_2_eq f _ _ _ _ _ _ _).trans ?_⟩
    have := lt_end pre; rw [hp] at this
    have hh : hit = true := by simpa using hh
    rw [this, hh]; exact hf
  | u :: rest, pre, hit, hp, hh => by
    have lk := lt_mid pre u rest; rw [hp] at lk
    have gk := getD_mid pre u rest (0, 0); rw [hp] at gk
    have hpl : pre.length < 1000 := by rw [← hp] at hu; simp at hu; omega
    have e := i64_succ (l := pre) u (by omega)
    cases hit with
    | true =>
      obtain ⟨f, hf⟩ := maxi_inner r used free i tw hu h0 rest (pre ++ [u]) true (by simpa using hp) rfl
      refine ⟨f + 1, (L_maxi_2_eq f _ _ _ _ _ _ _).trans ?_⟩
      rw [lk, e]; exact hf
    | false =>
      obtain ⟨f, hf⟩ := maxi_inner r used free i tw hu h0 rest (pre ++ [u]) (overlaps (tw, u)) (by simpa using hp) (by simpa using hh)
      refine ⟨f + 1, (L_maxi_2_eq f _ _ _ _ _ _ _).trans ?_⟩
      rw [lk, e, gk, ge0]; exact hf
theorem maxi_outer (r : Rg) (used free : List Rg) (hu : used.length ≤ 1000) (hfl : free.length ≤ 1099511627776) (hg : ∀ f, f ∈ free → valid f = true ∧ (f = r → free.length = 1) ∧ (f ≠ r → used.any (fun u => overlaps (twice f, u)) = true)) :
    ∀ (rest pre : List Rg), pre ++ rest = free → ∃ f, L_maxi_0 f (r, used, free, ((pre.length : Nat) : Int)) = some true
  | [], pre, hp => by
    refine ⟨1, (L_maxi_0_eq 0 _ _ _ _).trans ?_⟩
    have := lt_end pre; rw [hp] at this
    rw [this]; rfl
  | x :: rest, pre, hp => by
    have lk := lt_mid pre x rest; rw [hp] at lk
    have gk := getD_mid pre x rest (0, 0); rw [hp] at gk
    have hpl : pre.length < 1099511627776 := by rw [← hp] at hfl; simp at hfl; omega
    obtain ⟨hv, g1, g2⟩ := hg x (by rw [← hp]; simp)
    by_cases hxr : x = r
    · refine ⟨1, (L_maxi_0_eq 0 _ _ _ _).trans ?_⟩
      have h1 := g1 hxr
      rw [lk, gk, ge0, hxr, h1]; simp
    · obtain ⟨e1, e2, e3, e4, e5⟩ := valid_elim hv
      have hp2 := p2_le40 e2; have hq := p2_pos x.2
      obtain ⟨f, hf⟩ := maxi_inner r used free pre.length (twice x) hu (by rw [i64_succ x (by omega)]; exact maxi_outer r used free hu hfl hg rest (pre ++ [x]) (by simpa using hp)) used [] false rfl (by simpa using g2 hxr)
      refine ⟨f + 1, (L_maxi_0_eq f _ _ _ _).trans ?_⟩
      have hne : (x.1 == r.1 && (x.2 == r.2 && true)) = false := by
        cases e : (x.1 == r.1 && (x.2 == r.2 && true)) with
        | false => rfl
        | true =>
          simp only [Bool.and_true, Bool.and_eq_true, beq_iff_eq] at e
          exact absurd (Prod.ext e.1 e.2) hxr
      have t1 := Int.tmod_lt_of_pos x.1 (show 0 < 2 * p2 x.2 by omega)
      have t2 := Int.tmod_nonneg (2 * p2 x.2) e3
      have hnz : ((2 * p2 x.2) != 0) = true := by simp; omega
      rw [lk, gk, ge0, hne, u64_id (n := x.2) (by omega) (by omega), shp (m := 2) (k := x.2) (by omega) (by omega) (by omega) (by omega), i64_id (n := x.1 - x.1.tmod (2 * p2 x.2)) (by omega) (by omega), i64_id (n := x.2 + 1) (by omega) (by omega), hnz, show decide (0 ≤ x.2) = true from decide_eq_true (by omega)]
      exact hf
theorem maxi_true : ∀ a : Int × Int × List Int, ArgsW [.c (.int .i64), .c (.int .i64), .rd [.int .i64]] a → ∃ f, M_maxi f a = some true := by
  rintro ⟨base, bits, l⟩ h
  have hr := small_valid (base, bits)
  have hu := smalls_len 40 l
  generalize small (base, bits) = r at hr
  generalize hus : smallsN 40 l = used at hu
  obtain ⟨f, hf⟩ := maxi_outer (small (base, bits)) used (free (small (base, bits), used)) (by omega) (free_len _) (fun x hx => by
    have hr := small_valid (base, bits)
    refine ⟨(cont_elim (free_in _ hr _ _ hx)).2.1, fun e => ?_, fun e => ?_⟩
    · subst e; rw [free_self hr hx]; rfl
    · rcases free_max _ hr _ _ hx with h | ⟨u, h1, h2⟩
      · exact absurd h e
      · exact List.any_eq_true.2 ⟨u, h1, h2⟩) (free (small (base, bits), used)) [] rfl
  refine ⟨f + 1, (M_maxi_eq f _ _ _).trans ?_⟩
  have h1 : len40 used = true := decide_eq_true (by omega)
  have h2 : smallF (((small (base, bits)).1, (small (base, bits)).2), used) = true := decide_eq_true (by show used.length ≤ 1000; omega)
  rw [hus, h1, h2]
  exact hf
theorem maxi_law : ∀ a : ArgT [.c (.int .i64), .c (.int .i64), .rd [.int .i64]], ArgsW [.c (.int .i64), .c (.int .i64), .rd [.int .i64]] a → ∀ vs, ArgsV [.c (.int .i64), .c (.int .i64), .rd [.int .i64]] a vs → FnP Try.prog 7 vs (RessV [.v .bool] (true : Bool)) :=
  fun a hw vs hv => (maxi_true a hw).elim fun f h => fnX_ok (C := C_maxi) (Lt := Lt_maxi) (fn := Try.f7) (rs := [.tmp 6]) [.c (.int .i64), .c (.int .i64), .rd [.int .i64]] [.v (.bool)] mixed es_maxi Try.func7 rfl rfl rfl (by kernel_rfl) (by kernel_rfl) f h vs hv
end Go.AL
namespace Go.Proofs.Ytoidpheldjllaaa
open Go.ChangeShapes Go.WideShapes Go.ChangeAt Go.RowKit Go.AL
set_option maxRecDepth 100000 in
theorem rangeMaximal_lifted (os : Os) (started : os.Started) (H : Type) (enc : TypeId × Value → H) :
    ReturnsInHanded {} Try.checked os 7 .any (Rows.rangeMaximalSpec.pre6 enc Try.prog Try.f7 Rows.rangeMaximalRow.domain false) (Rows.rangeMaximalSpec.post enc Try.prog Try.f7 false true false false) := by
  refine returnsInHanded_of_change (C := Try.checked) Try.own started (by kernel_rfl) Try.func7
    (ChangeSpec.witness6 (enc := enc) (C := Try.checked) false ⟨#[], #[.int .i64 0, .int .i64 0, .slice none 0 0], []⟩ 8 (by kernel_rfl) (by kernel_rfl) (by kernel_rfl) (by kernel_rfl)) ?_
  intro W base args ds gs before hval hW hcnd _
  refine law_calls (P := Try.prog) (pts := [3, 3, 40]) (tb := 4) [.c (.int .i64), .c (.int .i64), .rd [.int .i64]] (by kernel_rfl) (by kernel_rfl) Try.laidOut (by kernel_rfl) (by kernel_rfl) (by kernel_rfl) rfl ?_ maxi_law W base args ds gs before hval hW
  intro ds hds
  match ds, hds with
  | [d0, d1, d2], _ => exact ⟨rfl, rfl, rfl⟩
theorem rangeMaximal_holds : Rows.RangeMaximalSaid :=
  OpenClaim.holds_of_wide 7 Try.f7 rfl rfl rfl rfl rfl rfl rfl ⟨rfl, rfl, rfl, rfl, rfl⟩ rfl rfl rfl rfl rfl (by kernel_rfl) Try.func7 (by kernel_rfl)
    (of_decide_eq_true (by kernel_rfl)) (by unfold Func.isWrapper; first | (rw [if_pos (by decide +kernel)]; kernel_rfl) | (rw [if_neg (by decide +kernel)]; exact ⟨rfl, rfl⟩))
    (fun os started H enc _ => rangeMaximal_lifted os started H enc)
end Go.Proofs.Ytoidpheldjllaaa
namespace Go.AL
open Go.Proofs
set_option linter.unusedVariables false
set_option linter.unusedSimpArgs false
noncomputable def C_spli : Cfg := ⟨Try.prog, [E_small, E_smalls, E_copied, E_free, E_rcov, E_awake, E_half, E_same], pmT [(3, ([(0, []), (1, []), (2, []), (3, []), (4, [])], [(9, 9), (18, 21)])), (4, ([(0, []), (2, []), (3, []), (4, []), (5, []), (1, []), (6, [])], [(22, 28)])), (5, ([(0, []), (1, []), (2, []), (3, []), (4, []), (5, []), (6, []), (7, []), (8, []), (9, []), (10, []), (11, []), (12, []), (13, [])], [(6, 6), (29, 41)])), (9, ([(0, []), (1, []), (2, []), (5, []), (6, []), (3, []), (4, []), (7, []), (8, []), (9, []), (10, []), (11, []), (12, []), (13, []), (14, [])], [(6, 6), (56, 69)]))], 70⟩
theorem es_spli : EsOk Try.prog [E_small, E_smalls, E_copied, E_free, E_rcov, E_awake, E_half, E_same] := es_cons E_small_ok (es_cons E_smalls_ok (es_cons E_copied_ok (es_cons E_free_ok (es_cons E_rcov_ok (es_cons E_awake_ok (es_cons E_half_ok (es_cons E_same_ok (es_nil))))))))
def Lt_spli : Nat → LD := ldT []
noncomputable def M_spli (f : Nat) (a : Int × Int × (List (Int))) : Option (Bool) := (runX (C_spli) Lt_spli (Kret Try.prog [.tmp 6] [.v (.bool)]) f [.code (bodyOf Try.f8)] (initX [.c (.int .i64), .c (.int .i64), .rd [.int .i64]] a) : Option (ResT [.v (.bool)]))
theorem M_spli_eq (f : Nat) (base : Int) (bits : Int) (l : List (Int)) : M_spli (f + 1) (base, bits, l) =
    bif Go.AL.len40 (Go.AL.smallsN 40 l) then
        bif Go.AL.smallF (((Go.AL.small (base, bits)).fst, (Go.AL.small (base, bits)).snd), Go.AL.smallsN 40 l) then
          bif Decidable.decide (0 ≤ Go.IntKind.u64.wrap (Go.AL.small (base, bits)).snd) then
            bif Go.AL.len20 (Go.AL.free (((Go.AL.small (base, bits)).fst, (Go.AL.small (base, bits)).snd), Go.AL.smallsN 40 l)) then
              bif
                  Go.AL.rcovS (Go.AL.free (((Go.AL.small (base, bits)).fst, (Go.AL.small (base, bits)).snd), Go.AL.smallsN 40 l)) ==
                    Go.IntKind.i64.wrap (1 * 2 ^ Min.min (Go.IntKind.u64.wrap (Go.AL.small (base, bits)).snd).toNat Go.IntKind.i64.bits) then
                bif (↑(Go.AL.free (((Go.AL.small (base, bits)).fst, (Go.AL.small (base, bits)).snd), Go.AL.smallsN 40 l)).length : Int) == 1 then
                  bif Decidable.decide (0 < (↑(Go.AL.free (((Go.AL.small (base, bits)).fst, (Go.AL.small (base, bits)).snd), Go.AL.smallsN 40 l)).length : Int)) then
                    bif
                        ((Go.AL.free (((Go.AL.small (base, bits)).fst, (Go.AL.small (base, bits)).snd), Go.AL.smallsN 40 l)).getD (Int.toNat 0) (0, 0)).fst == (Go.AL.small (base, bits)).fst &&
                          (((Go.AL.free (((Go.AL.small (base, bits)).fst, (Go.AL.small (base, bits)).snd), Go.AL.smallsN 40 l)).getD (Int.toNat 0) (0, 0)).snd == (Go.AL.small (base, bits)).snd && Bool.true) then
                      Option.some (Bool.true)
                    else Option.some Bool.false
                  else Option.none
                else Option.some Bool.false
              else
                bif !(Go.AL.halves ((Go.AL.small (base, bits)).fst, (Go.AL.small (base, bits)).snd)).snd.snd then
                  bif (↑(Go.AL.free (((Go.AL.small (base, bits)).fst, (Go.AL.small (base, bits)).snd), Go.AL.smallsN 40 l)).length : Int) == 0 then Option.some (Bool.true) else Option.some Bool.false
                else
                  bif Go.AL.len40 (Go.AL.smallsN 40 l) then
                    bif Go.AL.smallF (((Go.AL.halves ((Go.AL.small (base, bits)).fst, (Go.AL.small (base, bits)).snd)).fst.fst, (Go.AL.halves ((Go.AL.small (base, bits)).fst, (Go.AL.small (base, bits)).snd)).fst.snd), Go.AL.smallsN 40 l) then
                      bif Go.AL.len40 (Go.AL.smallsN 40 l) then
                        bif
                            Go.AL.smallF
                              (((Go.AL.halves ((Go.AL.small (base, bits)).fst, (Go.AL.small (base, bits)).snd)).snd.fst.fst, (Go.AL.halves ((Go.AL.small (base, bits)).fst, (Go.AL.small (base, bits)).snd)).snd.fst.snd), Go.AL.smallsN 40 l) then
                          bif
                              Decidable.decide
                                (((Go.AL.free
                                          (((Go.AL.halves ((Go.AL.small (base, bits)).fst, (Go.AL.small (base, bits)).snd)).fst.fst, (Go.AL.halves ((Go.AL.small (base, bits)).fst, (Go.AL.small (base, bits)).snd)).fst.snd),
                                            Go.AL.smallsN 40 l)).length +
                                      (Go.AL.free
                                          (((Go.AL.halves ((Go.AL.small (base, bits)).fst, (Go.AL.small (base, bits)).snd)).snd.fst.fst, (Go.AL.halves ((Go.AL.small (base, bits)).fst, (Go.AL.small (base, bits)).snd)).snd.fst.snd),
                                            Go.AL.smallsN 40 l)).length) *
                                    16 ≤
                                  140737488355328) then
                            bif
                                Go.AL.len40b
                                  (Go.AL.free (((Go.AL.small (base, bits)).fst, (Go.AL.small (base, bits)).snd), Go.AL.smallsN 40 l),
                                    Go.AL.free
                                        (((Go.AL.halves ((Go.AL.small (base, bits)).fst, (Go.AL.small (base, bits)).snd)).fst.fst, (Go.AL.halves ((Go.AL.small (base, bits)).fst, (Go.AL.small (base, bits)).snd)).fst.snd), Go.AL.smallsN 40 l) ++
                                      Go.AL.free
                                        (((Go.AL.halves ((Go.AL.small (base, bits)).fst, (Go.AL.small (base, bits)).snd)).snd.fst.fst, (Go.AL.halves ((Go.AL.small (base, bits)).fst, (Go.AL.small (base, bits)).snd)).snd.fst.snd),
                                          Go.AL.smallsN 40 l)) then
                              bif
                                  (fun a => Go.AL.sameL a.fst a.snd)
                                    (Go.AL.free (((Go.AL.small (base, bits)).fst, (Go.AL.small (base, bits)).snd), Go.AL.smallsN 40 l),
                                      Go.AL.free
                                          (((Go.AL.halves ((Go.AL.small (base, bits)).fst, (Go.AL.small (base, bits)).snd)).fst.fst, (Go.AL.halves ((Go.AL.small (base, bits)).fst, (Go.AL.small (base, bits)).snd)).fst.snd),
                                            Go.AL.smallsN 40 l) ++
                                        Go.AL.free
                                          (((Go.AL.halves ((Go.AL.small (base, bits)).fst, (Go.AL.small (base, bits)).snd)).snd.fst.fst, (Go.AL.halves ((Go.AL.small (base, bits)).fst, (Go.AL.small (base, bits)).snd)).snd.fst.snd),
                                            Go.AL.smallsN 40 l)) then
                                Option.some (Bool.true)
                              else Option.some Bool.false
                            else Option.none
                          else Option.none
                        else Option.none
                      else Option.none
                    else Option.none
                  else Option.none
            else Option.none
          else Option.none
        else Option.none
      else Option.none := by kernel_rfl
theorem free_len16 {r : Rg} (h : r.2 ≤ 16) (used : List Rg) : (free (r, used)).length ≤ 65536 := by
  have h1 := freeN_len r.2.toNat r used
  have h2 : 2 ^ r.2.toNat ≤ 2 ^ 16 := Nat.pow_le_pow_right (by omega) (by omega)
  exact Nat.le_trans h1 (Nat.le_trans h2 (by decide))
theorem halves_six {r : Rg} (h : valid r = true) (h6 : r.2 = 6) : (halves r).2.2 = false := by
  rw [half_valid h, show (r.2 == 6) = true by simp [h6]]; rfl
theorem halves_seven {r : Rg} (h : valid r = true) (h7 : 7 ≤ r.2) : halves r = (lowH r, highH r, true) := by
  rw [half_valid h, show (r.2 == 6) = false by simp; omega]; rfl
theorem spli_true : ∀ a : Int × Int × List Int, ArgsW [.c (.int .i64), .c (.int .i64), .rd [.int .i64]] a → ∃ f, M_spli f a = some true := by
  rintro ⟨base, bits, l⟩ h
  refine ⟨1, (M_spli_eq 0 _ _ _).trans ?_⟩
  have hr := small_valid (base, bits)
  have hb := small_bits (base, bits)
  have hu := smalls_len 40 l
  generalize small (base, bits) = r at *
  generalize smallsN 40 l = used at *
  obtain ⟨e1, e2, e3, e4, e5⟩ := valid_elim hr
  have c1 : len40 used = true := decide_eq_true (by omega)
  have c2 : ∀ x : Rg, smallF (x, used) = true := fun x => decide_eq_true (by show used.length ≤ 1000; omega)
  have hl := free_len16 hb used
  have c3 : len20 (free (r, used)) = true := decide_eq_true (by omega)
  have c4 : decide (0 ≤ r.2) = true := decide_eq_true (by omega)
  rw [show ((r.1, r.2) : Rg) = r from rfl, u64_id (n := r.2) (by omega) (by omega), sh1 (k := r.2) (by omega) (by omega)]
  simp only [c1, c2, c3, c4, cond_true]
  rw [rcov_free hr]
  cases hn : (used.filter (fun u => overlaps (u, r))).isEmpty with
  | true =>
    rw [free_none hr hn]
    simp [sumF]
  | false =>
    have hs := (free_sum r hr used).2 hn
    have hne : (sumF (free (r, used)) == p2 r.2) = false := by simp; omega
    rw [hne, cond_false]
    by_cases h6 : r.2 = 6
    · rw [halves_six hr h6, free_six hr h6 hn]; rfl
    · have h7 : 7 ≤ r.2 := by omega
      rw [halves_seven hr h7]
      have l1 := free_len (lowH r, used); have l2 := free_len (highH r, used)
      have c5 : decide (((free (lowH r, used)).length + (free (highH r, used)).length) * 16 ≤ 140737488355328) = true := decide_eq_true (by omega)
      have c6 : len40b (free (r, used), free (lowH r, used) ++ free (highH r, used)) = true := decide_eq_true (by show (free (r, used)).length ≤ _; omega)
      have c7 : sameL (free (r, used)) (free (lowH r, used) ++ free (highH r, used)) = true := by rw [free_halves hr h7 hn]; exact same_refl _
      simp only [Bool.not_true, cond_false, cond_true]
      rw [show (((lowH r).1, (lowH r).2) : Rg) = lowH r from rfl, show (((highH r).1, (highH r).2) : Rg) = highH r from rfl, c5, c6, c7]; rfl
theorem spli_law : ∀ a : ArgT [.c (.int .i64), .c (.int .i64), .rd [.int .i64]], ArgsW [.c (.int .i64), .c (.int .i64), .rd [.int .i64]] a → ∀ vs, ArgsV [.c (.int .i64), .c (.int .i64), .rd [.int .i64]] a vs → FnP Try.prog 8 vs (RessV [.v .bool] (true : Bool)) :=
  fun a hw vs hv => (spli_true a hw).elim fun f h => fnX_ok (C := C_spli) (Lt := Lt_spli) (fn := Try.f8) (rs := [.tmp 6]) [.c (.int .i64), .c (.int .i64), .rd [.int .i64]] [.v (.bool)] mixed es_spli Try.func8 rfl rfl rfl (by kernel_rfl) (by kernel_rfl) f h vs hv
end Go.AL
namespace Go.Proofs.Ytoidpheldjllaaa
open Go.ChangeShapes Go.WideShapes Go.ChangeAt Go.RowKit Go.AL
set_option maxRecDepth 100000 in
theorem rangeSplits_lifted (os : Os) (started : os.Started) (H : Type) (enc : TypeId × Value → H) :
    ReturnsInHanded {} Try.checked os 8 .any (Rows.rangeSplitsSpec.pre6 enc Try.prog Try.f8 Rows.rangeSplitsRow.domain false) (Rows.rangeSplitsSpec.post enc Try.prog Try.f8 false true false false) := by
  refine returnsInHanded_of_change (C := Try.checked) Try.own started (by kernel_rfl) Try.func8
    (ChangeSpec.witness6 (enc := enc) (C := Try.checked) false ⟨#[], #[.int .i64 0, .int .i64 0, .slice none 0 0], []⟩ 8 (by kernel_rfl) (by kernel_rfl) (by kernel_rfl) (by kernel_rfl)) ?_
  intro W base args ds gs before hval hW hcnd _
  refine law_calls (P := Try.prog) (pts := [3, 3, 40]) (tb := 4) [.c (.int .i64), .c (.int .i64), .rd [.int .i64]] (by kernel_rfl) (by kernel_rfl) Try.laidOut (by kernel_rfl) (by kernel_rfl) (by kernel_rfl) rfl ?_ spli_law W base args ds gs before hval hW
  intro ds hds
  match ds, hds with
  | [d0, d1, d2], _ => exact ⟨rfl, rfl, rfl⟩
theorem rangeSplits_holds : Rows.RangeSplitsSaid :=
  OpenClaim.holds_of_wide 8 Try.f8 rfl rfl rfl rfl rfl rfl rfl ⟨rfl, rfl, rfl, rfl, rfl⟩ rfl rfl rfl rfl rfl (by kernel_rfl) Try.func8 (by kernel_rfl)
    (of_decide_eq_true (by kernel_rfl)) (by unfold Func.isWrapper; first | (rw [if_pos (by decide +kernel)]; kernel_rfl) | (rw [if_neg (by decide +kernel)]; exact ⟨rfl, rfl⟩))
    (fun os started H enc _ => rangeSplits_lifted os started H enc)
end Go.Proofs.Ytoidpheldjllaaa
namespace Go.AL
open Go.Proofs
set_option linter.unusedVariables false
set_option linter.unusedSimpArgs false
end Go.AL
