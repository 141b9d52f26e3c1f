/-
  The stable sort at entries: the whole. By an AI agent.
-/
import Derived.Test.YtjlcdgjcbienbaaSt2
namespace Go.AL
open Go.Proofs
set_option linter.unusedVariables false
set_option linter.unusedSimpArgs false
noncomputable def C_stb : Cfg := ⟨Try.prog, [E_cent], pmT [], 63, [E_iso, E_sym], []⟩
theorem es_stb : EsOk Try.prog [E_cent] [E_iso, E_sym] := el_cons E_iso_ok (el_cons E_sym_ok (es_cons E_cent_ok (es_nil)))
def Lt_stb : Nat → LD := ldTL 1 [(0, ⟨[.list 0 500 74 13 tSEn, .c 1 (.int .i64), .fn 2 64 [], .c 6 (.int .i64), .c 7 (.int .i64), .c 8 (.int .i64)], [], 1⟩), (2, ⟨[.list 0 500 74 13 tSEn, .c 1 (.int .i64), .fn 2 64 [], .c 6 (.int .i64)], [], 1⟩), (4, ⟨[.list 0 500 74 13 tSEn, .c 1 (.int .i64), .fn 2 64 [], .c 6 (.int .i64), .c 7 (.int .i64), .c 8 (.int .i64)], [], 1⟩)]
noncomputable def M_stb (f : Nat) (a : (List (SEn)) × Int × Unit) : Option (Unit × (List (SEn))) := (runX (C_stb) Lt_stb (KretI Try.prog 74 13 tSEn [] []) f [.code (bodyOf Try.f80)] (initXL false 74 13 tSEn [.c (.int .i64), .fn 64 []] a.1 [] (a.2.1, a.2.2)) : Option ((ResT [] × List (RowT tSEn))))
noncomputable def L_stb_0 (f : Nat) (x : (List (SEn)) × Int × Unit × Int × Int × Int) : Option (Unit × (List (SEn))) := (runX (C_stb) Lt_stb (KretI Try.prog 74 13 tSEn [] []) f (headOf Try.f80 0) ((Lt_stb 0).mk' x) : Option ((ResT [] × List (RowT tSEn))))
noncomputable def L_stb_2 (f : Nat) (x : (List (SEn)) × Int × Unit × Int) : Option (Unit × (List (SEn))) := (runX (C_stb) Lt_stb (KretI Try.prog 74 13 tSEn [] []) f (headOf Try.f80 2) ((Lt_stb 2).mk' x) : Option ((ResT [] × List (RowT tSEn))))
noncomputable def L_stb_4 (f : Nat) (x : (List (SEn)) × Int × Unit × Int × Int × Int) : Option (Unit × (List (SEn))) := (runX (C_stb) Lt_stb (KretI Try.prog 74 13 tSEn [] []) f (headOf Try.f80 4) ((Lt_stb 4).mk' x) : Option ((ResT [] × List (RowT tSEn))))
theorem M_stb_eq (f : Nat) (data : List (SEn)) (n : Int) (cmp : Unit) : M_stb (f + 1) (data, n, cmp) =
    L_stb_0 f (data, n, (), 20, 0, 20) := by kernel_rfl
theorem L_stb_0_eq (f : Nat) (data : List (SEn)) (n : Int) (cmp : Unit) (blockSize : Int) (a : Int) (b : Int) : L_stb_0 (f + 1) (data, n, cmp, blockSize, a, b) =
    bif decide (b ≤ n) then bif segP data a b then L_stb_0 f ((isoS (data, a, b, ())).2, n, (), blockSize, b, IntKind.i64.wrap (b + blockSize)) else none else bif segP data a n then L_stb_2 f ((isoS (data, a, n, ())).2, n, (), blockSize) else none := by kernel_rfl
theorem L_stb_2_eq (f : Nat) (data : List (SEn)) (n : Int) (cmp : Unit) (blockSize : Int) : L_stb_2 (f + 1) (data, n, cmp, blockSize) =
    bif decide (blockSize < n) then L_stb_4 f (data, n, (), blockSize, 0, IntKind.i64.wrap (2 * blockSize)) else some ((), data) := by kernel_rfl
theorem L_stb_4_eq (f : Nat) (data : List (SEn)) (n : Int) (cmp : Unit) (blockSize : Int) (a : Int) (b : Int) : L_stb_4 (f + 1) (data, n, cmp, blockSize, a, b) =
    bif decide (b ≤ n) then bif symP (data, a, IntKind.i64.wrap (a + blockSize), b, ()) then L_stb_4 f ((symS (data, a, IntKind.i64.wrap (a + blockSize), b, ())).2, n, (), blockSize, b, IntKind.i64.wrap (b + IntKind.i64.wrap (2 * blockSize))) else none else bif decide (IntKind.i64.wrap (a + blockSize) < n) then bif symP (data, a, IntKind.i64.wrap (a + blockSize), n, ()) then L_stb_2 f ((symS (data, a, IntKind.i64.wrap (a + blockSize), n, ())).2, n, (), IntKind.i64.wrap (blockSize * 2)) else none else L_stb_2 f (data, n, (), IntKind.i64.wrap (blockSize * 2)) := by kernel_rfl
def chS (bs : Nat) : Nat → List SEn → List SEn
  | 0, _ => []
  | k + 1, l => match l with
    | [] => []
    | l => srtB ltE (l.take bs) ++ chS bs k (l.drop bs)
theorem chS_nil (bs : Nat) : ∀ k, chS bs k [] = []
  | 0 => rfl
  | k + 1 => rfl
theorem chS_step (bs k : Nat) (l : List SEn) (h : 0 < l.length) : chS bs (k + 1) l = srtB ltE (l.take bs) ++ chS bs k (l.drop bs) := by
  cases l with
  | nil => simp at h
  | cons a l => rfl
theorem chS_fuel (bs : Nat) (hb : 0 < bs) : ∀ (k k' : Nat) (l : List SEn), l.length ≤ k → l.length ≤ k' → chS bs k l = chS bs k' l
  | 0, k', l, h, _ => by
    obtain rfl := List.eq_nil_of_length_eq_zero (Nat.le_zero.1 h)
    rw [chS_nil, chS_nil]
  | k + 1, 0, l, _, h => by
    obtain rfl := List.eq_nil_of_length_eq_zero (Nat.le_zero.1 h)
    rw [chS_nil, chS_nil]
  | k + 1, k' + 1, l, h, h' => by
    by_cases h0 : l.length = 0
    · obtain rfl := List.eq_nil_of_length_eq_zero h0
      rw [chS_nil, chS_nil]
    · rw [chS_step _ _ _ (by omega), chS_step _ _ _ (by omega), chS_fuel bs hb k k' (l.drop bs) (by rw [List.length_drop]; omega) (by rw [List.length_drop]; omega)]
def blkS (bs : Nat) (l : List SEn) : List SEn := chS bs l.length l
theorem blkS_nil (bs : Nat) : blkS bs [] = [] := rfl
theorem blkS_step {bs : Nat} (hb : 0 < bs) {l : List SEn} (h : 0 < l.length) : blkS bs l = srtB ltE (l.take bs) ++ blkS bs (l.drop bs) := by
  unfold blkS
  obtain ⟨k, hk⟩ : ∃ k, l.length = k + 1 := ⟨l.length - 1, by omega⟩
  rw [hk, chS_step _ _ _ h, chS_fuel bs hb k (l.drop bs).length _ (by rw [List.length_drop]; omega) (Nat.le_refl _)]
theorem blkS_one {bs : Nat} (hb : 0 < bs) {l : List SEn} (h : l.length ≤ bs) : blkS bs l = srtB ltE l := by
  by_cases h0 : l.length = 0
  · obtain rfl := List.eq_nil_of_length_eq_zero h0; rfl
  · rw [blkS_step hb (by omega), List.take_of_length_le h, List.drop_eq_nil_of_le h, blkS_nil, List.append_nil]
theorem len_blkS {bs : Nat} (hb : 0 < bs) : ∀ (k : Nat) (l : List SEn), l.length ≤ k → (blkS bs l).length = l.length
  | 0, l, h => by
    obtain rfl := List.eq_nil_of_length_eq_zero (Nat.le_zero.1 h); rfl
  | k + 1, l, h => by
    by_cases h0 : l.length = 0
    · obtain rfl := List.eq_nil_of_length_eq_zero h0; rfl
    · rw [blkS_step hb (by omega), List.length_append, len_srtB, len_blkS hb k (l.drop bs) (by rw [List.length_drop]; omega), List.length_take, List.length_drop]; omega
theorem stb_4 {K : Unit × List SEn} {bs : Nat} (hb : 0 < bs) (hb2 : bs ≤ 1099511627776) {n : Int} : ∀ (k : Nat) (r P : List SEn) (a b : Int), r.length ≤ k → a = (P.length : Nat) → b = a + ((2 * bs : Nat) : Int) → n = ((P.length + r.length : Nat) : Int) → P.length + r.length ≤ 1099511627776 →
    (∃ f, L_stb_2 f (P ++ blkS (2 * bs) r, n, (), ((2 * bs : Nat) : Int)) = some K) → ∃ f, L_stb_4 f (P ++ blkS bs r, n, (), ((bs : Nat) : Int), a, b) = some K := by
  intro k
  induction k with
  | zero =>
    intro r P a b hk ha hbb hn hl hK
    obtain rfl := List.eq_nil_of_length_eq_zero (Nat.le_zero.1 hk)
    obtain ⟨f, hf⟩ := hK
    simp only [List.length_nil] at hn
    refine ⟨f + 1, (L_stb_4_eq f _ _ _ _ _ _).trans ?_⟩
    have w1 : IntKind.i64.wrap (a + ((bs : Nat) : Int)) = a + (bs : Nat) := i64_id (by omega) (by omega)
    have w2 : IntKind.i64.wrap (((bs : Nat) : Int) * 2) = ((2 * bs : Nat) : Int) := by rw [i64_id (by omega) (by omega)]; omega
    rw [decide_eq_false (by omega), w1, decide_eq_false (by omega), w2]
    rw [blkS_nil] at hf ⊢
    exact hf
  | succ k ih =>
    intro r P a b hk ha hbb hn hl hK
    have w1 : IntKind.i64.wrap (a + ((bs : Nat) : Int)) = a + (bs : Nat) := i64_id (by omega) (by omega)
    have w2 : IntKind.i64.wrap (((bs : Nat) : Int) * 2) = ((2 * bs : Nat) : Int) := by rw [i64_id (by omega) (by omega)]; omega
    have w3 : IntKind.i64.wrap (2 * ((bs : Nat) : Int)) = ((2 * bs : Nat) : Int) := by rw [i64_id (by omega) (by omega)]; omega
    have w4 : IntKind.i64.wrap (b + ((2 * bs : Nat) : Int)) = b + ((2 * bs : Nat) : Int) := i64_id (by omega) (by omega)
    by_cases hbn : b ≤ n
    · have t2 : (r.take (2 * bs)) = r.take bs ++ (r.drop bs).take bs := by rw [show 2 * bs = bs + bs by omega, List.take_add]
      have hl1 : (r.take bs).length = bs := by rw [List.length_take]; omega
      have hl2 : ((r.drop bs).take bs).length = bs := by rw [List.length_take, List.length_drop]; omega
      have d2 : (r.drop bs).drop bs = r.drop (2 * bs) := by rw [List.drop_drop]; congr 1; omega
      have e1 : blkS bs r = srtB ltE (r.take bs) ++ (srtB ltE ((r.drop bs).take bs) ++ blkS bs (r.drop (2 * bs))) := by
        rw [blkS_step hb (by omega), blkS_step hb (l := r.drop bs) (by rw [List.length_drop]; omega), d2]
      have e2 : blkS (2 * bs) r = srtB ltE (r.take (2 * bs)) ++ blkS (2 * bs) (r.drop (2 * bs)) := blkS_step (by omega) (by omega)
      have hm := mrgB_srt ordE (r.take bs) ((r.drop bs).take bs)
      rw [← t2] at hm
      obtain ⟨f, hf⟩ := ih (r.drop (2 * bs)) (P ++ srtB ltE (r.take (2 * bs))) b (b + ((2 * bs : Nat) : Int)) (by rw [List.length_drop]; omega) (by rw [List.length_append, len_srtB, List.length_take]; omega) rfl (by rw [List.length_append, len_srtB, List.length_take, List.length_drop]; omega) (by rw [List.length_append, len_srtB, List.length_take, List.length_drop]; omega) (by rw [e2] at hK; simpa using hK)
      refine ⟨f + 1, (L_stb_4_eq f _ _ _ _ _ _).trans ?_⟩
      have q1 : a + ((bs : Nat) : Int) = ((P.length + (srtB ltE (r.take bs)).length : Nat) : Int) := by rw [len_srtB, hl1]; omega
      have q2 : b = ((P.length + (srtB ltE (r.take bs)).length + (srtB ltE ((r.drop bs).take bs)).length : Nat) : Int) := by rw [len_srtB, len_srtB, hl1, hl2]; omega
      have hp := symP_dec (c := ()) (y := blkS bs (r.drop (2 * bs))) ha q1 q2 (srt_srtB ordE _) (srt_srtB ordE _) (by rw [len_srtB]; omega) (by rw [len_srtB]; omega) (by simp only [List.length_append, len_srtB, len_blkS hb _ _ (Nat.le_refl _), hl1, hl2, List.length_drop]; omega)
      have hd := symS_dec (c := ()) (y := blkS bs (r.drop (2 * bs))) ha q1 q2
      rw [decide_eq_true hbn, w1, e1, hp, hd, hm, w3, w4]
      simpa using hf
    · by_cases hbm : a + ((bs : Nat) : Int) < n
      · have hr : 0 < r.length := by omega
        have hl1 : (r.take bs).length = bs := by rw [List.length_take]; omega
        have e1 : blkS bs r = srtB ltE (r.take bs) ++ (srtB ltE (r.drop bs) ++ []) := by
          rw [blkS_step hb hr, blkS_one hb (l := r.drop bs) (by rw [List.length_drop]; omega), List.append_nil]
        have e2 : blkS (2 * bs) r = srtB ltE r := blkS_one (by omega) (by omega)
        have hm := mrgB_srt ordE (r.take bs) (r.drop bs)
        rw [List.take_append_drop] at hm
        obtain ⟨f, hf⟩ := hK
        refine ⟨f + 1, (L_stb_4_eq f _ _ _ _ _ _).trans ?_⟩
        have q1 : a + ((bs : Nat) : Int) = ((P.length + (srtB ltE (r.take bs)).length : Nat) : Int) := by rw [len_srtB, hl1]; omega
        have q2 : n = ((P.length + (srtB ltE (r.take bs)).length + (srtB ltE (r.drop bs)).length : Nat) : Int) := by rw [len_srtB, len_srtB, hl1, List.length_drop]; omega
        have hp := symP_dec (c := ()) (y := []) ha q1 q2 (srt_srtB ordE _) (srt_srtB ordE _) (by rw [len_srtB]; omega) (by rw [len_srtB, List.length_drop]; omega) (by simp only [List.length_append, len_srtB, hl1, List.length_drop, List.length_nil]; omega)
        have hd := symS_dec (c := ()) (y := []) ha q1 q2
        rw [decide_eq_false hbn, w1, decide_eq_true hbm, e1, hp, hd, hm, w2]
        rw [e2] at hf
        simpa using hf
      · obtain ⟨f, hf⟩ := hK
        refine ⟨f + 1, (L_stb_4_eq f _ _ _ _ _ _).trans ?_⟩
        rw [decide_eq_false hbn, w1, decide_eq_false hbm, w2]
        rw [blkS_one (by omega) (show r.length ≤ 2 * bs by omega)] at hf
        rw [blkS_one hb (show r.length ≤ bs by omega)]
        exact hf
theorem stb_2 (l : List SEn) (hl : l.length ≤ 1099511627776) : ∀ (k bs : Nat), l.length - bs ≤ k → 0 < bs → bs ≤ 2199023255552 → ∃ f, L_stb_2 f (blkS bs l, ((l.length : Nat) : Int), (), ((bs : Nat) : Int)) = some ((), srtB ltE l)
  | 0, bs, hk, hb, hb2 => ⟨1, (L_stb_2_eq 0 _ _ _ _).trans (by rw [decide_eq_false (by omega), blkS_one hb (by omega)]; rfl)⟩
  | k + 1, bs, hk, hb, hb2 => by
    by_cases h : ((bs : Nat) : Int) < ((l.length : Nat) : Int)
    · obtain ⟨f, hf⟩ := stb_4 (n := ((l.length : Nat) : Int)) hb (by omega) l.length l [] 0 (((2 * bs : Nat) : Int)) (Nat.le_refl _) rfl (by omega) (by simp) (by simpa using hl) (by simpa using stb_2 l hl k (2 * bs) (by omega) (by omega) (by omega))
      refine ⟨f + 1, (L_stb_2_eq f _ _ _ _).trans ?_⟩
      have w3 : IntKind.i64.wrap (2 * ((bs : Nat) : Int)) = ((2 * bs : Nat) : Int) := by rw [i64_id (by omega) (by omega)]; omega
      rw [decide_eq_true h, w3]
      exact hf
    · exact ⟨1, (L_stb_2_eq 0 _ _ _ _).trans (by rw [decide_eq_false h, blkS_one hb (by omega)]; rfl)⟩
theorem stb_0 {K : Unit × List SEn} {n : Int} : ∀ (k : Nat) (r P : List SEn) (a b : Int), r.length ≤ k → a = (P.length : Nat) → b = a + 20 → n = ((P.length + r.length : Nat) : Int) → P.length + r.length ≤ 1099511627776 →
    (∃ f, L_stb_2 f (P ++ blkS 20 r, n, (), 20) = some K) → ∃ f, L_stb_0 f (P ++ r, n, (), 20, a, b) = some K := by
  intro k
  induction k with
  | zero =>
    intro r P a b hk ha hbb hn hl ⟨f, hf⟩
    obtain rfl := List.eq_nil_of_length_eq_zero (Nat.le_zero.1 hk)
    simp only [List.length_nil] at hn
    have hi := isoS_dec (x := P) (s := []) (y := []) (a := a) (b := n) (u := ()) ha (by simpa using hn)
    refine ⟨f + 1, (L_stb_0_eq f _ _ _ _ _ _).trans ?_⟩
    have e : P ++ [] = P ++ ([] ++ ([] : List SEn)) := by simp
    have hg : segP (P ++ ([] ++ ([] : List SEn))) a n = true := segP_iff.2 ⟨by omega, by omega, by simp; omega, by simp; omega⟩
    rw [decide_eq_false (by omega), e, hi, hg]
    rw [blkS_nil] at hf
    exact hf
  | succ k ih =>
    intro r P a b hk ha hbb hn hl hK
    by_cases hbn : b ≤ n
    · have e2 : blkS 20 r = srtB ltE (r.take 20) ++ blkS 20 (r.drop 20) := blkS_step (by omega) (by omega)
      have hl1 : (r.take 20).length = 20 := by rw [List.length_take]; omega
      obtain ⟨f, hf⟩ := ih (r.drop 20) (P ++ srtB ltE (r.take 20)) b (b + 20) (by rw [List.length_drop]; omega) (by rw [List.length_append, len_srtB, hl1]; omega) rfl (by rw [List.length_append, len_srtB, hl1, List.length_drop]; omega) (by rw [List.length_append, len_srtB, hl1, List.length_drop]; omega) (by rw [e2] at hK; simpa using hK)
      have hi := isoS_dec (x := P) (s := r.take 20) (y := r.drop 20) (a := a) (b := b) (u := ()) ha (by rw [hl1]; omega)
      refine ⟨f + 1, (L_stb_0_eq f _ _ _ _ _ _).trans ?_⟩
      have w4 : IntKind.i64.wrap (b + 20) = b + 20 := i64_id (by omega) (by omega)
      rw [List.take_append_drop] at hi
      have hg : segP (P ++ r) a b = true := segP_iff.2 ⟨by omega, by omega, by rw [List.length_append]; omega, by rw [List.length_append]; omega⟩
      rw [decide_eq_true hbn, hg, hi, w4]
      simpa using hf
    · obtain ⟨f, hf⟩ := hK
      have hi := isoS_dec (x := P) (s := r) (y := []) (a := a) (b := n) (u := ()) ha hn
      refine ⟨f + 1, (L_stb_0_eq f _ _ _ _ _ _).trans ?_⟩
      rw [List.append_nil, List.append_nil] at hi
      have hg : segP (P ++ r) a n = true := segP_iff.2 ⟨by omega, by omega, by rw [List.length_append]; omega, by rw [List.length_append]; omega⟩
      rw [decide_eq_false hbn, hg, hi]
      rw [blkS_one (by omega) (show r.length ≤ 20 by omega)] at hf
      exact hf
def stbS (a : List SEn × Int × Unit) : Unit × List SEn := ((), srtB ltE a.1)
def stbP (a : List SEn × Int × Unit) : Bool := decide (a.2.1 = ((a.1.length : Nat) : Int)) && decide (a.1.length ≤ 1099511627776)
theorem stb_run : ∀ a, stbP a = true → ∃ f, M_stb f a = some (stbS a) := by
  rintro ⟨l, n, u⟩ h
  simp only [stbP, Bool.and_eq_true, decide_eq_true_eq] at h
  obtain ⟨rfl, hl⟩ := h
  obtain ⟨f, hf⟩ := stb_0 (K := ((), srtB ltE l)) (n := ((l.length : Nat) : Int)) l.length l [] 0 20 (Nat.le_refl _) rfl rfl (by simp) (by simpa using hl) (by simpa using stb_2 l hl l.length 20 (by omega) (by omega) (by omega))
  exact ⟨f + 1, (M_stb_eq f _ _ _).trans hf⟩
theorem stb_len : ∀ a, stbP a = true → (stbS a).2.length = a.1.length := fun a _ => len_srtB _
noncomputable def E_stb : EntL := ⟨80, false, false, 74, 13, tSEn, [.c (.int .i64), .fn 64 []], [], fun l l2 a => (stbP : (List (SEn)) × Int × Unit → Bool) (l, a.1, a.2), fun l l2 a => (stbS : (List (SEn)) × Int × Unit → Unit × (List (SEn))) (l, a.1, a.2)⟩
theorem E_stb_ok : E_stb.Ok Try.prog := entL_io (C := C_stb) (Lt := Lt_stb) (fn := Try.f80) (rs := []) E_stb Try.prog rfl rfl rfl mixed es_stb rfl (ldTL_ln (by decide +kernel)) Try.func80 rfl rfl rfl (by decide) (by kernel_rfl) (by kernel_rfl) (by decide) fun l a hp => ⟨stb_len (l, a.1, a.2) hp, stb_run (l, a.1, a.2) hp⟩
noncomputable def C_ssf : Cfg := ⟨Try.prog, [E_cent], pmT [], 9, [E_stb], []⟩
theorem es_ssf : EsOk Try.prog [E_cent] [E_stb] := el_cons E_stb_ok (es_cons E_cent_ok (es_nil))
def Lt_ssf : Nat → LD := ldTL 1 []
noncomputable def M_ssf (f : Nat) (a : (List (SEn)) × Unit) : Option (Unit × (List (SEn))) := (runX (C_ssf) Lt_ssf (KretI Try.prog 74 13 tSEn [] []) f [.code (bodyOf Try.f63)] (initXL false 74 13 tSEn [.fn 64 []] a.1 [] a.2) : Option ((ResT [] × List (RowT tSEn))))
theorem M_ssf_eq (f : Nat) (x : List (SEn)) (cmp : Unit) : M_ssf (f + 1) (x, cmp) =
    bif stbP (x, (↑x.length : Int), ()) then some ((), (stbS (x, (↑x.length : Int), ())).2) else none := by kernel_rfl
def ssfS (a : List SEn × Unit) : Unit × List SEn := ((), srtB ltE a.1)
theorem ssf_run : ∀ a, (fun a : List SEn × Unit => len40n a.1) a = true → ∃ f, M_ssf f a = some (ssfS a) := by
  rintro ⟨l, u⟩ h
  have h : l.length ≤ 1099511627776 := of_decide_eq_true h
  refine ⟨1, (M_ssf_eq 0 _ _).trans ?_⟩
  simp only [stbP, stbS, decide_eq_true h]
  simp [ssfS]
theorem ssf_len : ∀ a, (fun a : List SEn × Unit => len40n a.1) a = true → (ssfS a).2.length = a.1.length := fun a _ => len_srtB _
noncomputable def E_ssf : EntL := ⟨63, false, false, 74, 13, tSEn, [.fn 64 []], [], fun l l2 a => (fun a => len40n a.1 : (List (SEn)) × Unit → Bool) (l, a), fun l l2 a => (ssfS : (List (SEn)) × Unit → Unit × (List (SEn))) (l, a)⟩
theorem E_ssf_ok : E_ssf.Ok Try.prog := entL_io (C := C_ssf) (Lt := Lt_ssf) (fn := Try.f63) (rs := []) E_ssf Try.prog rfl rfl rfl mixed es_ssf rfl (ldTL_ln (by decide +kernel)) Try.func63 rfl rfl rfl (by decide) (by kernel_rfl) (by kernel_rfl) (by decide) fun l a hp => ⟨ssf_len (l, a) hp, ssf_run (l, a) hp⟩
end Go.AL
