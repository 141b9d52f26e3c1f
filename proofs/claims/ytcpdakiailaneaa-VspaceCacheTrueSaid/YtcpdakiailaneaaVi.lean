/-
  Layer 16: contracts of slices.Insert and slices.Delete at page tables and mappings (one element), walked. By an AI agent.
-/
import Derived.Test.YtcpdakiailaneaaV3
import Derived.Test.YtcpdakiailaneaaAlIns
namespace Go.AL
open Go.Proofs
set_option linter.unusedVariables false
set_option linter.unusedSimpArgs false
end Go.AL
namespace Go.Proofs
open Go.Shelf Go.RowKit Go.Lib Go.AL
set_option linter.unusedVariables false
set_option linter.unusedSimpArgs false
set_option maxHeartbeats 4000000 in
set_option maxRecDepth 100000 in
theorem vinP_shift (b n c i vb vc : Nat) (cs vs : List Value) (cur cur2 : Array Value) (w : World) (hi : i < n) (hroom : n + 1 ≤ c) (hmax : c ≤ maxLen) (hvb : vb ≠ b)
    (hb : w.heap[b]? = some (.cells cur 60 (0, 0))) (hsz : cur.size = c * 4) (hcs : cur.toList.take (n * 4) = cs) (hcl : cs.length = n * 4)
    (hv : w.heap[vb]? = some (.cells cur2 60 (0, 0))) (hvs : cur2.toList.take 4 = vs) (hvl : vs.length = 4) (h1c : ∀ v ∈ cs, v.oneCell' = true) (h1v : ∀ v ∈ vs, v.oneCell' = true) :
    Calls Try.prog 60 #[.slice (some ⟨b, 0, none⟩) n c, .int .i64 i, .slice (some ⟨vb, 0, none⟩) 1 vc] w fun e w' =>
      ∃ s', e = .returned s' ∧ InsOut w 60 4 (.slice (some ⟨b, 0, none⟩) n c) (n + 1) (cs.take (i * 4) ++ vs ++ cs.drop (i * 4)) s' w' := by
  have hfit : (n + 1) * 4 ≤ cur.toList.length := by rw [Array.length_toList, hsz]; exact Nat.mul_le_mul_right 4 hroom
  obtain ⟨l1, l2, l3⟩ := ins_lists (k := 4) (Nat.le_of_lt hi) hcs hcl hvl hfit
  have hc63 : c ≤ 9223372036854775807 := by simp only [maxLen] at hmax; omega
  have hz2 : ¬ ((i : Int) = (n : Int)) := by omega
  have hz3 : ¬ ((c : Int) < (n : Int) + 1) := by omega
  have hin : i ≤ n := by omega
  have hty : (Try.prog.info? 60).map (·.size) = some 4 := by kernel_rfl
  have ht : Try.prog.underlying 22 = some (.slice 60) := Try.underlying22
  have hov : ∀ lb cb, (callFunc 96 #[.slice (some ⟨vb, 0, none⟩) 1 vc, .slice (some ⟨b, (i + 1) * 4, none⟩) lb cb]).run Try.prog w = .ok (.value (.bool false)) w := fun lb cb => by
    rw [run_callFunc_extern Try.func96 (by kernel_rfl) (by kernel_rfl) (by kernel_rfl) (e := Extern.SlicesOverlaps.overlaps #[22, 22] #[4]) (by kernel_rfl),
      Lib.run_overlaps_apart w 22 4 60 ht 4 (fun w => by kernel_rfl) ⟨vb, 0, none⟩ ⟨b, (i + 1) * 4, none⟩ 1 vc lb cb hvb 60 60 cur2.size cur.size (by simp [World.shape?, hv]) (by simp [World.shape?, hb]) (by rw [hsz]; omega) (by simp [World.frozen?, hv]) (by simp [World.frozen?, hv])]
    rfl
  have hdl : (cs.drop (i * 4)).length = (n - i) * 4 := by rw [List.length_drop, hcl]; omega
  have hw1 : IntKind.i64.wrap ((i : Int) + 1) = (i : Int) + 1 := by rw [IntKind.wrap_i64]; omega
  have hw2 : IntKind.i64.wrap ((n : Int) + 1) = (n : Int) + 1 := by rw [IntKind.wrap_i64]; omega
  have hb1 : (0 : Int) ≤ (i : Int) + 1 := by omega
  have htn : ((i : Int) + 1).toNat = i + 1 := by omega
  have htn2 : ((n : Int) + 1).toNat = n + 1 := by omega
  have hb2 : ¬ (c = i + 1) := by omega
  have hb3 : (i : Int) + 1 ≤ (n : Int) + 1 := by omega
  have hb4 : ¬ (c = i) := by omega
  have hb5 : (i : Int) ≤ (n : Int) + 1 := by omega
  have mixed : Try.prog.follows .mixedOrders = true := by kernel_rfl
  obtain ⟨C1, hC1⟩ : ∃ C1, C1 = cur.toList.take ((i + 1) * 4) ++ cs.drop (i * 4) ++ cur.toList.drop ((i + 1) * 4 + (cs.drop (i * 4)).length) := ⟨_, rfl⟩
  obtain ⟨C2, hC2⟩ : ∃ C2, C2 = C1.take (i * 4) ++ vs ++ C1.drop (i * 4 + vs.length) := ⟨_, rfl⟩
  rw [← hC1] at l1 l2 l3
  rw [← hC2] at l2 l3
  have hcp1 : ∀ ty dc sc, (Builtin.copy_ #[22, 22] ty #[.slice (some ⟨b, (i + 1) * 4, none⟩) (n - i) dc, .slice (some ⟨b, i * 4, none⟩) (n + 1 - i) sc]).run Try.prog w.drew = .ok (goInt (Nat.min (n + 1 - i) (n - i))) (w.drew.setRow b C1.toArray) := fun ty dc sc => by
    rw [hC1]
    exact run_copy_row w.drew _ _ ty 60 4 b ((i + 1) * 4) (n - i) dc ⟨b, i * 4, none⟩ (n + 1 - i) sc (cs.drop (i * 4)) cur 60 ht hty (by rw [hdl]; simp only [Nat.min_def]; split <;> omega)
      (fun j v hj => by rw [Addr.add_lit]; exact cell_row (w := w.drew) hb hcs (i * 4 + j) v (by rwa [List.getElem?_drop] at hj)) hb (by rw [hdl]; simp only [Array.length_toList] at hfit; omega) (fun v hv => h1c v (List.mem_of_mem_drop hv))
  obtain ⟨W1, hW1⟩ : ∃ W1, W1 = w.drew.setRow b C1.toArray := ⟨_, rfl⟩
  have hbW : W1.heap[b]? = some (.cells C1.toArray 60 (0, 0)) := by rw [hW1]; exact setRow_heap w.drew b cur _ 60 _ hb
  have hvW : W1.heap[vb]? = some (.cells cur2 60 (0, 0)) := by rw [hW1, setRow_other w.drew b vb _ hvb]; exact hv
  have hcp2 : ∀ (W : World), W.heap = W1.heap → ∀ ty dc, (Builtin.copy_ #[22, 22] ty #[.slice (some ⟨b, i * 4, none⟩) (n + 1 - i) dc, .slice (some ⟨vb, 0, none⟩) 1 vc]).run Try.prog W = .ok (goInt (Nat.min 1 (n + 1 - i))) (W.setRow b C2.toArray) := fun W hW ty dc => by
    have h := run_copy_row (P := Try.prog) W 22 22 ty 60 4 b (i * 4) (n + 1 - i) dc ⟨vb, 0, none⟩ 1 vc vs C1.toArray 60 ht hty (by rw [hvl]; simp only [Nat.min_def]; split <;> omega)
      (fun j v hj => by rw [Addr.add_lit, Nat.zero_add]; exact cell_row (w := W) (by rw [hW]; exact hvW) hvs j v hj) (by rw [hW]; exact hbW) (by rw [hvl, List.size_toArray, l1]; omega) h1v
    rw [h, hC2]
  have hout : ∀ W, Ev w W (fun q => q = b) → W.heap = W1.heap → InsOut w 60 4 (.slice (some ⟨b, 0, none⟩) n c) (n + 1) (cs.take (i * 4) ++ vs ++ cs.drop (i * 4)) (.slice (some ⟨b, 0, none⟩) (n + 1) c) (W.setRow b C2.toArray) := fun W hE hW =>
    ⟨by rw [← l3, List.length_take, l2]; omega, ⟨b, c, C2.toArray, rfl, setRow_heap W b C1.toArray _ 60 _ (by rw [hW]; exact hbW), hroom, hmax, by rw [List.size_toArray, l2, Array.length_toList, hsz], by simpa using l3, .inl rfl⟩,
      ev_trans ⟨hE.os, hE.tape, hE.output, hE.size, fun q hq hn => hE.block q hq (fun e => hn (by rw [e]; rfl))⟩ (ev_setRow W b _ _ rfl)⟩
  have hE1 : Ev w W1 (fun q => q = b) := by rw [hW1]; exact ⟨rfl, rfl, rfl, by rw [setRow_size]; exact Nat.le_refl _, fun q _ hq => setRow_other w.drew b q _ hq⟩
  rw [← hW1] at hcp1
  generalize InsOut w 60 4 (.slice (some ⟨b, 0, none⟩) n c) (n + 1) (cs.take (i * 4) ++ vs ++ cs.drop (i * 4)) = IO at hout ⊢
  clear l1 l2 l3 hfit hC1 hC2 hbW hvW hcs hvs hsz
  go_enter Try.func60, Try.ntmps60
  go_wp2_with (simp only [hov])
  go_region_law_o (refine step_copy_runI rfl _ _ 22 22 rfl _ _ (by simp [Act.eval, Act.put]) (by simp [Act.eval, Act.put]) (hcp1 _ _ _) ?_)
  go_wp2_with (at_builtin; refine wpList_copy_runI _ rfl _ _ 22 22 rfl _ _ rfl rfl (hcp2 _ rfl _ _) ?_)
  go_ret
  rw [← hW1]
  exact ⟨_, rfl, hout _ ⟨hE1.os, hE1.tape, hE1.output, hE1.size, hE1.block⟩ rfl⟩

set_option maxHeartbeats 4000000 in
set_option maxRecDepth 100000 in
theorem vinP_end (s0 : Value) (n vb vc : Nat) (cs vs : List Value) (w : World) (hown : w.ownsRow 0 60 4 s0 n cs) (hbig : (n + 1) * 48 ≤ 140737488355328) (h63 : n + 1 ≤ maxLen)
    (hvs : ∀ j v, vs[j]? = some v → w.cell? ⟨vb, j, none⟩ = some v) (hvl : vs.length = 4) (h1v : ∀ v ∈ vs, v.oneCell' = true) :
    Calls Try.prog 60 #[s0, .int .i64 n, .slice (some ⟨vb, 0, none⟩) 1 vc] w fun e w' => ∃ s', e = .returned s' ∧ InsOut w 60 4 s0 (n + 1) (cs ++ vs) s' w' := by
  have ht : Try.prog.underlying 22 = some (.slice 60) := Try.underlying22
  obtain ⟨i0, hi0, hz0, hzs, hzb⟩ := info_parts (P := Try.prog) (e := 60) (z := .agg #[.int .i64 0, .int .i64 0, .int .i64 0, .slice none 0 0]) (size := 4) (bytes := 48) (by kernel_rfl)
  have hrun : ∀ ty, ∃ v' w', (Builtin.append_ #[22, 22] ty #[s0, .slice (some ⟨vb, 0, none⟩) 1 vc]).run Try.prog w = .ok v' w' ∧ InsOut w 60 4 s0 (n + 1) (cs ++ vs) v' w' := fun ty =>
    run_append_end (P := Try.prog) w 22 ty 60 i0 _ 4 48 ht hi0 hz0 hzs hzb rfl (by omega) s0 n cs hown ⟨vb, 0, none⟩ 1 vc (by omega) vs (by rw [hvl]) (fun j u hj => by rw [Addr.add_lit, Nat.zero_add]; exact hvs j u hj) h1v h63 hbig
  have hn0 : (0 : Int) ≤ (n : Int) := by omega
  generalize InsOut w 60 4 s0 (n + 1) (cs ++ vs) = IO at hrun ⊢
  have hsh : (s0 = .slice none 0 0 ∧ n = 0) ∨ ∃ g cap, s0 = .slice (some ⟨g, 0, none⟩) n cap ∧ n ≤ cap := by
    rcases hown.2 with h | ⟨g, cap, cur, h1, _, _, h2, _⟩
    · exact .inl h
    · exact .inr ⟨g, cap, h1, h2⟩
  clear hown
  obtain ⟨v1, w1, r1, o1⟩ := hrun 22
  rcases hsh with ⟨rfl, rfl⟩ | ⟨g, cap, rfl, hcap⟩
  · go_enter Try.func60, Try.ntmps60
    go_wp2_with (at_builtin; refine Lib.wpList_append_run _ rfl _ _ _ _ rfl _ _ rfl rfl _ _ r1 ?_)
    go_ret
    exact ⟨_, rfl, o1⟩
  · go_enter Try.func60, Try.ntmps60
    go_wp2_with (at_builtin; refine Lib.wpList_append_run _ rfl _ _ _ _ rfl _ _ rfl rfl _ _ r1 ?_)
    all_goals (go_ret; exact ⟨_, rfl, o1⟩)

set_option maxHeartbeats 4000000 in
set_option maxRecDepth 100000 in
theorem vinP_grow (b n c i vb vc : Nat) (cs vs : List Value) (cur cur2 : Array Value) (w : World) (hi : i < n) (hnc : n ≤ c) (hroom : c < n + 1) (h63 : n + 1 ≤ maxLen) (hbig : (n + 1) * 48 ≤ 140737488355328)
    (hb : w.heap[b]? = some (.cells cur 60 (0, 0))) (hsz : cur.size = c * 4) (hcs : cur.toList.take (n * 4) = cs) (hcl : cs.length = n * 4)
    (hv : w.heap[vb]? = some (.cells cur2 60 (0, 0))) (hvs : cur2.toList.take 4 = vs) (hvl : vs.length = 4) (h1c : ∀ v ∈ cs, v.oneCell' = true) (h1v : ∀ v ∈ vs, v.oneCell' = true) :
    Calls Try.prog 60 #[.slice (some ⟨b, 0, none⟩) n c, .int .i64 i, .slice (some ⟨vb, 0, none⟩) 1 vc] w fun e w' =>
      ∃ s', e = .returned s' ∧ InsOut w 60 4 (.slice (some ⟨b, 0, none⟩) n c) (n + 1) (cs.take (i * 4) ++ vs ++ cs.drop (i * 4)) s' w' := by
  have hz2 : ¬ ((i : Int) = (n : Int)) := by omega
  have hz3 : (c : Int) < (n : Int) + 1 := by omega
  have hin : i ≤ n := by omega
  have hty : (Try.prog.info? 60).map (·.size) = some 4 := by kernel_rfl
  have ht : Try.prog.underlying 22 = some (.slice 60) := Try.underlying22
  have ht3 : Try.prog.underlying 3 = some (.int .i64) := Try.underlying3
  obtain ⟨i0, hi0, hz0, hzs, hzb⟩ := info_parts (P := Try.prog) (e := 60) (z := .agg #[.int .i64 0, .int .i64 0, .int .i64 0, .slice none 0 0]) (size := 4) (bytes := 48) (by kernel_rfl)
  have h63' : n + 1 ≤ 9223372036854775807 := by simp only [maxLen] at h63; omega
  have hbw : b < w.heap.size := (Array.getElem?_eq_some_iff.1 hb).1
  have hvw : vb < w.heap.size := (Array.getElem?_eq_some_iff.1 hv).1
  have hik : i + (n + 1 - i) = n + 1 := by omega
  have hkk : (n : Int) + 1 - (i : Int) = ((n + 1 - i : Nat) : Int) := by omega
  have hold : (Builtin.firstCells i0.size i (.slice (some ⟨b, 0, none⟩) i c)).run Try.prog w.drew = .ok (cs.take (i * 4)).toArray w.drew := by
    rw [hzs]
    exact run_firstCells_some w.drew 4 i ⟨b, 0, none⟩ i c (cs.take (i * 4)) (by rw [List.length_take, hcl]; omega) (fun j v hj => by
      rw [Addr.add_lit, Nat.zero_add]
      rw [List.getElem?_take] at hj
      split at hj
      · exact cell_row (w := w.drew) hb hcs j v hj
      · cases hj)
  generalize hz : ((.agg #[.int .i64 0, .int .i64 0, .int .i64 0, .slice none 0 0] : Value)) = z at hz0
  have hzc : z.cells.size = 4 := by rw [← hz]; rfl
  have hge := grownCap_ge w (n + 1) c 60
  have hgm := grownCap_le_maxLen w (n + 1) c 60 h63
  obtain ⟨G, hG⟩ : ∃ G, G = grownCap w (n + 1) c 60 := ⟨_, rfl⟩
  obtain ⟨ROW, hROW⟩ : ∃ ROW : Array Value, ROW = (cs.take (i * 4)).toArray ++ Builtin.zeroCells z.cells (n + 1 - i) ++ Builtin.zeroCells z.cells (G - (n + 1)) := ⟨_, rfl⟩
  have hrz : ∀ ty, (Builtin.append_ #[22, 3] ty #[.slice (some ⟨b, 0, none⟩) i c, .int .i64 ((n : Int) + 1 - (i : Int))]).run Try.prog w =
      .ok (.slice (some ⟨w.heap.size, 0, none⟩) (n + 1) G) (w.drew.alloc (.cells ROW 60)) := fun ty => by
    have h := Lib.run_append_grow_zeros w 22 3 ty 60 i0 z .i64 .i64 ht ht3 hi0 hz0 (some ⟨b, 0, none⟩) i c (cs.take (i * 4)) hold (n + 1 - i) (by omega) (by omega) (by omega) (by omega) (by rw [hzb]; omega) (by rw [hzb, hik]; exact growslice_fits hroom hbig)
    rw [hik] at h
    rw [hkk, h, hG, hROW, hG]
  rw [← hG] at hge hgm
  have htl : (cs.take (i * 4)).length = i * 4 := by rw [List.length_take, hcl]; omega
  have hdl : (cs.drop (i * 4)).length = (n - i) * 4 := by rw [List.length_drop, hcl]; omega
  have hRs : ROW.size = G * 4 := by
    rw [hROW]
    simp only [Array.size_append, List.size_toArray, htl, size_zeroCells, hzc]
    rw [← Nat.add_mul, ← Nat.add_mul]
    congr 1
    omega
  have hRt : ROW.toList.take (i * 4) = cs.take (i * 4) := by
    rw [hROW]
    simp only [Array.toList_append, List.append_assoc]
    rw [List.take_append_of_le_length (by omega), List.take_of_length_le (by omega)]
  obtain ⟨W1, hW1⟩ : ∃ W1, W1 = w.drew.alloc (.cells ROW 60) := ⟨_, rfl⟩
  rw [← hW1] at hrz
  have hNb : W1.heap[w.heap.size]? = some (.cells ROW 60 (0, 0)) := by rw [hW1]; exact heap_alloc_new w.drew _
  have hOld : ∀ q, q < w.heap.size → W1.heap[q]? = w.heap[q]? := fun q hq => by rw [hW1]; first | exact heap_alloc_old w.drew _ hq | exact heap_alloc_old w.drew _ q hq
  obtain ⟨C1, hC1⟩ : ∃ C1, C1 = ROW.toList.take (i * 4) ++ vs ++ ROW.toList.drop (i * 4 + vs.length) := ⟨_, rfl⟩
  have hGi : (n + 1) * 4 ≤ G * 4 := Nat.mul_le_mul_right 4 hge
  have hl1 : C1.length = G * 4 := by
    rw [hC1]
    simp only [List.length_append, List.length_take, List.length_drop, Array.length_toList, hRs, hvl]
    omega
  have hcpA : ∀ (W : World), W.heap = W1.heap → ∀ ty dc, (Builtin.copy_ #[22, 22] ty #[.slice (some ⟨w.heap.size, i * 4, none⟩) (n + 1 - i) dc, .slice (some ⟨vb, 0, none⟩) 1 vc]).run Try.prog W = .ok (goInt (Nat.min 1 (n + 1 - i))) (W.setRow w.heap.size C1.toArray) := fun W hW ty dc => by
    have h := run_copy_row (P := Try.prog) W 22 22 ty 60 4 w.heap.size (i * 4) (n + 1 - i) dc ⟨vb, 0, none⟩ 1 vc vs ROW 60 ht hty (by rw [hvl]; simp only [Nat.min_def]; split <;> omega)
      (fun j v hj => by rw [Addr.add_lit, Nat.zero_add]; exact cell_row (w := W) (by rw [hW, hOld vb hvw]; exact hv) hvs j v hj) (by rw [hW]; exact hNb) (by rw [hvl, hRs]; omega) h1v
    rw [h, hC1]
  obtain ⟨C2, hC2⟩ : ∃ C2, C2 = C1.take ((i + 1) * 4) ++ cs.drop (i * 4) ++ C1.drop ((i + 1) * 4 + (cs.drop (i * 4)).length) := ⟨_, rfl⟩
  have hcpB : ∀ (W : World), W.heap = (W1.setRow w.heap.size C1.toArray).heap → ∀ ty dc sc, (Builtin.copy_ #[22, 22] ty #[.slice (some ⟨w.heap.size, (i + 1) * 4, none⟩) (n - i) dc, .slice (some ⟨b, i * 4, none⟩) (n - i) sc]).run Try.prog W = .ok (goInt (Nat.min (n - i) (n - i))) (W.setRow w.heap.size C2.toArray) := fun W hW ty dc sc => by
    have h := run_copy_row (P := Try.prog) W 22 22 ty 60 4 w.heap.size ((i + 1) * 4) (n - i) dc ⟨b, i * 4, none⟩ (n - i) sc (cs.drop (i * 4)) C1.toArray 60 ht hty (by rw [hdl, show Nat.min (n - i) (n - i) = n - i from Nat.min_self _])
      (fun j v hj => by rw [Addr.add_lit]; exact cell_row (w := W) (by rw [hW, setRow_other W1 w.heap.size b _ (by omega), hOld b hbw]; exact hb) hcs (i * 4 + j) v (by rwa [List.getElem?_drop] at hj)) (by rw [hW]; exact setRow_heap W1 w.heap.size ROW _ 60 _ hNb) (by rw [hdl, List.size_toArray, hl1]; omega) (fun v hv => h1c v (List.mem_of_mem_drop hv))
    rw [h, hC2]
  have hl2 : C2.length = G * 4 := by
    rw [hC2]
    simp only [List.length_append, List.length_take, List.length_drop, hl1, hdl, hcl]
    omega
  have hfin : C2.take ((n + 1) * 4) = cs.take (i * 4) ++ vs ++ cs.drop (i * 4) := by
    have e1 : C1.take ((i + 1) * 4) = cs.take (i * 4) ++ vs := by
      rw [hC1, hRt]
      have : (cs.take (i * 4) ++ vs).length = (i + 1) * 4 := by rw [List.length_append, htl, hvl]; omega
      rw [← this]; exact List.take_left
    rw [hC2, e1]
    have : (cs.take (i * 4) ++ vs ++ cs.drop (i * 4)).length = (n + 1) * 4 := by simp only [List.length_append, htl, hvl, hdl]; omega
    rw [← this]; exact List.take_left
  have hout : ∀ W, Ev w W (fun _ => False) → W.heap = (W1.setRow w.heap.size C1.toArray).heap → InsOut w 60 4 (.slice (some ⟨b, 0, none⟩) n c) (n + 1) (cs.take (i * 4) ++ vs ++ cs.drop (i * 4)) (.slice (some ⟨w.heap.size, 0, none⟩) (n + 1) G) (W.setRow w.heap.size C2.toArray) := fun W hE hW =>
    insOut_new w 60 4 _ (n + 1) _ G C2.toArray _ ⟨hE.os, hE.tape, hE.output, by rw [setRow_size]; exact hE.size, fun q hq hn => (setRow_other W w.heap.size q _ (by omega)).trans (hE.block q hq hn)⟩
      (by rw [← hfin, List.length_take, hl2]; omega) hge hgm (by rw [List.size_toArray, hl2]) (by simpa using hfin) (setRow_heap W w.heap.size C1.toArray _ 60 _ (by rw [hW]; exact setRow_heap W1 w.heap.size ROW _ 60 _ hNb))
  have hE1 : Ev w (W1.setRow w.heap.size C1.toArray) (fun _ => False) := by
    refine ⟨?_, ?_, ?_, ?_, fun q hq _ => ?_⟩
    · rw [hW1]; rfl
    · rw [hW1]; rfl
    · rw [hW1]; rfl
    · rw [setRow_size, hW1]; simp
    · rw [setRow_other W1 w.heap.size q _ (by omega), hOld q hq]
  obtain ⟨IO, hIO⟩ : ∃ IO, IO = InsOut w 60 4 (.slice (some ⟨b, 0, none⟩) n c) (n + 1) (cs.take (i * 4) ++ vs ++ cs.drop (i * 4)) := ⟨_, rfl⟩
  rw [← hIO] at hout ⊢
  have hn0 : (0 : Int) ≤ (n : Int) + 1 - (i : Int) := by omega
  have hw1 : IntKind.i64.wrap ((i : Int) + 1) = (i : Int) + 1 := by rw [IntKind.wrap_i64]; omega
  have hw2 : IntKind.i64.wrap ((n : Int) + 1) = (n : Int) + 1 := by rw [IntKind.wrap_i64]; omega
  have hw3 : IntKind.i64.wrap ((n : Int) + 1 - (i : Int)) = (n : Int) + 1 - (i : Int) := by rw [IntKind.wrap_i64]; omega
  have hb1 : (0 : Int) ≤ (i : Int) + 1 := by omega
  have htn : ((i : Int) + 1).toNat = i + 1 := by omega
  have htn2 : ((n : Int) + 1).toNat = n + 1 := by omega
  have hb3 : (i : Int) + 1 ≤ (n : Int) + 1 := by omega
  have hb5 : (i : Int) ≤ (n : Int) + 1 := by omega
  have hb6 : (i : Int) ≤ (c : Int) := by omega
  have hb2 : ¬ (G = i + 1) := by omega
  have hb4 : ¬ (G = i) := by omega
  have hb7 : ¬ (c = i) := by omega
  have mixed : Try.prog.follows .mixedOrders = true := by kernel_rfl
  have hcpB2 := fun ty dc sc => hcpB (W1.setRow w.heap.size C1.toArray).drew rfl ty dc sc
  clear hW1 hG hkk hIO hfin hl2 hC2 hl1 hC1 hOld hNb hRt hRs hROW hold hb hv hsz hcs hvs hcpB
  go_enter Try.func60, Try.ntmps60
  go_wp2_with (at_builtin; first
    | refine Lib.wpList_append_run _ rfl _ _ _ _ rfl _ _ rfl rfl _ _ (hrz _) ?_
    | refine wpList_copy_runI _ rfl _ _ 22 22 rfl _ _ rfl rfl (hcpA _ rfl _ _) ?_)
  go_region_law_o (refine step_copy_runI rfl _ _ 22 22 rfl _ _ (by simp [Act.eval, Act.put]) (by simp [Act.eval, Act.put]) (hcpB2 _ _ _) ?_)
  go_wp2
  go_ret
  exact ⟨_, rfl, hout _ ⟨hE1.os, hE1.tape, hE1.output, hE1.size, hE1.block⟩ rfl⟩
theorem vinP_walk : InsWalk Try.prog 60 60 4 48 := by
  intro w s0 n i vb vc cs vs cur2 hi hbig h63 hown hne hvb hvs hvl h1c h1v
  by_cases hin : i = n
  · subst hin
    have h := vinP_end s0 i vb vc cs vs w hown hbig h63 (fun j v hj => cell_row hvb hvs j v hj) hvl h1v
    rw [List.take_of_length_le (by rw [hown.1]; exact Nat.le_refl _), List.drop_eq_nil_of_le (by rw [hown.1]; exact Nat.le_refl _), List.append_nil]
    exact h
  · rcases hown.2 with ⟨rfl, rfl⟩ | ⟨g, cap, cur, rfl, _, hg, hnc, hm, hs, hcs⟩
    · omega
    · by_cases hroom : n + 1 ≤ cap
      · exact vinP_shift g n cap i vb vc cs vs cur cur2 w (by omega) hroom hm (fun e => hne (by rw [e]; rfl)) hg hs hcs hown.1 hvb hvs hvl h1c h1v
      · exact vinP_grow g n cap i vb vc cs vs cur cur2 w (by omega) hnc (by omega) h63 hbig hg hs hcs hown.1 hvb hvs hvl h1c h1v
end Go.Proofs
namespace Go.AL
open Go.Proofs
set_option linter.unusedVariables false
set_option linter.unusedSimpArgs false
end Go.AL
namespace Go.Proofs
open Go.Shelf Go.RowKit Go.Lib Go.AL
set_option linter.unusedVariables false
set_option linter.unusedSimpArgs false
set_option maxHeartbeats 4000000 in
set_option maxRecDepth 100000 in
theorem vinM_shift (b n c i vb vc : Nat) (cs vs : List Value) (cur cur2 : Array Value) (w : World) (hi : i < n) (hroom : n + 1 ≤ c) (hmax : c ≤ maxLen) (hvb : vb ≠ b)
    (hb : w.heap[b]? = some (.cells cur 64 (0, 0))) (hsz : cur.size = c * 6) (hcs : cur.toList.take (n * 6) = cs) (hcl : cs.length = n * 6)
    (hv : w.heap[vb]? = some (.cells cur2 64 (0, 0))) (hvs : cur2.toList.take 6 = vs) (hvl : vs.length = 6) (h1c : ∀ v ∈ cs, v.oneCell' = true) (h1v : ∀ v ∈ vs, v.oneCell' = true) :
    Calls Try.prog 61 #[.slice (some ⟨b, 0, none⟩) n c, .int .i64 i, .slice (some ⟨vb, 0, none⟩) 1 vc] w fun e w' =>
      ∃ s', e = .returned s' ∧ InsOut w 64 6 (.slice (some ⟨b, 0, none⟩) n c) (n + 1) (cs.take (i * 6) ++ vs ++ cs.drop (i * 6)) s' w' := by
  have hfit : (n + 1) * 6 ≤ cur.toList.length := by rw [Array.length_toList, hsz]; exact Nat.mul_le_mul_right 6 hroom
  obtain ⟨l1, l2, l3⟩ := ins_lists (k := 6) (Nat.le_of_lt hi) hcs hcl hvl hfit
  have hc63 : c ≤ 9223372036854775807 := by simp only [maxLen] at hmax; omega
  have hz2 : ¬ ((i : Int) = (n : Int)) := by omega
  have hz3 : ¬ ((c : Int) < (n : Int) + 1) := by omega
  have hin : i ≤ n := by omega
  have hty : (Try.prog.info? 64).map (·.size) = some 6 := by kernel_rfl
  have ht : Try.prog.underlying 58 = some (.slice 64) := Try.underlying58
  have hov : ∀ lb cb, (callFunc 98 #[.slice (some ⟨vb, 0, none⟩) 1 vc, .slice (some ⟨b, (i + 1) * 6, none⟩) lb cb]).run Try.prog w = .ok (.value (.bool false)) w := fun lb cb => by
    rw [run_callFunc_extern Try.func98 (by kernel_rfl) (by kernel_rfl) (by kernel_rfl) (e := Extern.SlicesOverlaps.overlaps #[58, 58] #[4]) (by kernel_rfl),
      Lib.run_overlaps_apart w 58 4 64 ht 6 (fun w => by kernel_rfl) ⟨vb, 0, none⟩ ⟨b, (i + 1) * 6, none⟩ 1 vc lb cb hvb 64 64 cur2.size cur.size (by simp [World.shape?, hv]) (by simp [World.shape?, hb]) (by rw [hsz]; omega) (by simp [World.frozen?, hv]) (by simp [World.frozen?, hv])]
    rfl
  have hdl : (cs.drop (i * 6)).length = (n - i) * 6 := by rw [List.length_drop, hcl]; omega
  have hw1 : IntKind.i64.wrap ((i : Int) + 1) = (i : Int) + 1 := by rw [IntKind.wrap_i64]; omega
  have hw2 : IntKind.i64.wrap ((n : Int) + 1) = (n : Int) + 1 := by rw [IntKind.wrap_i64]; omega
  have hb1 : (0 : Int) ≤ (i : Int) + 1 := by omega
  have htn : ((i : Int) + 1).toNat = i + 1 := by omega
  have htn2 : ((n : Int) + 1).toNat = n + 1 := by omega
  have hb2 : ¬ (c = i + 1) := by omega
  have hb3 : (i : Int) + 1 ≤ (n : Int) + 1 := by omega
  have hb4 : ¬ (c = i) := by omega
  have hb5 : (i : Int) ≤ (n : Int) + 1 := by omega
  have mixed : Try.prog.follows .mixedOrders = true := by kernel_rfl
  obtain ⟨C1, hC1⟩ : ∃ C1, C1 = cur.toList.take ((i + 1) * 6) ++ cs.drop (i * 6) ++ cur.toList.drop ((i + 1) * 6 + (cs.drop (i * 6)).length) := ⟨_, rfl⟩
  obtain ⟨C2, hC2⟩ : ∃ C2, C2 = C1.take (i * 6) ++ vs ++ C1.drop (i * 6 + vs.length) := ⟨_, rfl⟩
  rw [← hC1] at l1 l2 l3
  rw [← hC2] at l2 l3
  have hcp1 : ∀ ty dc sc, (Builtin.copy_ #[58, 58] ty #[.slice (some ⟨b, (i + 1) * 6, none⟩) (n - i) dc, .slice (some ⟨b, i * 6, none⟩) (n + 1 - i) sc]).run Try.prog w.drew = .ok (goInt (Nat.min (n + 1 - i) (n - i))) (w.drew.setRow b C1.toArray) := fun ty dc sc => by
    rw [hC1]
    exact run_copy_row w.drew _ _ ty 64 6 b ((i + 1) * 6) (n - i) dc ⟨b, i * 6, none⟩ (n + 1 - i) sc (cs.drop (i * 6)) cur 64 ht hty (by rw [hdl]; simp only [Nat.min_def]; split <;> omega)
      (fun j v hj => by rw [Addr.add_lit]; exact cell_row (w := w.drew) hb hcs (i * 6 + j) v (by rwa [List.getElem?_drop] at hj)) hb (by rw [hdl]; simp only [Array.length_toList] at hfit; omega) (fun v hv => h1c v (List.mem_of_mem_drop hv))
  obtain ⟨W1, hW1⟩ : ∃ W1, W1 = w.drew.setRow b C1.toArray := ⟨_, rfl⟩
  have hbW : W1.heap[b]? = some (.cells C1.toArray 64 (0, 0)) := by rw [hW1]; exact setRow_heap w.drew b cur _ 64 _ hb
  have hvW : W1.heap[vb]? = some (.cells cur2 64 (0, 0)) := by rw [hW1, setRow_other w.drew b vb _ hvb]; exact hv
  have hcp2 : ∀ (W : World), W.heap = W1.heap → ∀ ty dc, (Builtin.copy_ #[58, 58] ty #[.slice (some ⟨b, i * 6, none⟩) (n + 1 - i) dc, .slice (some ⟨vb, 0, none⟩) 1 vc]).run Try.prog W = .ok (goInt (Nat.min 1 (n + 1 - i))) (W.setRow b C2.toArray) := fun W hW ty dc => by
    have h := run_copy_row (P := Try.prog) W 58 58 ty 64 6 b (i * 6) (n + 1 - i) dc ⟨vb, 0, none⟩ 1 vc vs C1.toArray 64 ht hty (by rw [hvl]; simp only [Nat.min_def]; split <;> omega)
      (fun j v hj => by rw [Addr.add_lit, Nat.zero_add]; exact cell_row (w := W) (by rw [hW]; exact hvW) hvs j v hj) (by rw [hW]; exact hbW) (by rw [hvl, List.size_toArray, l1]; omega) h1v
    rw [h, hC2]
  have hout : ∀ W, Ev w W (fun q => q = b) → W.heap = W1.heap → InsOut w 64 6 (.slice (some ⟨b, 0, none⟩) n c) (n + 1) (cs.take (i * 6) ++ vs ++ cs.drop (i * 6)) (.slice (some ⟨b, 0, none⟩) (n + 1) c) (W.setRow b C2.toArray) := fun W hE hW =>
    ⟨by rw [← l3, List.length_take, l2]; omega, ⟨b, c, C2.toArray, rfl, setRow_heap W b C1.toArray _ 64 _ (by rw [hW]; exact hbW), hroom, hmax, by rw [List.size_toArray, l2, Array.length_toList, hsz], by simpa using l3, .inl rfl⟩,
      ev_trans ⟨hE.os, hE.tape, hE.output, hE.size, fun q hq hn => hE.block q hq (fun e => hn (by rw [e]; rfl))⟩ (ev_setRow W b _ _ rfl)⟩
  have hE1 : Ev w W1 (fun q => q = b) := by rw [hW1]; exact ⟨rfl, rfl, rfl, by rw [setRow_size]; exact Nat.le_refl _, fun q _ hq => setRow_other w.drew b q _ hq⟩
  rw [← hW1] at hcp1
  generalize InsOut w 64 6 (.slice (some ⟨b, 0, none⟩) n c) (n + 1) (cs.take (i * 6) ++ vs ++ cs.drop (i * 6)) = IO at hout ⊢
  clear l1 l2 l3 hfit hC1 hC2 hbW hvW hcs hvs hsz
  go_enter Try.func61, Try.ntmps61
  go_wp2_with (simp only [hov])
  go_region_law_o (refine step_copy_runI rfl _ _ 58 58 rfl _ _ (by simp [Act.eval, Act.put]) (by simp [Act.eval, Act.put]) (hcp1 _ _ _) ?_)
  go_wp2_with (at_builtin; refine wpList_copy_runI _ rfl _ _ 58 58 rfl _ _ rfl rfl (hcp2 _ rfl _ _) ?_)
  go_ret
  rw [← hW1]
  exact ⟨_, rfl, hout _ ⟨hE1.os, hE1.tape, hE1.output, hE1.size, hE1.block⟩ rfl⟩

set_option maxHeartbeats 4000000 in
set_option maxRecDepth 100000 in
theorem vinM_end (s0 : Value) (n vb vc : Nat) (cs vs : List Value) (w : World) (hown : w.ownsRow 0 64 6 s0 n cs) (hbig : (n + 1) * 48 ≤ 140737488355328) (h63 : n + 1 ≤ maxLen)
    (hvs : ∀ j v, vs[j]? = some v → w.cell? ⟨vb, j, none⟩ = some v) (hvl : vs.length = 6) (h1v : ∀ v ∈ vs, v.oneCell' = true) :
    Calls Try.prog 61 #[s0, .int .i64 n, .slice (some ⟨vb, 0, none⟩) 1 vc] w fun e w' => ∃ s', e = .returned s' ∧ InsOut w 64 6 s0 (n + 1) (cs ++ vs) s' w' := by
  have ht : Try.prog.underlying 58 = some (.slice 64) := Try.underlying58
  obtain ⟨i0, hi0, hz0, hzs, hzb⟩ := info_parts (P := Try.prog) (e := 64) (z := .agg #[.int .i64 0, .int .i64 0, .int .i64 0, .int .i64 0, .int .i64 0, .int .i64 0]) (size := 6) (bytes := 48) (by kernel_rfl)
  have hrun : ∀ ty, ∃ v' w', (Builtin.append_ #[58, 58] ty #[s0, .slice (some ⟨vb, 0, none⟩) 1 vc]).run Try.prog w = .ok v' w' ∧ InsOut w 64 6 s0 (n + 1) (cs ++ vs) v' w' := fun ty =>
    run_append_end (P := Try.prog) w 58 ty 64 i0 _ 6 48 ht hi0 hz0 hzs hzb rfl (by omega) s0 n cs hown ⟨vb, 0, none⟩ 1 vc (by omega) vs (by rw [hvl]) (fun j u hj => by rw [Addr.add_lit, Nat.zero_add]; exact hvs j u hj) h1v h63 hbig
  have hn0 : (0 : Int) ≤ (n : Int) := by omega
  generalize InsOut w 64 6 s0 (n + 1) (cs ++ vs) = IO at hrun ⊢
  have hsh : (s0 = .slice none 0 0 ∧ n = 0) ∨ ∃ g cap, s0 = .slice (some ⟨g, 0, none⟩) n cap ∧ n ≤ cap := by
    rcases hown.2 with h | ⟨g, cap, cur, h1, _, _, h2, _⟩
    · exact .inl h
    · exact .inr ⟨g, cap, h1, h2⟩
  clear hown
  obtain ⟨v1, w1, r1, o1⟩ := hrun 58
  rcases hsh with ⟨rfl, rfl⟩ | ⟨g, cap, rfl, hcap⟩
  · go_enter Try.func61, Try.ntmps61
    go_wp2_with (at_builtin; refine Lib.wpList_append_run _ rfl _ _ _ _ rfl _ _ rfl rfl _ _ r1 ?_)
    go_ret
    exact ⟨_, rfl, o1⟩
  · go_enter Try.func61, Try.ntmps61
    go_wp2_with (at_builtin; refine Lib.wpList_append_run _ rfl _ _ _ _ rfl _ _ rfl rfl _ _ r1 ?_)
    all_goals (go_ret; exact ⟨_, rfl, o1⟩)

set_option maxHeartbeats 4000000 in
set_option maxRecDepth 100000 in
theorem vinM_grow (b n c i vb vc : Nat) (cs vs : List Value) (cur cur2 : Array Value) (w : World) (hi : i < n) (hnc : n ≤ c) (hroom : c < n + 1) (h63 : n + 1 ≤ maxLen) (hbig : (n + 1) * 48 ≤ 140737488355328)
    (hb : w.heap[b]? = some (.cells cur 64 (0, 0))) (hsz : cur.size = c * 6) (hcs : cur.toList.take (n * 6) = cs) (hcl : cs.length = n * 6)
    (hv : w.heap[vb]? = some (.cells cur2 64 (0, 0))) (hvs : cur2.toList.take 6 = vs) (hvl : vs.length = 6) (h1c : ∀ v ∈ cs, v.oneCell' = true) (h1v : ∀ v ∈ vs, v.oneCell' = true) :
    Calls Try.prog 61 #[.slice (some ⟨b, 0, none⟩) n c, .int .i64 i, .slice (some ⟨vb, 0, none⟩) 1 vc] w fun e w' =>
      ∃ s', e = .returned s' ∧ InsOut w 64 6 (.slice (some ⟨b, 0, none⟩) n c) (n + 1) (cs.take (i * 6) ++ vs ++ cs.drop (i * 6)) s' w' := by
  have hz2 : ¬ ((i : Int) = (n : Int)) := by omega
  have hz3 : (c : Int) < (n : Int) + 1 := by omega
  have hin : i ≤ n := by omega
  have hty : (Try.prog.info? 64).map (·.size) = some 6 := by kernel_rfl
  have ht : Try.prog.underlying 58 = some (.slice 64) := Try.underlying58
  have ht3 : Try.prog.underlying 3 = some (.int .i64) := Try.underlying3
  obtain ⟨i0, hi0, hz0, hzs, hzb⟩ := info_parts (P := Try.prog) (e := 64) (z := .agg #[.int .i64 0, .int .i64 0, .int .i64 0, .int .i64 0, .int .i64 0, .int .i64 0]) (size := 6) (bytes := 48) (by kernel_rfl)
  have h63' : n + 1 ≤ 9223372036854775807 := by simp only [maxLen] at h63; omega
  have hbw : b < w.heap.size := (Array.getElem?_eq_some_iff.1 hb).1
  have hvw : vb < w.heap.size := (Array.getElem?_eq_some_iff.1 hv).1
  have hik : i + (n + 1 - i) = n + 1 := by omega
  have hkk : (n : Int) + 1 - (i : Int) = ((n + 1 - i : Nat) : Int) := by omega
  have hold : (Builtin.firstCells i0.size i (.slice (some ⟨b, 0, none⟩) i c)).run Try.prog w.drew = .ok (cs.take (i * 6)).toArray w.drew := by
    rw [hzs]
    exact run_firstCells_some w.drew 6 i ⟨b, 0, none⟩ i c (cs.take (i * 6)) (by rw [List.length_take, hcl]; omega) (fun j v hj => by
      rw [Addr.add_lit, Nat.zero_add]
      rw [List.getElem?_take] at hj
      split at hj
      · exact cell_row (w := w.drew) hb hcs j v hj
      · cases hj)
  generalize hz : ((.agg #[.int .i64 0, .int .i64 0, .int .i64 0, .int .i64 0, .int .i64 0, .int .i64 0] : Value)) = z at hz0
  have hzc : z.cells.size = 6 := by rw [← hz]; rfl
  have hge := grownCap_ge w (n + 1) c 64
  have hgm := grownCap_le_maxLen w (n + 1) c 64 h63
  obtain ⟨G, hG⟩ : ∃ G, G = grownCap w (n + 1) c 64 := ⟨_, rfl⟩
  obtain ⟨ROW, hROW⟩ : ∃ ROW : Array Value, ROW = (cs.take (i * 6)).toArray ++ Builtin.zeroCells z.cells (n + 1 - i) ++ Builtin.zeroCells z.cells (G - (n + 1)) := ⟨_, rfl⟩
  have hrz : ∀ ty, (Builtin.append_ #[58, 3] ty #[.slice (some ⟨b, 0, none⟩) i c, .int .i64 ((n : Int) + 1 - (i : Int))]).run Try.prog w =
      .ok (.slice (some ⟨w.heap.size, 0, none⟩) (n + 1) G) (w.drew.alloc (.cells ROW 64)) := fun ty => by
    have h := Lib.run_append_grow_zeros w 58 3 ty 64 i0 z .i64 .i64 ht ht3 hi0 hz0 (some ⟨b, 0, none⟩) i c (cs.take (i * 6)) hold (n + 1 - i) (by omega) (by omega) (by omega) (by omega) (by rw [hzb]; omega) (by rw [hzb, hik]; exact growslice_fits hroom hbig)
    rw [hik] at h
    rw [hkk, h, hG, hROW, hG]
  rw [← hG] at hge hgm
  have htl : (cs.take (i * 6)).length = i * 6 := by rw [List.length_take, hcl]; omega
  have hdl : (cs.drop (i * 6)).length = (n - i) * 6 := by rw [List.length_drop, hcl]; omega
  have hRs : ROW.size = G * 6 := by
    rw [hROW]
    simp only [Array.size_append, List.size_toArray, htl, size_zeroCells, hzc]
    rw [← Nat.add_mul, ← Nat.add_mul]
    congr 1
    omega
  have hRt : ROW.toList.take (i * 6) = cs.take (i * 6) := by
    rw [hROW]
    simp only [Array.toList_append, List.append_assoc]
    rw [List.take_append_of_le_length (by omega), List.take_of_length_le (by omega)]
  obtain ⟨W1, hW1⟩ : ∃ W1, W1 = w.drew.alloc (.cells ROW 64) := ⟨_, rfl⟩
  rw [← hW1] at hrz
  have hNb : W1.heap[w.heap.size]? = some (.cells ROW 64 (0, 0)) := by rw [hW1]; exact heap_alloc_new w.drew _
  have hOld : ∀ q, q < w.heap.size → W1.heap[q]? = w.heap[q]? := fun q hq => by rw [hW1]; first | exact heap_alloc_old w.drew _ hq | exact heap_alloc_old w.drew _ q hq
  obtain ⟨C1, hC1⟩ : ∃ C1, C1 = ROW.toList.take (i * 6) ++ vs ++ ROW.toList.drop (i * 6 + vs.length) := ⟨_, rfl⟩
  have hGi : (n + 1) * 6 ≤ G * 6 := Nat.mul_le_mul_right 6 hge
  have hl1 : C1.length = G * 6 := by
    rw [hC1]
    simp only [List.length_append, List.length_take, List.length_drop, Array.length_toList, hRs, hvl]
    omega
  have hcpA : ∀ (W : World), W.heap = W1.heap → ∀ ty dc, (Builtin.copy_ #[58, 58] ty #[.slice (some ⟨w.heap.size, i * 6, none⟩) (n + 1 - i) dc, .slice (some ⟨vb, 0, none⟩) 1 vc]).run Try.prog W = .ok (goInt (Nat.min 1 (n + 1 - i))) (W.setRow w.heap.size C1.toArray) := fun W hW ty dc => by
    have h := run_copy_row (P := Try.prog) W 58 58 ty 64 6 w.heap.size (i * 6) (n + 1 - i) dc ⟨vb, 0, none⟩ 1 vc vs ROW 64 ht hty (by rw [hvl]; simp only [Nat.min_def]; split <;> omega)
      (fun j v hj => by rw [Addr.add_lit, Nat.zero_add]; exact cell_row (w := W) (by rw [hW, hOld vb hvw]; exact hv) hvs j v hj) (by rw [hW]; exact hNb) (by rw [hvl, hRs]; omega) h1v
    rw [h, hC1]
  obtain ⟨C2, hC2⟩ : ∃ C2, C2 = C1.take ((i + 1) * 6) ++ cs.drop (i * 6) ++ C1.drop ((i + 1) * 6 + (cs.drop (i * 6)).length) := ⟨_, rfl⟩
  have hcpB : ∀ (W : World), W.heap = (W1.setRow w.heap.size C1.toArray).heap → ∀ ty dc sc, (Builtin.copy_ #[58, 58] ty #[.slice (some ⟨w.heap.size, (i + 1) * 6, none⟩) (n - i) dc, .slice (some ⟨b, i * 6, none⟩) (n - i) sc]).run Try.prog W = .ok (goInt (Nat.min (n - i) (n - i))) (W.setRow w.heap.size C2.toArray) := fun W hW ty dc sc => by
    have h := run_copy_row (P := Try.prog) W 58 58 ty 64 6 w.heap.size ((i + 1) * 6) (n - i) dc ⟨b, i * 6, none⟩ (n - i) sc (cs.drop (i * 6)) C1.toArray 64 ht hty (by rw [hdl, show Nat.min (n - i) (n - i) = n - i from Nat.min_self _])
      (fun j v hj => by rw [Addr.add_lit]; exact cell_row (w := W) (by rw [hW, setRow_other W1 w.heap.size b _ (by omega), hOld b hbw]; exact hb) hcs (i * 6 + j) v (by rwa [List.getElem?_drop] at hj)) (by rw [hW]; exact setRow_heap W1 w.heap.size ROW _ 64 _ hNb) (by rw [hdl, List.size_toArray, hl1]; omega) (fun v hv => h1c v (List.mem_of_mem_drop hv))
    rw [h, hC2]
  have hl2 : C2.length = G * 6 := by
    rw [hC2]
    simp only [List.length_append, List.length_take, List.length_drop, hl1, hdl, hcl]
    omega
  have hfin : C2.take ((n + 1) * 6) = cs.take (i * 6) ++ vs ++ cs.drop (i * 6) := by
    have e1 : C1.take ((i + 1) * 6) = cs.take (i * 6) ++ vs := by
      rw [hC1, hRt]
      have : (cs.take (i * 6) ++ vs).length = (i + 1) * 6 := by rw [List.length_append, htl, hvl]; omega
      rw [← this]; exact List.take_left
    rw [hC2, e1]
    have : (cs.take (i * 6) ++ vs ++ cs.drop (i * 6)).length = (n + 1) * 6 := by simp only [List.length_append, htl, hvl, hdl]; omega
    rw [← this]; exact List.take_left
  have hout : ∀ W, Ev w W (fun _ => False) → W.heap = (W1.setRow w.heap.size C1.toArray).heap → InsOut w 64 6 (.slice (some ⟨b, 0, none⟩) n c) (n + 1) (cs.take (i * 6) ++ vs ++ cs.drop (i * 6)) (.slice (some ⟨w.heap.size, 0, none⟩) (n + 1) G) (W.setRow w.heap.size C2.toArray) := fun W hE hW =>
    insOut_new w 64 6 _ (n + 1) _ G C2.toArray _ ⟨hE.os, hE.tape, hE.output, by rw [setRow_size]; exact hE.size, fun q hq hn => (setRow_other W w.heap.size q _ (by omega)).trans (hE.block q hq hn)⟩
      (by rw [← hfin, List.length_take, hl2]; omega) hge hgm (by rw [List.size_toArray, hl2]) (by simpa using hfin) (setRow_heap W w.heap.size C1.toArray _ 64 _ (by rw [hW]; exact setRow_heap W1 w.heap.size ROW _ 64 _ hNb))
  have hE1 : Ev w (W1.setRow w.heap.size C1.toArray) (fun _ => False) := by
    refine ⟨?_, ?_, ?_, ?_, fun q hq _ => ?_⟩
    · rw [hW1]; rfl
    · rw [hW1]; rfl
    · rw [hW1]; rfl
    · rw [setRow_size, hW1]; simp
    · rw [setRow_other W1 w.heap.size q _ (by omega), hOld q hq]
  obtain ⟨IO, hIO⟩ : ∃ IO, IO = InsOut w 64 6 (.slice (some ⟨b, 0, none⟩) n c) (n + 1) (cs.take (i * 6) ++ vs ++ cs.drop (i * 6)) := ⟨_, rfl⟩
  rw [← hIO] at hout ⊢
  have hn0 : (0 : Int) ≤ (n : Int) + 1 - (i : Int) := by omega
  have hw1 : IntKind.i64.wrap ((i : Int) + 1) = (i : Int) + 1 := by rw [IntKind.wrap_i64]; omega
  have hw2 : IntKind.i64.wrap ((n : Int) + 1) = (n : Int) + 1 := by rw [IntKind.wrap_i64]; omega
  have hw3 : IntKind.i64.wrap ((n : Int) + 1 - (i : Int)) = (n : Int) + 1 - (i : Int) := by rw [IntKind.wrap_i64]; omega
  have hb1 : (0 : Int) ≤ (i : Int) + 1 := by omega
  have htn : ((i : Int) + 1).toNat = i + 1 := by omega
  have htn2 : ((n : Int) + 1).toNat = n + 1 := by omega
  have hb3 : (i : Int) + 1 ≤ (n : Int) + 1 := by omega
  have hb5 : (i : Int) ≤ (n : Int) + 1 := by omega
  have hb6 : (i : Int) ≤ (c : Int) := by omega
  have hb2 : ¬ (G = i + 1) := by omega
  have hb4 : ¬ (G = i) := by omega
  have hb7 : ¬ (c = i) := by omega
  have mixed : Try.prog.follows .mixedOrders = true := by kernel_rfl
  have hcpB2 := fun ty dc sc => hcpB (W1.setRow w.heap.size C1.toArray).drew rfl ty dc sc
  clear hW1 hG hkk hIO hfin hl2 hC2 hl1 hC1 hOld hNb hRt hRs hROW hold hb hv hsz hcs hvs hcpB
  go_enter Try.func61, Try.ntmps61
  go_wp2_with (at_builtin; first
    | refine Lib.wpList_append_run _ rfl _ _ _ _ rfl _ _ rfl rfl _ _ (hrz _) ?_
    | refine wpList_copy_runI _ rfl _ _ 58 58 rfl _ _ rfl rfl (hcpA _ rfl _ _) ?_)
  go_region_law_o (refine step_copy_runI rfl _ _ 58 58 rfl _ _ (by simp [Act.eval, Act.put]) (by simp [Act.eval, Act.put]) (hcpB2 _ _ _) ?_)
  go_wp2
  go_ret
  exact ⟨_, rfl, hout _ ⟨hE1.os, hE1.tape, hE1.output, hE1.size, hE1.block⟩ rfl⟩
theorem vinM_walk : InsWalk Try.prog 61 64 6 48 := by
  intro w s0 n i vb vc cs vs cur2 hi hbig h63 hown hne hvb hvs hvl h1c h1v
  by_cases hin : i = n
  · subst hin
    have h := vinM_end s0 i vb vc cs vs w hown hbig h63 (fun j v hj => cell_row hvb hvs j v hj) hvl h1v
    rw [List.take_of_length_le (by rw [hown.1]; exact Nat.le_refl _), List.drop_eq_nil_of_le (by rw [hown.1]; exact Nat.le_refl _), List.append_nil]
    exact h
  · rcases hown.2 with ⟨rfl, rfl⟩ | ⟨g, cap, cur, rfl, _, hg, hnc, hm, hs, hcs⟩
    · omega
    · by_cases hroom : n + 1 ≤ cap
      · exact vinM_shift g n cap i vb vc cs vs cur cur2 w (by omega) hroom hm (fun e => hne (by rw [e]; rfl)) hg hs hcs hown.1 hvb hvs hvl h1c h1v
      · exact vinM_grow g n cap i vb vc cs vs cur cur2 w (by omega) hnc (by omega) h63 hbig hg hs hcs hown.1 hvb hvs hvl h1c h1v
end Go.Proofs
namespace Go.AL
open Go.Proofs
set_option linter.unusedVariables false
set_option linter.unusedSimpArgs false
end Go.AL
namespace Go.Proofs
open Go.Shelf Go.RowKit Go.Lib Go.AL
set_option linter.unusedVariables false
set_option linter.unusedSimpArgs false
set_option maxHeartbeats 4000000 in
set_option maxRecDepth 100000 in
theorem vdeP_walk (b N c i : Nat) (cs : List Value) (cur : Array Value) (w : World) (hi : i ≤ N) (hnc : N + 1 ≤ c) (hmax : c ≤ maxLen)
    (hb : w.heap[b]? = some (.cells cur 60 (0, 0))) (hsz : cur.size = c * 4) (hcs : cur.toList.take ((N + 1) * 4) = cs) (hcl : cs.length = (N + 1) * 4) (h1c : ∀ v ∈ cs, v.oneCell' = true) :
    Calls Try.prog 83 #[.slice (some ⟨b, 0, none⟩) (N + 1) c, .int .i64 i, .int .i64 ((i : Int) + 1)] w fun e w' =>
      ∃ s', e = .returned s' ∧ InsOut w 60 4 (.slice (some ⟨b, 0, none⟩) (N + 1) c) N (cs.take (i * 4) ++ cs.drop ((i + 1) * 4)) s' w' := by
  have hc63 : c ≤ 9223372036854775807 := by simp only [maxLen] at hmax; omega
  have hty : (Try.prog.info? 60).map (·.size) = some 4 := by kernel_rfl
  have ht : Try.prog.underlying 22 = some (.slice 60) := Try.underlying22
  obtain ⟨i0, hi0, hz0, hzs, hzb⟩ := info_parts (P := Try.prog) (e := 60) (z := .agg #[.int .i64 0, .int .i64 0, .int .i64 0, .slice none 0 0]) (size := 4) (bytes := 48) (by kernel_rfl)
  obtain ⟨news, hnews⟩ : ∃ news, news = cs.drop ((i + 1) * 4) := ⟨_, rfl⟩
  have hnl : news.length = (N - i) * 4 := by rw [hnews, List.length_drop, hcl]; omega
  obtain ⟨C1, hC1⟩ : ∃ C1, C1 = cur.toList.take (i * 4) ++ news ++ cur.toList.drop (i * 4 + news.length) := ⟨_, rfl⟩
  have hcN : (N + 1) * 4 ≤ c * 4 := Nat.mul_le_mul_right 4 hnc
  have hl1 : C1.length = c * 4 := by
    rw [hC1]
    simp only [List.length_append, List.length_take, List.length_drop, Array.length_toList, hsz, hnl]
    omega
  obtain ⟨A, hA, hsrc⟩ : ∃ A : Addr, (if c = i + 1 then some (⟨b, 0, none⟩ : Addr) else some ⟨b, (i + 1) * 4, none⟩) = some A ∧ (∀ t u, news[t]? = some u → w.drew.cell? (A.add t) = some u) := by
    by_cases h : c = i + 1
    · refine ⟨⟨b, 0, none⟩, by simp [h], fun t u hu => ?_⟩
      have h0 : news.length = 0 := by rw [hnl]; omega
      rw [List.length_eq_zero_iff.1 h0] at hu
      simp at hu
    · refine ⟨⟨b, (i + 1) * 4, none⟩, by simp [h], fun t u hu => ?_⟩
      rw [Addr.add_lit]
      exact cell_row (w := w.drew) hb hcs _ u (by rw [hnews, List.getElem?_drop] at hu; exact hu)
  have hap : ∀ ty, (Builtin.append_ #[22, 22] ty #[.slice (some ⟨b, 0, none⟩) i c, .slice (some A) (N - i) (c - (i + 1))]).run Try.prog w.drew = .ok (.slice (some ⟨b, 0, none⟩) N c) (w.drew.setRow b C1.toArray) := fun ty => by
    have h := run_append_room (P := Try.prog) w.drew 22 ty 60 i0 ht hi0 b i c cur hb A (N - i) (c - (i + 1)) news (by rw [hzs]; exact hnl) hsrc (fun u hu => h1c u (by rw [hnews] at hu; exact List.mem_of_mem_drop hu)) (by omega) (by rw [hzs, hnl, hsz]; omega)
    rw [show i + (N - i) = N by omega] at h
    rw [h, hC1, hzs]
  obtain ⟨W1, hW1⟩ : ∃ W1, W1 = w.drew.setRow b C1.toArray := ⟨_, rfl⟩
  have hbW : W1.heap[b]? = some (.cells C1.toArray 60 (0, 0)) := by rw [hW1]; exact setRow_heap w.drew b cur _ 60 _ hb
  have hE1 : Ev w W1 (fun q => q = b) := by rw [hW1]; exact ⟨rfl, rfl, rfl, by rw [setRow_size]; exact Nat.le_refl _, fun q _ hq => setRow_other w.drew b q _ hq⟩
  rw [← hW1] at hap
  obtain ⟨zs, hzl, hcle0⟩ := run_clear_row (P := Try.prog) W1 22 60 0 (.agg #[.int .i64 0, .int .i64 0, .int .i64 0, .slice none 0 0]) 4 ht (fun w => by kernel_rfl) rfl (by intro v hv; simp [Value.cells] at hv; repeat (first | (subst hv; rfl) | (rcases hv with rfl | hv; · rfl))) b (N * 4) (c - N) C1.toArray hbW (by rw [List.size_toArray, hl1]; omega)
  obtain ⟨C2, hC2⟩ : ∃ C2, C2 = C1.take (N * 4) ++ zs ++ C1.drop (N * 4 + zs.length) := ⟨_, rfl⟩
  have hcle : ∀ ty, (Builtin.clear_ #[22] ty #[.slice (some ⟨b, N * 4, none⟩) 1 (c - N)]).run Try.prog W1 = .ok (.tuple #[]) (W1.setRow b C2.toArray) := fun ty => by rw [hC2]; exact hcle0
  have hl2 : C2.length = c * 4 := by
    rw [hC2]
    simp only [List.length_append, List.length_take, List.length_drop, hl1, hzl]
    omega
  have hfin : C2.take (N * 4) = cs.take (i * 4) ++ news := by
    have e0 : cur.toList.take (i * 4) = cs.take (i * 4) := by
      rw [← hcs, List.take_take]; congr 1; omega
    have htl : (cs.take (i * 4)).length = i * 4 := by rw [List.length_take, hcl]; omega
    have hl : (cs.take (i * 4) ++ news).length = N * 4 := by rw [List.length_append, htl, hnl]; omega
    have e1 : C1.take (N * 4) = cs.take (i * 4) ++ news := by
      rw [hC1, e0, ← hl]; exact List.take_left
    rw [hC2, e1, List.append_assoc, ← hl]; exact List.take_left
  have hout : InsOut w 60 4 (.slice (some ⟨b, 0, none⟩) (N + 1) c) N (cs.take (i * 4) ++ news) (.slice (some ⟨b, 0, none⟩) N c) (W1.setRow b C2.toArray) :=
    ⟨by rw [← hfin, List.length_take, hl2]; omega, ⟨b, c, C2.toArray, rfl, setRow_heap W1 b C1.toArray _ 60 _ hbW, by omega, hmax, by rw [List.size_toArray, hl2], by simpa using hfin, .inl rfl⟩,
      ev_trans ⟨hE1.os, hE1.tape, hE1.output, hE1.size, fun q hq hn => hE1.block q hq (fun e => hn (by rw [e]; rfl))⟩ (ev_setRow W1 b _ _ rfl)⟩
  rw [← hnews]
  obtain ⟨IO, hIO⟩ : ∃ IO, IO = InsOut w 60 4 (.slice (some ⟨b, 0, none⟩) (N + 1) c) N (cs.take (i * 4) ++ news) := ⟨_, rfl⟩
  rw [← hIO] at hout ⊢
  have hz2 : ¬ ((i : Int) = (i : Int) + 1) := by omega
  have hb1 : (0 : Int) ≤ (i : Int) + 1 := by omega
  have htn : ((i : Int) + 1).toNat = i + 1 := by omega
  have hb3 : (i : Int) + 1 ≤ (N : Int) + 1 := by omega
  have hb5 : (i : Int) ≤ (i : Int) + 1 := by omega
  have hb6 : (N : Int) + 1 ≤ (c : Int) := by omega
  have hb7 : (i : Int) ≤ (c : Int) := by omega
  have hb8 : (N : Int) ≤ (N : Int) + 1 := by omega
  have hb9 : ¬ (c = N) := by omega
  have hb10 : i ≤ c := by omega
  have hb11 : i + 1 ≤ c := by omega
  have htn2 : ((N : Int) + 1).toNat = N + 1 := by omega
  have mixed : Try.prog.follows .mixedOrders = true := by kernel_rfl
  clear hcle0 hIO hfin hl2 hC2 hl1 hC1 hbW hb hsz hcs hsrc hnl hnews hE1 hW1
  go_enter Try.func83, Try.ntmps83
  go_wp2_with fail
  go_region_law_o (refine step_append_runI rfl (.tmp 22) (.tmp 25) 22 22 rfl _ _ (by simp [Act.eval, Act.put]) (by simp [Act.eval, Act.put, hA]) (hap _) ?_)
  go_wp2
  go_ret
  exact ⟨_, rfl, hout⟩
end Go.Proofs
namespace Go.AL
open Go.Proofs
set_option linter.unusedVariables false
set_option linter.unusedSimpArgs false
end Go.AL
namespace Go.Proofs
open Go.Shelf Go.RowKit Go.Lib Go.AL
set_option linter.unusedVariables false
set_option linter.unusedSimpArgs false
set_option maxHeartbeats 4000000 in
set_option maxRecDepth 100000 in
theorem vdeM_walk (b N c i : Nat) (cs : List Value) (cur : Array Value) (w : World) (hi : i ≤ N) (hnc : N + 1 ≤ c) (hmax : c ≤ maxLen)
    (hb : w.heap[b]? = some (.cells cur 64 (0, 0))) (hsz : cur.size = c * 6) (hcs : cur.toList.take ((N + 1) * 6) = cs) (hcl : cs.length = (N + 1) * 6) (h1c : ∀ v ∈ cs, v.oneCell' = true) :
    Calls Try.prog 82 #[.slice (some ⟨b, 0, none⟩) (N + 1) c, .int .i64 i, .int .i64 ((i : Int) + 1)] w fun e w' =>
      ∃ s', e = .returned s' ∧ InsOut w 64 6 (.slice (some ⟨b, 0, none⟩) (N + 1) c) N (cs.take (i * 6) ++ cs.drop ((i + 1) * 6)) s' w' := by
  have hc63 : c ≤ 9223372036854775807 := by simp only [maxLen] at hmax; omega
  have hty : (Try.prog.info? 64).map (·.size) = some 6 := by kernel_rfl
  have ht : Try.prog.underlying 58 = some (.slice 64) := Try.underlying58
  obtain ⟨i0, hi0, hz0, hzs, hzb⟩ := info_parts (P := Try.prog) (e := 64) (z := .agg #[.int .i64 0, .int .i64 0, .int .i64 0, .int .i64 0, .int .i64 0, .int .i64 0]) (size := 6) (bytes := 48) (by kernel_rfl)
  obtain ⟨news, hnews⟩ : ∃ news, news = cs.drop ((i + 1) * 6) := ⟨_, rfl⟩
  have hnl : news.length = (N - i) * 6 := by rw [hnews, List.length_drop, hcl]; omega
  obtain ⟨C1, hC1⟩ : ∃ C1, C1 = cur.toList.take (i * 6) ++ news ++ cur.toList.drop (i * 6 + news.length) := ⟨_, rfl⟩
  have hcN : (N + 1) * 6 ≤ c * 6 := Nat.mul_le_mul_right 6 hnc
  have hl1 : C1.length = c * 6 := by
    rw [hC1]
    simp only [List.length_append, List.length_take, List.length_drop, Array.length_toList, hsz, hnl]
    omega
  obtain ⟨A, hA, hsrc⟩ : ∃ A : Addr, (if c = i + 1 then some (⟨b, 0, none⟩ : Addr) else some ⟨b, (i + 1) * 6, none⟩) = some A ∧ (∀ t u, news[t]? = some u → w.drew.cell? (A.add t) = some u) := by
    by_cases h : c = i + 1
    · refine ⟨⟨b, 0, none⟩, by simp [h], fun t u hu => ?_⟩
      have h0 : news.length = 0 := by rw [hnl]; omega
      rw [List.length_eq_zero_iff.1 h0] at hu
      simp at hu
    · refine ⟨⟨b, (i + 1) * 6, none⟩, by simp [h], fun t u hu => ?_⟩
      rw [Addr.add_lit]
      exact cell_row (w := w.drew) hb hcs _ u (by rw [hnews, List.getElem?_drop] at hu; exact hu)
  have hap : ∀ ty, (Builtin.append_ #[58, 58] ty #[.slice (some ⟨b, 0, none⟩) i c, .slice (some A) (N - i) (c - (i + 1))]).run Try.prog w.drew = .ok (.slice (some ⟨b, 0, none⟩) N c) (w.drew.setRow b C1.toArray) := fun ty => by
    have h := run_append_room (P := Try.prog) w.drew 58 ty 64 i0 ht hi0 b i c cur hb A (N - i) (c - (i + 1)) news (by rw [hzs]; exact hnl) hsrc (fun u hu => h1c u (by rw [hnews] at hu; exact List.mem_of_mem_drop hu)) (by omega) (by rw [hzs, hnl, hsz]; omega)
    rw [show i + (N - i) = N by omega] at h
    rw [h, hC1, hzs]
  obtain ⟨W1, hW1⟩ : ∃ W1, W1 = w.drew.setRow b C1.toArray := ⟨_, rfl⟩
  have hbW : W1.heap[b]? = some (.cells C1.toArray 64 (0, 0)) := by rw [hW1]; exact setRow_heap w.drew b cur _ 64 _ hb
  have hE1 : Ev w W1 (fun q => q = b) := by rw [hW1]; exact ⟨rfl, rfl, rfl, by rw [setRow_size]; exact Nat.le_refl _, fun q _ hq => setRow_other w.drew b q _ hq⟩
  rw [← hW1] at hap
  obtain ⟨zs, hzl, hcle0⟩ := run_clear_row (P := Try.prog) W1 58 64 0 (.agg #[.int .i64 0, .int .i64 0, .int .i64 0, .int .i64 0, .int .i64 0, .int .i64 0]) 6 ht (fun w => by kernel_rfl) rfl (by intro v hv; simp [Value.cells] at hv; repeat (first | (subst hv; rfl) | (rcases hv with rfl | hv; · rfl))) b (N * 6) (c - N) C1.toArray hbW (by rw [List.size_toArray, hl1]; omega)
  obtain ⟨C2, hC2⟩ : ∃ C2, C2 = C1.take (N * 6) ++ zs ++ C1.drop (N * 6 + zs.length) := ⟨_, rfl⟩
  have hcle : ∀ ty, (Builtin.clear_ #[58] ty #[.slice (some ⟨b, N * 6, none⟩) 1 (c - N)]).run Try.prog W1 = .ok (.tuple #[]) (W1.setRow b C2.toArray) := fun ty => by rw [hC2]; exact hcle0
  have hl2 : C2.length = c * 6 := by
    rw [hC2]
    simp only [List.length_append, List.length_take, List.length_drop, hl1, hzl]
    omega
  have hfin : C2.take (N * 6) = cs.take (i * 6) ++ news := by
    have e0 : cur.toList.take (i * 6) = cs.take (i * 6) := by
      rw [← hcs, List.take_take]; congr 1; omega
    have htl : (cs.take (i * 6)).length = i * 6 := by rw [List.length_take, hcl]; omega
    have hl : (cs.take (i * 6) ++ news).length = N * 6 := by rw [List.length_append, htl, hnl]; omega
    have e1 : C1.take (N * 6) = cs.take (i * 6) ++ news := by
      rw [hC1, e0, ← hl]; exact List.take_left
    rw [hC2, e1, List.append_assoc, ← hl]; exact List.take_left
  have hout : InsOut w 64 6 (.slice (some ⟨b, 0, none⟩) (N + 1) c) N (cs.take (i * 6) ++ news) (.slice (some ⟨b, 0, none⟩) N c) (W1.setRow b C2.toArray) :=
    ⟨by rw [← hfin, List.length_take, hl2]; omega, ⟨b, c, C2.toArray, rfl, setRow_heap W1 b C1.toArray _ 64 _ hbW, by omega, hmax, by rw [List.size_toArray, hl2], by simpa using hfin, .inl rfl⟩,
      ev_trans ⟨hE1.os, hE1.tape, hE1.output, hE1.size, fun q hq hn => hE1.block q hq (fun e => hn (by rw [e]; rfl))⟩ (ev_setRow W1 b _ _ rfl)⟩
  rw [← hnews]
  obtain ⟨IO, hIO⟩ : ∃ IO, IO = InsOut w 64 6 (.slice (some ⟨b, 0, none⟩) (N + 1) c) N (cs.take (i * 6) ++ news) := ⟨_, rfl⟩
  rw [← hIO] at hout ⊢
  have hz2 : ¬ ((i : Int) = (i : Int) + 1) := by omega
  have hb1 : (0 : Int) ≤ (i : Int) + 1 := by omega
  have htn : ((i : Int) + 1).toNat = i + 1 := by omega
  have hb3 : (i : Int) + 1 ≤ (N : Int) + 1 := by omega
  have hb5 : (i : Int) ≤ (i : Int) + 1 := by omega
  have hb6 : (N : Int) + 1 ≤ (c : Int) := by omega
  have hb7 : (i : Int) ≤ (c : Int) := by omega
  have hb8 : (N : Int) ≤ (N : Int) + 1 := by omega
  have hb9 : ¬ (c = N) := by omega
  have hb10 : i ≤ c := by omega
  have hb11 : i + 1 ≤ c := by omega
  have htn2 : ((N : Int) + 1).toNat = N + 1 := by omega
  have mixed : Try.prog.follows .mixedOrders = true := by kernel_rfl
  clear hcle0 hIO hfin hl2 hC2 hl1 hC1 hbW hb hsz hcs hsrc hnl hnews hE1 hW1
  go_enter Try.func82, Try.ntmps82
  go_wp2_with fail
  go_region_law_o (refine step_append_runI rfl (.tmp 22) (.tmp 25) 58 58 rfl _ _ (by simp [Act.eval, Act.put]) (by simp [Act.eval, Act.put, hA]) (hap _) ?_)
  go_wp2
  go_ret
  exact ⟨_, rfl, hout⟩
end Go.Proofs
namespace Go.AL
open Go.Proofs
set_option linter.unusedVariables false
set_option linter.unusedSimpArgs false
end Go.AL
