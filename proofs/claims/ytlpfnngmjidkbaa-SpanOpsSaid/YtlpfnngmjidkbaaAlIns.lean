/-
  Insert and Delete of slices of structs, walked: what their walks share. By an AI agent.
-/
import Derived.Shelf.Spec.SlicesInsertGrow
import Derived.Test.YtlpfnngmjidkbaaAxSort
namespace Go.Proofs
open Go.Shelf Go.RowKit Go.Lib Go.AL
variable {P : Program}
set_option linter.unusedVariables false
set_option linter.unusedSimpArgs false

theorem run_copy_row (w : World) (dT sT ty elem : TypeId) (k b o dLen dCap : Nat) (a : Addr) (sLen sCap : Nat) (cs : List Value) (cur : Array Value) (t : TypeId)
    (hu : P.underlying dT = some (.slice elem)) (hs : (P.info? elem).map (·.size) = some k) (hn : cs.length = Nat.min sLen dLen * k)
    (hsrc : ∀ j v, cs[j]? = some v → w.cell? (a.add j) = some v) (hb : w.heap[b]? = some (.cells cur t (0, 0))) (hfit : o + cs.length ≤ cur.size) (h1 : ∀ v ∈ cs, v.oneCell' = true) :
    (Builtin.copy_ #[dT, sT] ty #[.slice (some ⟨b, o, none⟩) dLen dCap, .slice (some a) sLen sCap]).run P w = .ok (goInt (Nat.min sLen dLen)) (w.setRow b (cur.toList.take o ++ cs ++ cur.toList.drop (o + cs.length)).toArray) := by
  have hl := run_loadCells_list (P := P) w a cs hsrc
  have hst := run_storeCells_at (P := P) b o t cs 0 cur w hb (by simpa using hfit) h1
  simp only [Nat.add_zero] at hst
  cases hq : P.info? elem with
  | none => simp [hq] at hs
  | some i =>
    have hi : i.size = k := by simpa [hq] using hs
    simp [Builtin.copy_, run_underlying hu, Builtin.lenOf, Builtin.firstCells, sizeOf, typeInfo, hq, hi, ← hn, hl, hst]

structure InsOut (w : World) (e : TypeId) (k : Nat) (s0 : Value) (n' : Nat) (xs : List Value) (s' : Value) (w' : World) : Prop where
  len : xs.length = n' * k
  row : ∃ g cap cur, s' = .slice (some ⟨g, 0, none⟩) n' cap ∧ w'.heap[g]? = some (.cells cur e (0, 0)) ∧ n' ≤ cap ∧ cap ≤ maxLen ∧ cur.size = cap * k ∧ cur.toList.take (n' * k) = xs ∧ (s0.ownBlock = some g ∨ w.heap.size ≤ g)
  ev : Ev w w' (fun q => s0.ownBlock = some q)

theorem insOut_new (w : World) (e : TypeId) (k : Nat) (s0 : Value) (n' : Nat) (xs : List Value) (cap : Nat) (cur : Array Value) (W : World) (hW : Ev w W (fun _ => False)) (hl : xs.length = n' * k) (hc : n' ≤ cap) (hm : cap ≤ maxLen) (hs : cur.size = cap * k) (ht : cur.toList.take (n' * k) = xs)
    (hg : W.heap[w.heap.size]? = some (.cells cur e (0, 0))) : InsOut w e k s0 n' xs (.slice (some ⟨w.heap.size, 0, none⟩) n' cap) W :=
  ⟨hl, ⟨_, _, _, rfl, hg, hc, hm, hs, ht, .inr (Nat.le_refl _)⟩, ⟨hW.os, hW.tape, hW.output, hW.size, fun q hq _ => hW.block q hq (fun h => h)⟩⟩

theorem run_append_end (w : World) (t ty e : TypeId) (i : TypeInfo) (z : Value) (size bytes : Nat) (ht : P.underlying t = some (.slice e)) (hi : P.info? e = some i) (hz : i.zero = some z)
    (hsize : i.size = size) (hby : i.bytes = bytes) (hzs : z.cells.size = size) (hsz : 0 < size)
    (v : Value) (n : Nat) (xs : List Value) (hown : w.ownsRow 0 e size v n xs)
    (a : Addr) (m c : Nat) (hm : 0 < m) (news : List Value) (hl : news.length = m * size) (hnews : ∀ j u, news[j]? = some u → w.cell? (a.add j) = some u) (h1 : ∀ u ∈ news, u.oneCell' = true)
    (h63 : n + m ≤ maxLen) (hbytes : (n + m) * bytes ≤ 140737488355328) :
    ∃ v' w', (Builtin.append_ #[t, t] ty #[v, .slice (some a) m c]).run P w = .ok v' w' ∧ InsOut w e size v (n + m) (xs ++ news) v' w' := by
  subst hsize
  subst hby
  have hsmall : n + m ≤ 9223372036854775807 := by simp only [maxLen] at h63; omega
  have hlen : (xs ++ news).length = (n + m) * i.size := by rw [List.length_append, hown.1, hl, Nat.add_mul]
  have grown : ∀ (old : Nat), old < n + m → InsOut w e i.size v (n + m) (xs ++ news) (.slice (some ⟨w.heap.size, 0, none⟩) (n + m) (grownCap w (n + m) old e))
      (w.drew.alloc (.cells (xs.toArray ++ news.toArray ++ Builtin.zeroCells z.cells (grownCap w (n + m) old e - (n + m))) e)) := by
    intro old ho
    have hge := grownCap_ge w (n + m) old e
    refine insOut_new w e i.size v (n + m) _ _ (xs.toArray ++ news.toArray ++ Builtin.zeroCells z.cells (grownCap w (n + m) old e - (n + m))) _ ⟨rfl, rfl, rfl, by simp, fun k hk _ => (by first | exact heap_alloc_old w.drew _ hk | exact heap_alloc_old w.drew _ k hk)⟩ hlen hge (grownCap_le_maxLen w (n + m) old e h63) ?_ ?_ (heap_alloc_new w.drew _)
    · simp only [Array.size_append, List.size_toArray, size_zeroCells, hzs, hown.1, hl, ← Nat.add_mul]
      congr 1
      omega
    · simp only [Array.toList_append, List.append_assoc]
      rw [← List.append_assoc, ← hlen]
      exact List.take_left
  rcases hown.2 with ⟨rfl, rfl⟩ | ⟨g, cap, cur, rfl, hbg, hg, hnc, hcm, hcs, htake⟩
  · have hx : xs = [] := List.eq_nil_of_length_eq_zero (by simpa using hown.1)
    subst hx
    have hr := run_append_nil (P := P) w t ty e i z ht hi hz a m c news hl hnews (by omega) (by omega) (by have hb := hbytes; simp only [Nat.zero_add] at hb; omega)
    have hgr := grown 0 (by omega)
    simp only [Nat.zero_add, List.nil_append, Array.empty_append] at hgr ⊢
    exact ⟨_, _, hr, hgr⟩
  · by_cases hroom : n + m ≤ cap
    · have hfit : n * i.size + news.length ≤ cur.size := by rw [hl, hcs, ← Nat.add_mul]; exact Nat.mul_le_mul_right _ hroom
      have hr := run_append_room (P := P) w t ty e i ht hi g n cap cur hg a m c news hl hnews h1 hroom hfit
      refine ⟨_, _, hr, hlen, ⟨g, cap, _, rfl, setRow_heap w g cur _ e _ hg, hroom, hcm, ?_, ?_, .inl rfl⟩, ⟨rfl, rfl, rfl, by simp, fun k _ hk => setRow_other w g k _ (fun e => hk (by simp [Value.ownBlock, e]))⟩⟩
      · simp only [List.size_toArray, List.length_append, List.length_take, List.length_drop, Array.length_toList]
        omega
      · rw [htake, ← hlen]
        exact List.take_left
    · have holds : ∀ j u, xs[j]? = some u → w.cell? ((⟨g, 0, none⟩ : Addr).add j) = some u := hown.cells (g := g) rfl
      have hr := run_append_grow (P := P) w t ty e i z ht hi hz ⟨g, 0, none⟩ n cap xs hown.1 holds a m c news hl hnews (by omega) (by omega) (growslice_fits (by omega) hbytes)
      exact ⟨_, _, hr, grown cap (by omega)⟩

theorem ins_lists {α : Type} {cur cs vs : List α} {n i k : Nat} (hi : i ≤ n) (hcs : cur.take (n * k) = cs) (hcl : cs.length = n * k) (hvl : vs.length = k) (hfit : (n + 1) * k ≤ cur.length) :
    let cur1 := cur.take ((i + 1) * k) ++ cs.drop (i * k) ++ cur.drop ((i + 1) * k + (cs.drop (i * k)).length)
    let cur2 := cur1.take (i * k) ++ vs ++ cur1.drop (i * k + vs.length)
    cur1.length = cur.length ∧ cur2.length = cur.length ∧ cur2.take ((n + 1) * k) = cs.take (i * k) ++ vs ++ cs.drop (i * k) := by
  intro cur1 cur2
  have h1 : i * k ≤ n * k := Nat.mul_le_mul_right k hi
  have h2 : (i + 1) * k = i * k + k := by rw [Nat.add_mul, Nat.one_mul]
  have h3 : (n + 1) * k = n * k + k := by rw [Nat.add_mul, Nat.one_mul]
  have hd : (cs.drop (i * k)).length = n * k - i * k := by rw [List.length_drop, hcl]
  have ht : (cur.take ((i + 1) * k)).length = i * k + k := by rw [List.length_take, h2]; omega
  have l1 : cur1.length = cur.length := by
    simp only [cur1, List.length_append, ht, hd, List.length_drop]; omega
  have e1 : cur1.take (i * k) = cs.take (i * k) := by
    simp only [cur1, List.append_assoc]
    rw [List.take_append_of_le_length (by omega), List.take_take, ← hcs, List.take_take]
    congr 1
    omega
  have e2 : cur1.drop (i * k + vs.length) = cs.drop (i * k) ++ cur.drop ((i + 1) * k + (cs.drop (i * k)).length) := by
    simp only [cur1, List.append_assoc]
    rw [List.drop_append, List.drop_eq_nil_of_le (by omega), List.nil_append, show i * k + vs.length - (cur.take ((i + 1) * k)).length = 0 by omega, List.drop_zero]
  have l3 : (cs.take (i * k)).length = i * k := by rw [List.length_take]; omega
  refine ⟨l1, ?_, ?_⟩
  · simp only [cur2, e1, e2, List.length_append, l3, hvl, hd, List.length_drop]; omega
  · simp only [cur2, e1, e2]
    rw [← List.append_assoc]
    have : (cs.take (i * k) ++ vs ++ cs.drop (i * k)).length = (n + 1) * k := by
      simp only [List.length_append, l3, hvl, hd]; omega
    rw [← this]
    exact List.take_left

theorem setRow_size (w : World) (b : Nat) (a : Array Value) : (w.setRow b a).heap.size = w.heap.size := by simp [World.setRow]
theorem ev_setRow (w : World) (b : Nat) (a : Array Value) (s0 : Value) (h : s0.ownBlock = some b) : Ev w (w.setRow b a) (fun q => s0.ownBlock = some q) :=
  ⟨rfl, rfl, rfl, by rw [setRow_size]; exact Nat.le_refl _, fun q _ hq => setRow_other w b q _ (fun e => hq (by rw [h, e]))⟩
theorem ev_trans {w w1 w2 : World} {X : Nat → Prop} (h : Ev w w1 X) (h' : Ev w1 w2 X) : Ev w w2 X :=
  ⟨h'.os.trans h.os, h'.tape.trans h.tape, h'.output.trans h.output, Nat.le_trans h.size h'.size, fun k hk hX => (h'.block k (Nat.lt_of_lt_of_le hk h.size) hX).trans (h.block k hk hX)⟩

theorem step_append_runI {ops : Array Oper} {o : Oper} {a : Act} {w : World} {K : Act → World → Prop} {Q : Exit → Act → World → Prop} {E : Prop}
    (hg : o.guard = none) (d x : Operand) (dT sT : TypeId) (hop : o.op = Op.call { callee := Callee.builtin Builtin.append, args := #[d, x], argTypes := #[dT, sT] })
    (v u : Value) (hd : a.eval d = v) (hx : a.eval x = u) {v' : Value} {w' : World} (hr : (Builtin.append_ #[dT, sT] o.type #[v, u]).run P w = .ok v' w') (hK : K (a.put o.dst v') w') :
    if Region.wanted o (yielded ops a.tmps) = true then Oper.wp P o a w K Q else E := by
  have hw : Region.wanted o (yielded ops a.tmps) = true := by simp [Region.wanted, hg]
  rw [if_pos hw]
  unfold Oper.wp
  simp [execOp, hop, resolve, invoke, builtin, hd, hx, hr, Result.andThen]
  exact hK
theorem run_clear_row (w : World) (t e ty : TypeId) (z : Value) (k : Nat) (ht : P.underlying t = some (.slice e)) (hv : ∀ w, (zeroValue e).run P w = .ok z w) (hz : z.cells.size = k) (h1 : ∀ v ∈ z.cells, v.oneCell' = true) (b o c : Nat)
    (cur : Array Value) (hb : w.heap[b]? = some (.cells cur e (0, 0))) (hfit : o + k ≤ cur.size) :
    ∃ zs, zs.length = k ∧ (Builtin.clear_ #[t] ty #[.slice (some ⟨b, o, none⟩) 1 c]).run P w = .ok (.tuple #[]) (w.setRow b (cur.toList.take o ++ zs ++ cur.toList.drop (o + zs.length)).toArray) := by
  have hl : (Builtin.zeroCells z.cells 1).toList.length = k := by rw [Array.length_toList, size_zeroCells, hz, Nat.one_mul]
  refine ⟨(Builtin.zeroCells z.cells 1).toList, hl, ?_⟩
  have h1' : ∀ v ∈ (Builtin.zeroCells z.cells 1).toList, v.oneCell' = true := by
    intro v hv'
    simp only [Builtin.zeroCells, Array.mem_toList_iff, Array.mem_map] at hv'
    obtain ⟨j, hj, rfl⟩ := hv'
    apply h1
    rw [Array.mem_range, Nat.one_mul] at hj
    rw [Nat.mod_eq_of_lt hj, getElem!_pos z.cells j hj]
    exact Array.getElem_mem hj
  have hst := run_storeCells_at (P := P) b o e (Builtin.zeroCells z.cells 1).toList 0 cur w hb (by rw [hl]; simpa using hfit) h1'
  simp only [Nat.add_zero] at hst
  simp [Builtin.clear_, run_underlying ht, hv, hst]
theorem cells_take {cur cs : List Value} {m : Nat} (h : cur.take m = cs) {j : Nat} {v : Value} (hj : cs[j]? = some v) : cur[j]? = some v := by
  rw [← h, List.getElem?_take] at hj
  split at hj
  · exact hj
  · cases hj
theorem cell_row {w : World} {b : Nat} {cur : Array Value} {t : TypeId} (hb : w.heap[b]? = some (.cells cur t (0, 0))) {cs : List Value} {m : Nat} (h : cur.toList.take m = cs) (j : Nat) (v : Value) (hj : cs[j]? = some v) : w.cell? ⟨b, j, none⟩ = some v := by
  have := cells_take h hj
  simp only [World.cell?, hb]
  simpa using this

def InsWalk (P : Program) (f : FuncId) (e k bytes : Nat) : Prop := ∀ (w : World) (s0 : Value) (n i vb vc : Nat) (cs vs : List Value) (cur2 : Array Value), i ≤ n → (n + 1) * bytes ≤ 140737488355328 → n + 1 ≤ maxLen → w.ownsRow 0 e k s0 n cs → s0.ownBlock ≠ some vb →
  w.heap[vb]? = some (.cells cur2 e (0, 0)) → cur2.toList.take k = vs → vs.length = k → (∀ v ∈ cs, v.oneCell' = true) → (∀ v ∈ vs, v.oneCell' = true) →
  Calls P f #[s0, .int .i64 i, .slice (some ⟨vb, 0, none⟩) 1 vc] w fun en w' => ∃ s', en = .returned s' ∧ InsOut w e k s0 (n + 1) (cs.take (i * k) ++ vs ++ cs.drop (i * k)) s' w'
def DelWalk (P : Program) (f : FuncId) (e k : Nat) : Prop := ∀ (w : World) (b N c i : Nat) (cs : List Value) (cur : Array Value), i ≤ N → N + 1 ≤ c → c ≤ maxLen →
  w.heap[b]? = some (.cells cur e (0, 0)) → cur.size = c * k → cur.toList.take ((N + 1) * k) = cs → cs.length = (N + 1) * k → (∀ v ∈ cs, v.oneCell' = true) →
  Calls P f #[.slice (some ⟨b, 0, none⟩) ((N + 1 : Nat)) c, .int .i64 i, .int .i64 ((i : Int) + 1)] w fun en w' => ∃ s', en = .returned s' ∧ InsOut w e k (.slice (some ⟨b, 0, none⟩) ((N + 1 : Nat)) c) N (cs.take (i * k) ++ cs.drop ((i + 1) * k)) s' w'

theorem postL_own {w : World} {A : Nat → Prop} {β0 : Nat → Option Nat} {ls : List Ob} (H : ObsOK ⟨w, A, lentH ls, β0⟩) {outs : List (Option (List (List V)))} (ho : ∀ i, outO ls outs i = none) {e k : Nat} {rows' : List (List V)} {s0 s' : Value} {xs : List Value} {w' : World}
    (hlent : ∀ b, s0.ownBlock = some b → ∃ i ob, ls[i]? = some ob ∧ β0 (500 + i) = some b) (hO : InsOut w e k s0 rows'.length xs s' w') (hes : ∀ row ∈ rows', row.length = k)
    (hcells : ∀ (i : Nat) (row : List V), rows'[i]? = some row → ∀ (j : Nat) (x : V), row[j]? = some x → ∃ v, xs[i * k + j]? = some v ∧ v.oneCell' = true ∧ RelP w A x v) :
    ∃ us β' A', (Ending.returned s' = .returned (packV us)) ∧ PostL w A ls β0 [.o e k rows'] outs w' us β' A' := by
  obtain ⟨hlen, ⟨g, cap, cur, rfl, hg, hn, hm, hs, ht, hfresh⟩, hev⟩ := hO
  have hlA : ∀ b, s0.ownBlock = some b → A b := fun b hb => by
    obtain ⟨i, ob, h1, h2⟩ := hlent b hb
    have h3 : lentH ls (500 + i) = some ob := by simp [lentH, h1]
    have := H.ok (500 + i) ob h3
    simp only [h2] at this
    exact this.1
  have hgA : g < w.heap.size → A g := fun h => by
    rcases hfresh with h1 | h1
    · exact hlA g h1
    · omega
  have hA' : ∀ b, b < w.heap.size → (A b ∨ b = g) → A b := fun b hb h => by
    rcases h with h | rfl
    · exact h
    · exact hgA hb
  have hag : Agree A w w' := fun b hb hAb => hev.block b hb (fun h => hAb (hlA b h))
  have fr : ∀ x v, RelP w A x v → RelP w' (fun b => A b ∨ b = g) x v := fun x v h => h.frame hag hev.size hA'
  have hpost : ∀ p ob, postH ls [.o e k rows'] outs p = some ob → p = 0 ∧ ob = ⟨e, k, false, rows'⟩ := fun p ob h => by
    unfold postH at h
    split at h
    · rw [ho] at h; cases h
    · match p, h with
      | 0, h => simp [rdH, RD.ob] at h; exact ⟨rfl, h.symm⟩
      | p + 1, h => simp [rdH] at h
  have hglt : g < w'.heap.size := (Array.getElem?_eq_some_iff.1 hg).1
  refine ⟨[.slice (some ⟨g, 0, none⟩) rows'.length cap], fun _ => some g, fun b => A b ∨ b = g, rfl, ⟨rfl, by simp, ⟨fun p ob h => ?_, fun p q o1 o2 b h1 h2 _ _ => ?_, fun b hb => ?_⟩, fun p rd h => ?_, fun b hb h => .inl h, ?_, fun p ob b h1 h2 => ?_, fun i ob ob' h1 h2 => by rw [ho] at h2; cases h2⟩⟩
  · obtain ⟨rfl, rfl⟩ := hpost p ob h
    refine ⟨.inr rfl, cur, hg, hes, by show rows'.length * k ≤ cur.size; rw [hs]; exact Nat.mul_le_mul_right k hn, fun i row hi j x hx => ?_⟩
    obtain ⟨v, c1, c2, c3⟩ := hcells i row hi j x hx
    have := cells_take ht c1
    rw [Array.getElem?_toList] at this
    exact ⟨v, this, c2, Rel1.of_relP (fr x v c3), fun _ => fr x v c3⟩
  · rw [(hpost p o1 h1).1, (hpost q o2 h2).1]
  · rcases hb with hb | rfl
    · exact Nat.lt_of_lt_of_le (H.lt b hb) hev.size
    · exact hglt
  · match p, h with
    | 0, h =>
      simp at h
      subst h
      refine ⟨_, rfl, fun ob hob => ?_⟩
      obtain ⟨_, rfl⟩ := hpost 0 ob hob
      exact ⟨Nat.le_refl _, fun _ => ⟨cap, cur, rfl, hn, hm, hg, hs⟩⟩
    | p + 1, h => simp at h
  · exact ⟨hev.os, hev.tape, hev.output, hev.size, fun b hb hn => hev.block b hb (fun h => hn (hlent b h))⟩
  · cases h2
    rcases hfresh with h3 | h3
    · obtain ⟨i, ob', h4, h5⟩ := hlent g h3
      exact .inr ⟨i, ob', h4, ho i, h5⟩
    · exact .inl h3

theorem lent_row {w : World} {A : Nat → Prop} {β : Nat → Option Nat} {h : Nat → Option Ob} (H : ObsOK ⟨w, A, h, β⟩) {o e k : Nat} {rows : List (List V)} (ho : h o = some ⟨e, k, false, rows⟩) {v : Value} (hr : Rel1 ⟨w, A, h, β⟩ (.ref o rows.length) v) (hk : 0 < k) :
    ∃ cs, w.ownsRow 0 e k v rows.length cs ∧ (∀ b, v.ownBlock = some b → β o = some b) ∧ (∀ row ∈ rows, row.length = k) ∧ (∀ u ∈ cs, u.oneCell' = true) ∧
      ∀ (i : Nat) (row : List V), rows[i]? = some row → ∀ (j : Nat) (x : V), row[j]? = some x → ∃ u, cs[i * k + j]? = some u ∧ u.oneCell' = true ∧ RelP w A x u := by
  obtain ⟨_, h2⟩ := hr _ ho
  have h2 := h2 rfl
  have hok := H.ok o _ ho
  simp only at h2 hok
  cases hb : β o with
  | none =>
    rw [hb] at h2 hok
    have h0 : rows = [] := hok
    subst h0
    rw [h2]
    exact ⟨[], World.ownsRow_nil w 0 e k, fun b h => (by simp [Value.ownBlock] at h), fun row h => (by cases h), fun u h => (by cases h), fun i row h => (by simp at h)⟩
  | some b =>
    rw [hb] at h2 hok
    obtain ⟨cap, cur, rfl, h3, h4, h5, h6⟩ := h2
    obtain ⟨hA, cur', c1, c2, c3, c4⟩ := hok
    simp only at h5 h6 c1 c2 c3 c4
    have : cur' = cur := by rw [h5] at c1; simp at c1; exact c1.symm
    subst this
    have hl : (cur'.toList.take (rows.length * k)).length = rows.length * k := by rw [List.length_take, Array.length_toList]; exact Nat.min_eq_left c3
    have hget : ∀ (i : Nat) (row : List V), rows[i]? = some row → ∀ (j : Nat) (x : V), row[j]? = some x → ∃ u, (cur'.toList.take (rows.length * k))[i * k + j]? = some u ∧ u.oneCell' = true ∧ RelP w A x u := by
      intro i row hi j x hx
      obtain ⟨u, d1, d2, _, d4⟩ := c4 i row hi j x hx
      refine ⟨u, ?_, d2, d4 trivial⟩
      have hil := (List.getElem?_eq_some_iff.1 hi).1
      have hjl : j < k := by rw [← c2 row (List.mem_of_getElem? hi)]; exact (List.getElem?_eq_some_iff.1 hx).1
      have : i * k + j < rows.length * k := by
        have := Nat.mul_le_mul_right k (show i + 1 ≤ rows.length from hil)
        rw [Nat.add_mul, Nat.one_mul] at this; omega
      rw [List.getElem?_take, if_pos this, Array.getElem?_toList]
      exact d1
    refine ⟨_, ⟨hl, .inr ⟨b, cap, cur', rfl, Nat.zero_le _, h5, h3, h4, h6, rfl⟩⟩, fun b' h => by simp [Value.ownBlock] at h; rw [h], c2, fun u hu => ?_, hget⟩
    obtain ⟨t, ht⟩ := List.getElem?_of_mem hu
    have htl : t < rows.length * k := by rw [← hl]; exact (List.getElem?_eq_some_iff.1 ht).1
    have h1 : t / k < rows.length := (Nat.div_lt_iff_lt_mul hk).2 htl
    have h2 : t % k < (rows[t / k]).length := by rw [c2 _ (List.getElem_mem h1)]; exact Nat.mod_lt _ hk
    obtain ⟨u', e1, e2, _⟩ := hget (t / k) _ (List.getElem?_eq_getElem h1) (t % k) _ (List.getElem?_eq_getElem h2)
    have : t / k * k + t % k = t := by have := Nat.div_add_mod t k; rw [Nat.mul_comm] at this; exact this
    rw [this, ht] at e1
    cases e1
    exact e2

theorem insL_ok {f e k bytes : Nat} (hk : 0 < k) (hW : InsWalk P f e k bytes) (rows : List (List V)) (row : List V) (i : Nat) (hi : i ≤ rows.length) (hbig : (rows.length + 1) * bytes ≤ 140737488355328) (hmax : rows.length + 1 ≤ maxLen) :
    FnL P f [.ref 500 rows.length, .int .i64 i, .ref 501 1] [⟨e, k, false, rows⟩, ⟨e, k, false, [row]⟩] (fun rds outs => rds = [.o e k (rows.take i ++ [row] ++ rows.drop i)] ∧ outs = [none, none]) := by
  refine ⟨fun rds outs h rd hrd => (by rw [h.1] at hrd; simp at hrd; rw [hrd]; rfl), fun w A β0 vs H hsz hrel => ?_⟩
  obtain ⟨v0, e0, r0⟩ := hrel 0 _ rfl
  obtain ⟨v1, e1, r1⟩ := hrel 1 _ rfl
  obtain ⟨v2, e2, r2⟩ := hrel 2 _ rfl
  have hvs : vs = #[v0, v1, v2] := by
    apply Array.ext
    · simpa using hsz
    · intro i h1 h2
      simp at h2
      match i, h2 with
      | 0, _ => rw [Array.getElem?_eq_getElem h1] at e0; simpa using e0
      | 1, _ => rw [Array.getElem?_eq_getElem h1] at e1; simpa using e1
      | 2, _ => rw [Array.getElem?_eq_getElem h1] at e2; simpa using e2
  subst hvs
  have hv1 : v1 = .int .i64 i := by cases r1; rfl
  subst hv1
  have h500 : lentH [⟨e, k, false, rows⟩, ⟨e, k, false, [row]⟩] 500 = some ⟨e, k, false, rows⟩ := rfl
  have h501 : lentH [⟨e, k, false, rows⟩, ⟨e, k, false, [row]⟩] 501 = some ⟨e, k, false, [row]⟩ := rfl
  obtain ⟨cs, o1, o2, o3, o4, o5⟩ := lent_row H h500 r0 hk
  obtain ⟨ds, q1, q2, q3, q4, q5⟩ := lent_row H h501 r2 hk
  rcases q1.2 with ⟨_, h⟩ | ⟨vb, vc, cur2, rfl, _, hvb, _, _, _, hds⟩
  · simp at h
  simp only [List.length_singleton, Nat.one_mul] at hds
  have hdl : ds.length = k := by have := q1.1; simpa using this
  have hrow : row.length = k := q3 row (by simp)
  have hne : v0.ownBlock ≠ some vb := fun h => by
    have h1 := o2 vb h
    have h2 := q2 vb rfl
    have := H.inj 500 501 _ _ vb h500 h501 h1 h2
    omega
  refine (hW w v0 rows.length i vb vc cs ds cur2 hi hbig hmax o1 hne hvb hds hdl o4 q4).mono ?_
  rintro en w' ⟨s', rfl, hO⟩
  have hlen : (rows.take i ++ [row] ++ rows.drop i).length = rows.length + 1 := by
    simp only [List.length_append, List.length_take, List.length_drop, List.length_singleton]; omega
  have hil : (rows.take i).length = i := by rw [List.length_take]; omega
  rw [← hlen] at hO
  have hcl := o1.1
  have hik : i * k ≤ rows.length * k := Nat.mul_le_mul_right k hi
  have ht : (cs.take (i * k)).length = i * k := by rw [List.length_take, hcl]; omega
  obtain ⟨us, β', A', hu, hp⟩ := postL_own (outs := [none, none]) H (fun j => by unfold outO; match j with | 0 => rfl | 1 => rfl | j + 2 => rfl) (fun b hb => ⟨0, _, rfl, o2 b hb⟩) hO
    (fun r hr => by
      simp only [List.mem_append, List.mem_singleton] at hr
      rcases hr with (hr | rfl) | hr
      · exact o3 r (List.mem_of_mem_take hr)
      · exact hrow
      · exact o3 r (List.mem_of_mem_drop hr))
    (fun r rw' hr j x hx => by
      by_cases h1 : r < i
      · rw [List.append_assoc, List.getElem?_append_left (by omega), List.getElem?_take, if_pos h1] at hr
        obtain ⟨u, c1, c2, c3⟩ := o5 r rw' hr j x hx
        have hj : j < k := by rw [← o3 rw' (List.mem_of_getElem? hr)]; exact (List.getElem?_eq_some_iff.1 hx).1
        have h2 : r * k + j < i * k := by
          have := Nat.mul_le_mul_right k (show r + 1 ≤ i from h1)
          rw [Nat.add_mul, Nat.one_mul] at this; omega
        exact ⟨u, by rw [List.append_assoc, List.getElem?_append_left (by omega), List.getElem?_take, if_pos h2]; exact c1, c2, c3⟩
      · by_cases h2 : r = i
        · subst h2
          rw [List.append_assoc, List.getElem?_append_right (by omega), hil, Nat.sub_self] at hr
          simp at hr
          subst hr
          obtain ⟨u, c1, c2, c3⟩ := q5 0 row rfl j x hx
          rw [Nat.zero_mul, Nat.zero_add] at c1
          have hj : j < ds.length := (List.getElem?_eq_some_iff.1 c1).1
          refine ⟨u, ?_, c2, c3⟩
          rw [List.append_assoc, List.getElem?_append_right (by omega), ht, show r * k + j - r * k = j by omega, List.getElem?_append_left hj]
          exact c1
        · rw [List.getElem?_append_right (by simp; omega), List.getElem?_drop] at hr
          simp only [List.length_append, hil, List.length_singleton] at hr
          obtain ⟨u, c1, c2, c3⟩ := o5 _ rw' hr j x hx
          refine ⟨u, ?_, c2, c3⟩
          have e3 : (i + (r - (i + 1))) * k + k = r * k := by
            rw [show i + (r - (i + 1)) = r - 1 by omega, ← Nat.succ_mul, Nat.succ_eq_add_one, show r - 1 + 1 = r by omega]
          have e4 : i * k + k ≤ r * k := by
            have := Nat.mul_le_mul_right k (show i + 1 ≤ r by omega)
            rwa [Nat.add_mul, Nat.one_mul] at this
          rw [List.getElem?_append_right (by simp only [List.length_append, ht, hdl]; omega), List.getElem?_drop]
          simp only [List.length_append, ht, hdl]
          rw [show i * k + (r * k + j - (i * k + k)) = (i + (r - (i + 1))) * k + j by omega]
          exact c1)
  exact ⟨_, _, us, β', A', ⟨rfl, rfl⟩, hu, hp⟩
theorem delL_ok {f e k : Nat} (hk : 0 < k) (hW : DelWalk P f e k) (rows : List (List V)) (i : Nat) (hi : i < rows.length) :
    FnL P f [.ref 500 rows.length, .int .i64 i, .int .i64 ((i : Int) + 1)] [⟨e, k, false, rows⟩] (fun rds outs => rds = [.o e k (rows.take i ++ rows.drop (i + 1))] ∧ outs = [none]) := by
  refine ⟨fun rds outs h rd hrd => (by rw [h.1] at hrd; simp at hrd; rw [hrd]; rfl), fun w A β0 vs H hsz hrel => ?_⟩
  obtain ⟨v0, e0, r0⟩ := hrel 0 _ rfl
  obtain ⟨v1, e1, r1⟩ := hrel 1 _ rfl
  obtain ⟨v2, e2, r2⟩ := hrel 2 _ rfl
  have hvs : vs = #[v0, v1, v2] := by
    apply Array.ext
    · simpa using hsz
    · intro i h1 h2
      simp at h2
      match i, h2 with
      | 0, _ => rw [Array.getElem?_eq_getElem h1] at e0; simpa using e0
      | 1, _ => rw [Array.getElem?_eq_getElem h1] at e1; simpa using e1
      | 2, _ => rw [Array.getElem?_eq_getElem h1] at e2; simpa using e2
  subst hvs
  have hv1 : v1 = .int .i64 i := by cases r1; rfl
  subst hv1
  have hv2 : v2 = .int .i64 ((i : Int) + 1) := by cases r2; rfl
  subst hv2
  have h500 : lentH [⟨e, k, false, rows⟩] 500 = some ⟨e, k, false, rows⟩ := rfl
  obtain ⟨cs, o1, o2, o3, o4, o5⟩ := lent_row H h500 r0 hk
  obtain ⟨N, hN⟩ : ∃ N, rows.length = N + 1 := ⟨rows.length - 1, by omega⟩
  rcases o1.2 with ⟨_, h⟩ | ⟨b, c, cur, rfl, _, hb, hnc, hm, hs, hcs⟩
  · omega
  have hcl := o1.1
  rw [hN] at hcl hcs hnc ⊢
  refine (hW w b N c i cs cur (by omega) hnc hm hb hs hcs hcl o4).mono ?_
  rintro en w' ⟨s', rfl, hO⟩
  have hil : (rows.take i).length = i := by rw [List.length_take]; omega
  have hlen : (rows.take i ++ rows.drop (i + 1)).length = N := by
    simp only [List.length_append, hil, List.length_drop]; omega
  rw [← hlen] at hO
  have hik : i * k ≤ (N + 1) * k := Nat.mul_le_mul_right k (by omega)
  have ht : (cs.take (i * k)).length = i * k := by rw [List.length_take, hcl]; omega
  obtain ⟨us, β', A', hu, hp⟩ := postL_own (outs := [none]) H (fun j => by unfold outO; match j with | 0 => rfl | j + 1 => rfl) (fun b hb => ⟨0, _, rfl, o2 b (by simpa [Value.ownBlock] using hb)⟩) hO
    (fun r hr => by
      rcases List.mem_append.1 hr with hr | hr
      · exact o3 r (List.mem_of_mem_take hr)
      · exact o3 r (List.mem_of_mem_drop hr))
    (fun r rw' hr j x hx => by
      by_cases h1 : r < i
      · rw [List.getElem?_append_left (by omega), List.getElem?_take, if_pos h1] at hr
        obtain ⟨u, c1, c2, c3⟩ := o5 r rw' hr j x hx
        have hj : j < k := by rw [← o3 rw' (List.mem_of_getElem? hr)]; exact (List.getElem?_eq_some_iff.1 hx).1
        have h2 : r * k + j < i * k := by
          have := Nat.mul_le_mul_right k (show r + 1 ≤ i from h1)
          rw [Nat.add_mul, Nat.one_mul] at this; omega
        exact ⟨u, by rw [List.getElem?_append_left (by omega), List.getElem?_take, if_pos h2]; exact c1, c2, c3⟩
      · rw [List.getElem?_append_right (by omega), List.getElem?_drop, hil] at hr
        obtain ⟨u, c1, c2, c3⟩ := o5 _ rw' hr j x hx
        refine ⟨u, ?_, c2, c3⟩
        have e3 : (i + 1 + (r - i)) * k = r * k + k := by
          rw [show i + 1 + (r - i) = r + 1 by omega, Nat.add_mul, Nat.one_mul]
        have e4 : i * k ≤ r * k := Nat.mul_le_mul_right k (by omega)
        have e5 : (i + 1) * k = i * k + k := by rw [Nat.add_mul, Nat.one_mul]
        rw [List.getElem?_append_right (by omega), List.getElem?_drop, ht, show (i + 1) * k + (r * k + j - i * k) = (i + 1 + (r - i)) * k + j by omega]
        exact c1)
  exact ⟨_, _, us, β', A', ⟨rfl, rfl⟩, hu, hp⟩
end Go.Proofs

namespace Go.AL
open Go.Proofs
set_option linter.unusedVariables false
set_option linter.unusedSimpArgs false
theorem EntL.ok_two {P : Program} {e : EntL} (h : e.two = true) (H : ∀ l l2 a, e.pre l l2 a = true → ∀ rows rows2 vargs, RowsV e.τ l rows → RowsV e.τ l2 rows2 → ArgsV e.ad a vargs →
    FnL P e.g (.ref 500 rows.length :: (vargs ++ [.ref 501 rows2.length])) [⟨e.ty, e.es, false, rows⟩, ⟨e.ty, e.es, false, rows2⟩] (e.Pd l l2 a rows)) : e.Ok P := by
  unfold EntL.Ok; rw [h]; exact H
theorem EntL.ok_one {P : Program} {e : EntL} (h : e.two = false) (H : ∀ l a, e.pre l [] a = true → ∀ rows vargs, RowsV e.τ l rows → ArgsV e.ad a vargs →
    FnL P e.g (.ref 500 rows.length :: vargs) [⟨e.ty, e.es, false, rows⟩] (e.Pd l [] a rows)) : e.Ok P := by
  unfold EntL.Ok; rw [h]; exact H
theorem FnL.imp {P : Program} {f : FuncId} {args : List V} {ls : List Ob} {Pd Pd' : List RD → List (Option (List (List V))) → Prop} (h : FnL P f args ls Pd) (h1 : ∀ rds outs, Pd rds outs → Pd' rds outs) (h2 : ∀ rds outs, Pd' rds outs → ∀ rd ∈ rds, rd.ok = true) : FnL P f args ls Pd' :=
  ⟨h2, fun w A β0 vs H hs hr => (h.2 w A β0 vs H hs hr).mono fun e w' ⟨rds, outs, us, β', A', p, q, r⟩ => ⟨rds, outs, us, β', A', h1 rds outs p, q, r⟩⟩

def insP {α : Type} (b : Nat) (l l2 : List α) (i : Int) : Bool := decide (0 ≤ i) && decide (i ≤ ((l.length : Nat) : Int)) && (decide (l2.length = 1) && decide ((l.length + 1) * b ≤ 140737488355328))
def insF {α : Type} (l l2 : List α) (i : Int) : List α := l.take (Int.toNat i) ++ l2 ++ l.drop (Int.toNat i)
def delP {α : Type} (l : List α) (a : Int × Int) : Bool := decide (0 ≤ a.1) && decide (a.1 < ((l.length : Nat) : Int)) && decide (a.2 = a.1 + 1)
def delF {α : Type} (l : List α) (a : Int × Int) : List α := l.take (Int.toNat a.1) ++ l.drop (Int.toNat a.1 + 1)
noncomputable def insE (f ty k : Nat) (τ : List Ty) (b : Nat) : EntL := ⟨f, true, true, ty, k, τ, [.c (.int .i64)], [.o ty k τ], fun l l2 i => insP b l l2 i, fun l l2 i => (insF l l2 i, l)⟩
theorem insE_ok {P : Program} {f ty k : Nat} {τ : List Ty} {b : Nat} (hk : 0 < k) (hb : 1 ≤ b) (hW : InsWalk P f ty k b) : (insE f ty k τ b).Ok P := by
  refine EntL.ok_two rfl fun l l2 (i : Int) hp rows rows2 vargs hR hR2 hA => ?_
  obtain ⟨v, rfl, hv⟩ := (hA : ∃ v, vargs = [v] ∧ ArgV (.c (.int .i64)) i v)
  have hv : v = .int .i64 i := tyV_int.1 hv
  subst hv
  have hp : insP b l l2 i = true := hp
  simp only [insP, Bool.and_eq_true, decide_eq_true_eq] at hp
  obtain ⟨⟨h0, h1⟩, h2, h3⟩ := hp
  have hl := All2.len hR
  have hl2 := All2.len hR2
  obtain ⟨row, rfl⟩ : ∃ row, rows2 = [row] := List.length_eq_one_iff.1 (by rw [← hl2]; exact h2)
  obtain ⟨n, rfl⟩ := Int.eq_ofNat_of_zero_le h0
  have hmul : rows.length + 1 ≤ (rows.length + 1) * b := Nat.le_mul_of_pos_right _ hb
  rw [hl] at h3 h1
  refine (insL_ok hk hW rows row n (by omega) h3 (by simp only [maxLen]; omega)).imp ?_ (fun rds outs h => resOK _ _ rds h.1)
  rintro rds outs ⟨rfl, rfl⟩
  refine ⟨?_, by simp [insE]⟩
  refine (⟨_, rfl, _, rfl, ?_⟩ : ∃ rd, [RD.o ty k (rows.take n ++ [row] ++ rows.drop n)] = [rd] ∧ ResV (.o ty k τ) _ rd)
  show RowsV τ (l.take (Int.toNat ((n : Nat) : Int)) ++ l2 ++ l.drop (Int.toNat ((n : Nat) : Int))) _
  rw [Int.toNat_natCast]
  exact All2.app (All2.drop n hR) (All2.app hR2 (All2.take n hR))
noncomputable def delE (f ty k : Nat) (τ : List Ty) : EntL := ⟨f, true, false, ty, k, τ, [.c (.int .i64), .c (.int .i64)], [.o ty k τ], fun l _ a => delP l a, fun l _ a => (delF l a, l)⟩
theorem delE_ok {P : Program} {f ty k : Nat} {τ : List Ty} (hk : 0 < k) (hW : DelWalk P f ty k) : (delE f ty k τ).Ok P := by
  refine EntL.ok_one rfl fun l (a : Int × Int) hp rows vargs hR hA => ?_
  obtain ⟨i, j⟩ := a
  obtain ⟨v, r, rfl, hv, v2, rfl, hv2⟩ := (hA : ∃ v r, vargs = v :: r ∧ ArgV (.c (.int .i64)) i v ∧ ∃ v2, r = [v2] ∧ ArgV (.c (.int .i64)) j v2)
  have hv : v = .int .i64 i := tyV_int.1 hv
  have hv2 : v2 = .int .i64 j := tyV_int.1 hv2
  subst hv hv2
  have hp : delP l (i, j) = true := hp
  simp only [delP, Bool.and_eq_true, decide_eq_true_eq] at hp
  obtain ⟨⟨h0, h1⟩, rfl⟩ := hp
  have hl := All2.len hR
  obtain ⟨n, rfl⟩ := Int.eq_ofNat_of_zero_le h0
  rw [hl] at h1
  refine (delL_ok hk hW rows n (by omega)).imp ?_ (fun rds outs h => resOK _ _ rds h.1)
  rintro rds outs ⟨rfl, rfl⟩
  refine ⟨?_, by simp [delE]⟩
  refine (⟨_, rfl, _, rfl, ?_⟩ : ∃ rd, [RD.o ty k (rows.take n ++ rows.drop (n + 1))] = [rd] ∧ ResV (.o ty k τ) _ rd)
  show RowsV τ (l.take (Int.toNat ((n : Nat) : Int)) ++ l.drop (Int.toNat ((n : Nat) : Int) + 1)) _
  rw [Int.toNat_natCast]
  exact All2.app (All2.drop (n + 1) hR) (All2.take n hR)
end Go.AL
