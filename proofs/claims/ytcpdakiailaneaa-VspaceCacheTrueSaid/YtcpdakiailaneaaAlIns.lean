/-
  Insert and Delete of slices of structs, walked: what their walks share. By an AI agent.
-/
import Derived.Shelf.Spec.SlicesInsertGrow
import Derived.Test.YtcpdakiailaneaaAxSort
namespace Go.Proofs
open Go.Shelf Go.RowKit Go.Lib Go.AL
variable {P : Program}
set_option linter.unusedVariables false
set_option linter.unusedSimpArgs false

theorem run_copy_row (w : World) (dT sT ty elem : TypeId) (k b o dLen dCap : Nat) (a : Addr) (sLen sCap : Nat) (cs : List Value) (cur : Array Value) (t : TypeId)
    (hu : P.underlying dT = some (.slice elem)) (hs : (P.info? elem).map (·.size) = some k) (hn : cs.length = Nat.min sLen dLen * k)
    (hsrc : ∀ j v, cs[j]? = some v → w.cell? (a.add j) = some v) (hb : w.heap[b]? = some (.cells cur t (0, 0))) (hfit : o + cs.length ≤ cur.size) (h1 : ∀ v ∈ cs, v.oneCell' = true) :
    (Builtin.copy_ #[dT, sT] ty #[.slice (some ⟨b, o, none⟩) dLen dCap, .slice (some a) sLen sCap]).run P w = .ok (goInt (Nat.min sLen dLen)) (w.setRow b (cur.toList.take o ++ cs ++ cur.toList.drop (o + cs.length)).toArray) := by
  have hl := run_loadCells_list (P := P) w a cs hsrc
  have hst := run_storeCells_at (P := P) b o t cs 0 cur w hb (by simpa using hfit) h1
  simp only [Nat.add_zero] at hst
  cases hq : P.info? elem with
  | none => simp [hq] at hs
  | some i =>
    have hi : i.size = k := by simpa [hq] using hs
    simp [Builtin.copy_, run_underlying hu, Builtin.lenOf, Builtin.firstCells, sizeOf, typeInfo, hq, hi, ← hn, hl, hst]

structure InsOut (w : World) (e : TypeId) (k : Nat) (s0 : Value) (n' : Nat) (xs : List Value) (s' : Value) (w' : World) : Prop where
  len : xs.length = n' * k
  row : ∃ g cap cur, s' = .slice (some ⟨g, 0, none⟩) n' cap ∧ w'.heap[g]? = some (.cells cur e (0, 0)) ∧ n' ≤ cap ∧ cap ≤ maxLen ∧ cur.size = cap * k ∧ cur.toList.take (n' * k) = xs ∧ (s0.ownBlock = some g ∨ w.heap.size ≤ g)
  ev : Ev w w' (fun q => s0.ownBlock = some q)

theorem insOut_new (w : World) (e : TypeId) (k : Nat) (s0 : Value) (n' : Nat) (xs : List Value) (cap : Nat) (cur : Array Value) (W : World) (hW : Ev w W (fun _ => False)) (hl : xs.length = n' * k) (hc : n' ≤ cap) (hm : cap ≤ maxLen) (hs : cur.size = cap * k) (ht : cur.toList.take (n' * k) = xs)
    (hg : W.heap[w.heap.size]? = some (.cells cur e (0, 0))) : InsOut w e k s0 n' xs (.slice (some ⟨w.heap.size, 0, none⟩) n' cap) W :=
  ⟨hl, ⟨_, _, _, rfl, hg, hc, hm, hs, ht, .inr (Nat.le_refl _)⟩, ⟨hW.os, hW.tape, hW.output, hW.size, fun q hq _ => hW.block q hq (fun h => h)⟩⟩

theorem run_append_end (w : World) (t ty e : TypeId) (i : TypeInfo) (z : Value) (size bytes : Nat) (ht : P.underlying t = some (.slice e)) (hi : P.info? e = some i) (hz : i.zero = some z)
    (hsize : i.size = size) (hby : i.bytes = bytes) (hzs : z.cells.size = size) (hsz : 0 < size)
    (v : Value) (n : Nat) (xs : List Value) (hown : w.ownsRow 0 e size v n xs)
    (a : Addr) (m c : Nat) (hm : 0 < m) (news : List Value) (hl : news.length = m * size) (hnews : ∀ j u, news[j]? = some u → w.cell? (a.add j) = some u) (h1 : ∀ u ∈ news, u.oneCell' = true)
    (h63 : n + m ≤ maxLen) (hbytes : (n + m) * bytes ≤ 140737488355328) :
    ∃ v' w', (Builtin.append_ #[t, t] ty #[v, .slice (some a) m c]).run P w = .ok v' w' ∧ InsOut w e size v (n + m) (xs ++ news) v' w' := by
  subst hsize
  subst hby
  have hsmall : n + m ≤ 9223372036854775807 := by simp only [maxLen] at h63; omega
  have hlen : (xs ++ news).length = (n + m) * i.size := by rw [List.length_append, hown.1, hl, Nat.add_mul]
  have grown : ∀ (old : Nat), old < n + m → InsOut w e i.size v (n + m) (xs ++ news) (.slice (some ⟨w.heap.size, 0, none⟩) (n + m) (grownCap w (n + m) old e))
      (w.drew.alloc (.cells (xs.toArray ++ news.toArray ++ Builtin.zeroCells z.cells (grownCap w (n + m) old e - (n + m))) e)) := by
    intro old ho
    have hge := grownCap_ge w (n + m) old e
    refine insOut_new w e i.size v (n + m) _ _ (xs.toArray ++ news.toArray ++ Builtin.zeroCells z.cells (grownCap w (n + m) old e - (n + m))) _ ⟨rfl, rfl, rfl, by simp, fun k hk _ => (by first | exact heap_alloc_old w.drew _ hk | exact heap_alloc_old w.drew _ k hk)⟩ hlen hge (grownCap_le_maxLen w (n + m) old e h63) ?_ ?_ (heap_alloc_new w.drew _)
    · simp only [Array.size_append, List.size_toArray, size_zeroCells, hzs, hown.1, hl, ← Nat.add_mul]
      congr 1
      omega
    · simp only [Array.toList_append, List.append_assoc]
      rw [← List.append_assoc, ← hlen]
      exact List.take_left
  rcases hown.2 with ⟨rfl, rfl⟩ | ⟨g, cap, cur, rfl, hbg, hg, hnc, hcm, hcs, htake⟩
  · have hx : xs = [] := List.eq_nil_of_length_eq_zero (by simpa using hown.1)
    subst hx
    have hr := run_append_nil (P := P) w t ty e i z ht hi hz a m c news hl hnews (by omega) (by omega) (by have hb := hbytes; simp only [Nat.zero_add] at hb; omega)
    have hgr := grown 0 (by omega)
    simp only [Nat.zero_add, List.nil_append, Array.empty_append] at hgr ⊢
    exact ⟨_, _, hr, hgr⟩
  · by_cases hroom : n + m ≤ cap
    · have hfit : n * i.size + news.length ≤ cur.size := by rw [hl, hcs, ← Nat.add_mul]; exact Nat.mul_le_mul_right _ hroom
      have hr := run_append_room (P := P) w t ty e i ht hi g n cap cur hg a m c news hl hnews h1 hroom hfit
      refine ⟨_, _, hr, hlen, ⟨g, cap, _, rfl, setRow_heap w g cur _ e _ hg, hroom, hcm, ?_, ?_, .inl rfl⟩, ⟨rfl, rfl, rfl, by simp, fun k _ hk => setRow_other w g k _ (fun e => hk (by simp [Value.ownBlock, e]))⟩⟩
      · simp only [List.size_toArray, List.length_append, List.length_take, List.length_drop, Array.length_toList]
        omega
      · rw [htake, ← hlen]
        exact List.take_left
    · have holds : ∀ j u, xs[j]? = some u → w.cell? ((⟨g, 0, none⟩ : Addr).add j) = some u := hown.cells (g := g) rfl
      have hr := run_append_grow (P := P) w t ty e i z ht hi hz ⟨g, 0, none⟩ n cap xs hown.1 holds a m c news hl hnews (by omega) (by omega) (growslice_fits (by omega) hbytes)
      exact ⟨_, _, hr, grown cap (by omega)⟩

theorem ins_lists {α : Type} {cur cs vs : List α} {n i k : Nat} (hi : i ≤ n) (hcs : cur.take (n * k) = cs) (hcl : cs.length = n * k) (hvl : vs.length = k) (hfit : (n + 1) * k ≤ cur.length) :
    let cur1 := cur.take ((i + 1) * k) ++ cs.drop (i * k) ++ cur.drop ((i + 1) * k + (cs.drop (i * k)).length)
    let cur2 := cur1.take (i * k) ++ vs ++ cur1.drop (i * k + vs.length)
    cur1.length = cur.length ∧ cur2.length = cur.length ∧ cur2.take ((n + 1) * k) = cs.take (i * k) ++ vs ++ cs.drop (i * k) := by
  intro cur1 cur2
  have h1 : i * k ≤ n * k := Nat.mul_le_mul_right k hi
  have h2 : (i + 1) * k = i * k + k := by rw [Nat.add_mul, Nat.one_mul]
  have h3 : (n + 1) * k = n * k + k := by rw [Nat.add_mul, Nat.one_mul]
  have hd : (cs.drop (i * k)).length = n * k - i * k := by rw [List.length_drop, hcl]
  have ht : (cur.take ((i + 1) * k)).length = i * k + k := by rw [List.length_take, h2]; omega
  have l1 : cur1.length = cur.length := by
    simp only [cur1, List.length_append, ht, hd, List.length_drop]; omega
  have e1 : cur1.take (i * k) = cs.take (i * k) := by
    simp only [cur1, List.append_assoc]
    rw [List.take_append_of_le_length (by omega), List.take_take, ← hcs, List.take_take]
    congr 1
    omega
  have e2 : cur1.drop (i * k + vs.length) = cs.drop (i * k) ++ cur.drop ((i + 1) * k + (cs.drop (i * k)).length) := by
    simp only [cur1, List.append_assoc]
    rw [List.drop_append, List.drop_eq_nil_of_le (by omega), List.nil_append, show i * k + vs.length - (cur.take ((i + 1) * k)).length = 0 by omega, List.drop_zero]
  have l3 : (cs.take (i * k)).length = i * k := by rw [List.length_take]; omega
  refine ⟨l1, ?_, ?_⟩
  · simp only [cur2, e1, e2, List.length_append, l3, hvl, hd, List.length_drop]; omega
  · simp only [cur2, e1, e2]
    rw [← List.append_assoc]
    have : (cs.take (i * k) ++ vs ++ cs.drop (i * k)).length = (n + 1) * k := by
      simp only [List.length_append, l3, hvl, hd]; omega
    rw [← this]
    exact List.take_left

theorem setRow_size (w : World) (b : Nat) (a : Array Value) : (w.setRow b a).heap.size = w.heap.size := by simp [World.setRow]
theorem ev_setRow (w : World) (b : Nat) (a : Array Value) (s0 : Value) (h : s0.ownBlock = some b) : Ev w (w.setRow b a) (fun q => s0.ownBlock = some q) :=
  ⟨rfl, rfl, rfl, by rw [setRow_size]; exact Nat.le_refl _, fun q _ hq => setRow_other w b q _ (fun e => hq (by rw [h, e]))⟩
theorem ev_trans {w w1 w2 : World} {X : Nat → Prop} (h : Ev w w1 X) (h' : Ev w1 w2 X) : Ev w w2 X :=
  ⟨h'.os.trans h.os, h'.tape.trans h.tape, h'.output.trans h.output, Nat.le_trans h.size h'.size, fun k hk hX => (h'.block k (Nat.lt_of_lt_of_le hk h.size) hX).trans (h.block k hk hX)⟩

theorem step_append_runI {ops : Array Oper} {o : Oper} {a : Act} {w : World} {K : Act → World → Prop} {Q : Exit → Act → World → Prop} {E : Prop}
    (hg : o.guard = none) (d x : Operand) (dT sT : TypeId) (hop : o.op = Op.call { callee := Callee.builtin Builtin.append, args := #[d, x], argTypes := #[dT, sT] })
    (v u : Value) (hd : a.eval d = v) (hx : a.eval x = u) {v' : Value} {w' : World} (hr : (Builtin.append_ #[dT, sT] o.type #[v, u]).run P w = .ok v' w') (hK : K (a.put o.dst v') w') :
    if Region.wanted o (yielded ops a.tmps) = true then Oper.wp P o a w K Q else E := by
  have hw : Region.wanted o (yielded ops a.tmps) = true := by simp [Region.wanted, hg]
  rw [if_pos hw]
  unfold Oper.wp
  simp [execOp, hop, resolve, invoke, builtin, hd, hx, hr, Result.andThen]
  exact hK
theorem run_clear_row (w : World) (t e ty : TypeId) (z : Value) (k : Nat) (ht : P.underlying t = some (.slice e)) (hv : ∀ w, (zeroValue e).run P w = .ok z w) (hz : z.cells.size = k) (h1 : ∀ v ∈ z.cells, v.oneCell' = true) (b o c : Nat)
    (cur : Array Value) (hb : w.heap[b]? = some (.cells cur e (0, 0))) (hfit : o + k ≤ cur.size) :
    ∃ zs, zs.length = k ∧ (Builtin.clear_ #[t] ty #[.slice (some ⟨b, o, none⟩) 1 c]).run P w = .ok (.tuple #[]) (w.setRow b (cur.toList.take o ++ zs ++ cur.toList.drop (o + zs.length)).toArray) := by
  have hl : (Builtin.zeroCells z.cells 1).toList.length = k := by rw [Array.length_toList, size_zeroCells, hz, Nat.one_mul]
  refine ⟨(Builtin.zeroCells z.cells 1).toList, hl, ?_⟩
  have h1' : ∀ v ∈ (Builtin.zeroCells z.cells 1).toList, v.oneCell' = true := by
    intro v hv'
    simp only [Builtin.zeroCells, Array.mem_toList_iff, Array.mem_map] at hv'
    obtain ⟨j, hj, rfl⟩ := hv'
    apply h1
    rw [Array.mem_range, Nat.one_mul] at hj
    rw [Nat.mod_eq_of_lt hj, getElem!_pos z.cells j hj]
    exact Array.getElem_mem hj
  have hst := run_storeCells_at (P := P) b o e (Builtin.zeroCells z.cells 1).toList 0 cur w hb (by rw [hl]; simpa using hfit) h1'
  simp only [Nat.add_zero] at hst
  simp [Builtin.clear_, run_underlying ht, hv, hst]
theorem cells_take {cur cs : List Value} {m : Nat} (h : cur.take m = cs) {j : Nat} {v : Value} (hj : cs[j]? = some v) : cur[j]? = some v := by
  rw [← h, List.getElem?_take] at hj
  split at hj
  · exact hj
  · cases hj
theorem cell_row {w : World} {b : Nat} {cur : Array Value} {t : TypeId} (hb : w.heap[b]? = some (.cells cur t (0, 0))) {cs : List Value} {m : Nat} (h : cur.toList.take m = cs) (j : Nat) (v : Value) (hj : cs[j]? = some v) : w.cell? ⟨b, j, none⟩ = some v := by
  have := cells_take h hj
  simp only [World.cell?, hb]
  simpa using this

def InsWalk (P : Program) (f : FuncId) (e k bytes : Nat) : Prop := ∀ (w : World) (s0 : Value) (n i vb vc : Nat) (cs vs : List Value) (cur2 : Array Value), i ≤ n → (n + 1) * bytes ≤ 140737488355328 → n + 1 ≤ maxLen → w.ownsRow 0 e k s0 n cs → s0.ownBlock ≠ some vb →
  w.heap[vb]? = some (.cells cur2 e (0, 0)) → cur2.toList.take k = vs → vs.length = k → (∀ v ∈ cs, v.oneCell' = true) → (∀ v ∈ vs, v.oneCell' = true) →
  Calls P f #[s0, .int .i64 i, .slice (some ⟨vb, 0, none⟩) 1 vc] w fun en w' => ∃ s', en = .returned s' ∧ InsOut w e k s0 (n + 1) (cs.take (i * k) ++ vs ++ cs.drop (i * k)) s' w'
end Go.Proofs

namespace Go.AL
open Go.Proofs
set_option linter.unusedVariables false
set_option linter.unusedSimpArgs false
theorem EntL.ok_one {P : Program} {e : EntL} (h : e.two = false) (H : ∀ l a, e.pre l [] a = true → ∀ rows vargs, RowsV e.τ l rows → ArgsV e.ad a vargs →
    FnL P e.g (.ref 500 rows.length :: vargs) [⟨e.ty, e.es, false, rows⟩] (e.Pd l [] a rows)) : e.Ok P := by
  unfold EntL.Ok; rw [h]; exact H
theorem FnL.imp {P : Program} {f : FuncId} {args : List V} {ls : List Ob} {Pd Pd' : List RD → List (Option (List (List V))) → Prop} (h : FnL P f args ls Pd) (h1 : ∀ rds outs, Pd rds outs → Pd' rds outs) (h2 : ∀ rds outs, Pd' rds outs → ∀ rd ∈ rds, rd.ok = true) : FnL P f args ls Pd' :=
  ⟨h2, fun w A β0 vs H hs hr => (h.2 w A β0 vs H hs hr).mono fun e w' ⟨rds, outs, us, β', A', p, q, r⟩ => ⟨rds, outs, us, β', A', h1 rds outs p, q, r⟩⟩

end Go.AL
