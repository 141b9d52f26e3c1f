/-
  Layer 16: vspace.Copy, walked: each table's mappings lie in a block of their own. By an AI agent.
-/
import Derived.Test.YtcpdakiailaneaaNs
namespace Go.Proofs
open Go.RowKit Go.Shelf Go.AL
set_option linter.unusedVariables false
set_option linter.unusedSimpArgs false
attribute [local go_sem] Oper.semAt_some
theorem Ns.post_o {w : World} {A : Nat → Prop} {ty es : Nat} {τ : List Ty} {l : List (RowT τ)} {rds : List RD} {w' : World} {us : List Value} {β' : Nat → Option Nat} {A' : Nat → Prop}
    (hr : RessV [.o ty es τ] l rds) (h : PostR w A rds w' us β' A') : ∃ rows u, us = [u] ∧ RowsV τ l rows ∧ Below w.heap.size w w' ∧
      ((u = .slice none 0 0 ∧ rows = []) ∨ ∃ g cap cur, u = .slice (some ⟨g, 0, none⟩) rows.length cap ∧ w.heap.size ≤ g ∧ A' g ∧ HB w' g ty cur ∧ rows.length ≤ cap ∧ cap ≤ maxLen ∧ cur.size = cap * es ∧ (∀ row ∈ rows, row.length = es) ∧
        ∀ (i : Nat) (row : List V), rows[i]? = some row → ∀ (j : Nat) (x : V), row[j]? = some x → ∃ v, cur[i * es + j]? = some v ∧ v.oneCell' = true ∧ RelP w' A' x v) := by
  obtain ⟨rd, rfl, rows, rfl, hrows⟩ := (hr : ∃ rd, rds = [rd] ∧ ∃ rows, rd = .o ty es rows ∧ RowsV τ l rows)
  have hl := h.len
  obtain ⟨u, rfl⟩ := List.length_eq_one_iff.1 (show us.length = 1 by simpa using hl)
  refine ⟨rows, u, rfl, hrows, ev_below' h.ev, ?_⟩
  obtain ⟨u', hu, hrel⟩ := h.rel 0 _ rfl
  simp at hu
  subst hu
  have h0 : rdH [RD.o ty es rows] 0 = some ⟨ty, es, false, rows⟩ := rfl
  have h1 := (hrel : RelA _ (.ref 0 rows.length) u) _ h0
  have h2 := h1.2 rfl
  have h3 := h.obs.ok 0 _ h0
  cases hb : β' 0 with
  | none =>
    simp only [hb] at h2 h3
    exact .inl ⟨h2, h3⟩
  | some g =>
    simp only [hb] at h2 h3
    obtain ⟨cap, cur, e1, e2, e3, e4, e5⟩ := h2
    obtain ⟨g1, cur', g2, g3, _, g4⟩ := h3
    have : cur' = cur := by simp only at e4 g2; rw [e4] at g2; simp at g2; exact g2.symm
    subst this
    exact .inr ⟨g, cap, cur', e1, h.own 0 _ g h0 hb, g1, e4, e2, e3, e5, g3, fun i row hi j x hj => by
      obtain ⟨v, c1, c2, _, c4⟩ := g4 i row hi j x hj
      exact ⟨v, c1, c2, c4 rfl⟩⟩
theorem Cp.view {w : World} {A : Nat → Prop} {zs : List SMp} {x : V} {v : Value} (hx : TyV (.sl tSMp) zs x) (h : RelP w A x v) : (∃ a m c, v = .slice a m c) ∧ ArgsAt w [.rd tSMp] zs #[v] := by
  rw [Ns.slV] at hx
  have one : ∀ rows, All2 (RowV tSMp) zs rows → SlAt w (fun _ => False) (fun _ => False) rows v → ArgsAt w [.rd tSMp] zs #[v] := fun rows h1 h2 =>
    ⟨[.rd rows], ⟨_, rfl, rows, rfl, h1⟩, rfl, fun i y hy => by
      match i, hy with
      | 0, hy => simp at hy; subst hy; exact ⟨v, rfl, by
          have e : (Env.M ⟨w, fun _ => False, noH, noB⟩) = fun _ => False := by funext b; simp [Env.M, noH]
          show SlAt w (fun _ => False) (Env.M ⟨w, fun _ => False, noH, noB⟩) rows v
          rw [e]; exact h2⟩
      | i + 1, hy => simp at hy⟩
  rcases hx with ⟨rfl, rfl⟩ | ⟨rows, rfl, hr⟩
  · cases h
    exact ⟨⟨_, _, _, rfl⟩, one [] trivial (.inl ⟨⟨_, rfl⟩, rfl⟩)⟩
  · have h1 := relP_sl.1 h
    refine ⟨?_, one rows hr (h1.frame (Agree.refl _ _) (Agree.refl _ _) (Nat.le_refl _) (fun _ _ h => h.elim) (fun _ _ h => h.elim))⟩
    rcases h1 with ⟨⟨a, rfl⟩, _⟩ | ⟨b, off, cap, es, f, rfl, _⟩ <;> exact ⟨_, _, _, rfl⟩
theorem Cp.own {w : World} {A : Nat → Prop} {l : List SMp} {rds : List RD} {w' : World} {us : List Value} {β' : Nat → Option Nat} {A' : Nat → Prop}
    (hr : RessV [.o tyM 6 tSMp] l rds) (h : PostR w A rds w' us β' A') : ∃ u, us = [u] ∧ Below w.heap.size w w' ∧ w'.ownsRow w.heap.size tyM 6 u l.length (Ns.ms l) := by
  obtain ⟨rows, u, rfl, hR, hB, hu⟩ := Ns.post_o hr h
  have hl : l.length = rows.length := All2.len hR
  have hml : (Ns.ms l).length = l.length * 6 := flat_len (f := Ns.m) (k := 6) (fun _ => rfl) l
  refine ⟨u, rfl, hB, hml, ?_⟩
  rcases hu with ⟨rfl, rfl⟩ | ⟨g, cap, cur, rfl, h1, _, h2, h3, h4, h5, h6, h7⟩
  · exact .inl ⟨rfl, by simpa using hl⟩
  · refine .inr ⟨g, cap, cur, by rw [hl], h1, h2, by rw [hl]; exact h3, h4, h5, ?_⟩
    apply List.ext_getElem?
    intro t
    by_cases ht : t < l.length * 6
    · have hk : t / 6 < l.length := (Nat.div_lt_iff_lt_mul (by omega)).2 ht
      have hj : t % 6 < 6 := Nat.mod_lt _ (by omega)
      have he : t / 6 * 6 + t % 6 = t := by have := Nat.div_add_mod t 6; omega
      obtain ⟨y, hy⟩ : ∃ y, l[t / 6]? = some y := ⟨_, List.getElem?_eq_getElem hk⟩
      have hg := flat_get (f := Ns.m) (k := 6) (fun _ => rfl) l (t / 6) (t % 6) y hy hj
      rw [he] at hg
      obtain ⟨row, hrow, hy2⟩ := All2.get hR _ y hy
      have := Ns.mRow' hy2
      subst this
      obtain ⟨v, hv⟩ : ∃ v, (Ns.m y)[t % 6]? = some v := ⟨_, List.getElem?_eq_getElem hj⟩
      obtain ⟨u, c1, c2, c3⟩ := h7 _ _ hrow (t % 6) (V.ofCell v) (by rw [List.getElem?_map, hv]; rfl)
      rw [he] at c1
      rw [List.getElem?_take, if_pos ht, Array.getElem?_toList, c1]
      show _ = (Ns.ms l)[t]?
      rw [show (Ns.ms l)[t]? = _ from hg, hv]
      have hm : v ∈ Ns.m y := List.mem_of_getElem? hv
      simp only [Ns.m, List.mem_cons, List.not_mem_nil, or_false] at hm
      rcases hm with rfl | rfl | rfl | rfl | rfl | rfl <;> (cases c3; rfl)
    · rw [List.getElem?_eq_none (by rw [List.length_take]; omega), List.getElem?_eq_none (by omega)]
theorem Cp.tcl (w : World) (u : Value) (ts : List SPT) (hok : okM ts = true) (ha : ArgsAt w [.rd tSPT] ts #[u]) :
    Calls Try.prog 93 #[u] w fun en w' => ∃ ad cap rows A', en = .returned (.slice ad (ts.length : Nat) cap) ∧ RowsV tSPT ts rows ∧ Below w.heap.size w w' ∧
      ((ad = none ∧ cap = 0 ∧ ts = []) ∨ ∃ g cur, ad = some ⟨g, 0, none⟩ ∧ w.heap.size ≤ g ∧ A' g ∧ HB w' g tyP cur ∧ ts.length ≤ cap ∧ cap ≤ maxLen ∧ cur.size = cap * 4 ∧ (∀ row ∈ rows, row.length = 4) ∧
        ∀ (i : Nat) (row : List V), rows[i]? = some row → ∀ (j : Nat) (x : V), row[j]? = some x → ∃ v, cur[i * 4 + j]? = some v ∧ v.oneCell' = true ∧ RelP w' A' x v) :=
  (Ns.call E_tcl_ok ts (decide_eq_true (okM_len hok)) ha).mono fun en w' ⟨rds, us, β', A', hr, he, hpost⟩ => by
    obtain ⟨rows, u1, rfl, hR, hB1, hu⟩ := Ns.post_o hr hpost
    have hl : ts.length = rows.length := All2.len hR
    rcases hu with ⟨rfl, rfl⟩ | ⟨g, cap, cur, rfl, h1, h2, h3, h4, h5⟩
    · have hts : ts = [] := List.eq_nil_of_length_eq_zero (by simpa using hl)
      exact ⟨none, 0, [], A', by rw [hl]; exact he, hR, hB1, .inl ⟨rfl, rfl, hts⟩⟩
    · exact ⟨some ⟨g, 0, none⟩, cap, rows, A', by rw [hl]; exact he, hR, hB1, .inr ⟨g, cur, rfl, h1, h2, h3, by rw [hl]; exact h4, h5⟩⟩
theorem Cp.mcl (w : World) (v : Value) (l : List SMp) (hl : len40n l = true) (ha : ArgsAt w [.rd tSMp] l #[v]) :
    Calls Try.prog 94 #[v] w fun en w' => ∃ a c, en = .returned (.slice a (l.length : Nat) c) ∧ Below w.heap.size w w' ∧ w'.ownsRow w.heap.size tyM 6 (.slice a (l.length : Nat) c) l.length (Ns.ms l) :=
  (Ns.call E_mcl_ok l hl ha).mono fun en w' ⟨rds, us, β', A', hr, he, hpost⟩ => by
    obtain ⟨u1, rfl, hB1, hu⟩ := Cp.own hr hpost
    obtain ⟨a, c, rfl⟩ : ∃ a c, u1 = .slice a (l.length : Nat) c := by
      rcases hu.2 with ⟨rfl, h0⟩ | ⟨g, cap, cur, rfl, _⟩
      · exact ⟨none, 0, by rw [show l.length = 0 from h0]⟩
      · exact ⟨_, _, rfl⟩
    exact ⟨a, c, he, hB1, hu⟩
structure Cp.Mid (w w1 wr : World) (g cap : Nat) (C0 : Array Value) (ts : List SPT) (k : Nat) (C : Array Value) (R : List (SPT × Value)) : Prop where
  hb : HB wr g tyP C
  sz : C.size = cap * 4
  fst : R.map Prod.fst = ts.take k
  len : R.length = k
  done : ∀ (i : Nat) (p : SPT × Value), R[i]? = some p → ∀ j, j < 4 → C[i * 4 + j]? = (Ns.p p)[j]?
  rest : ∀ j, k * 4 ≤ j → C[j]? = C0[j]?
  inn : ∀ p ∈ R, wr.ownsRow w.heap.size tyM 6 p.2 (Ns.maps p.1).length (Ns.ms (Ns.maps p.1))
  ne : ∀ p ∈ R, ∀ b, p.2.ownBlock = some b → b ≠ g
  dis : R.Pairwise fun p q => ∀ b, p.2.ownBlock = some b → q.2.ownBlock ≠ some b
  ev1 : Ev w1 wr (fun b => b = g)
  bel : Below w.heap.size w wr
theorem Cp.Mid.next {w w1 wr : World} {g cap : Nat} {C0 : Array Value} {ts : List SPT} {k : Nat} {C : Array Value} {R : List (SPT × Value)} (h : Cp.Mid w w1 wr g cap C0 ts k C R) (hg : w.heap.size ≤ g) (hgl : g < w1.heap.size)
    {t : SPT} (ht : ts[k]? = some t) (hrow : C0[k * 4]? = some (.int .i64 t.1) ∧ C0[k * 4 + 1]? = some (.int .i64 t.2.1) ∧ C0[k * 4 + 2]? = some (.int .i64 t.2.2.1) ∧ k * 4 + 3 < C0.size) {w2 : World} {v : Value} (hB : Below wr.heap.size wr w2)
    (hv : w2.ownsRow wr.heap.size tyM 6 v (Ns.maps t).length (Ns.ms (Ns.maps t))) :
    Cp.Mid w w1 (w2.setCell ⟨g, k * 4 + 3, none⟩ v) g cap C0 ts (k + 1) (C.setIfInBounds (k * 4 + 3) v) (R ++ [(t, v)]) := by
  have h1 := h.ev1.size
  have h2 := h.bel.size
  have h3 := hB.size
  have hset : ∀ j, j ≠ k * 4 + 3 → (C.setIfInBounds (k * 4 + 3) v)[j]? = C[j]? := fun j hj => by rw [Array.getElem?_setIfInBounds]; split <;> first | omega | rfl
  have hk3 : k * 4 + 3 < C.size := by
    have := h.rest (k * 4 + 3) (by omega)
    rw [Array.getElem?_eq_getElem hrow.2.2.2] at this
    exact (Array.getElem?_eq_some_iff.1 this).1
  have evB : Ev wr (w2.setCell ⟨g, k * 4 + 3, none⟩ v) (fun b => b = g) := ⟨hB.os, hB.tape, hB.output, by simpa [World.setCell] using h3, fun q hq hne => (Below.heap_setCell w2 ⟨g, k * 4 + 3, none⟩ v q hne).trans (hB.block q hq)⟩
  have ev2 : Ev w2 (w2.setCell ⟨g, k * 4 + 3, none⟩ v) (fun b => b = g) := ⟨rfl, rfl, rfl, by simp [World.setCell], fun q hq hne => Below.heap_setCell w2 ⟨g, k * 4 + 3, none⟩ v q hne⟩
  have hvb : ∀ b, v.ownBlock = some b → wr.heap.size ≤ b := fun b hb => (Own.lt hv hb).1
  have hRb : ∀ p ∈ R, ∀ b, p.2.ownBlock = some b → b < wr.heap.size := fun p hp b hb => (Own.lt (h.inn p hp) hb).2
  refine ⟨(h.hb.below hB (by omega)).set _ _, by rw [Array.size_setIfInBounds]; exact h.sz, ?_, by simp [h.len], fun i p hp j hj => ?_, fun j hj => ?_, fun p hp => ?_, fun p hp b hb => ?_, ?_, ?_, ?_⟩
  · rw [List.map_append, h.fst, List.take_add_one, ht]; rfl
  · by_cases hi : i < k
    · rw [List.getElem?_append_left (by rw [h.len]; exact hi)] at hp
      rw [hset _ (by omega)]
      exact h.done i p hp j hj
    · rw [List.getElem?_append_right (by rw [h.len]; omega), h.len] at hp
      have hik : i - k = 0 := by
        have := (List.getElem?_eq_some_iff.1 hp).1
        simp at this; omega
      rw [hik] at hp
      simp at hp
      subst hp
      have : i = k := by omega
      subst this
      match j, hj with
      | 0, _ => rw [hset _ (by omega), h.rest _ (by omega)]; simpa using hrow.1
      | 1, _ => rw [hset _ (by omega), h.rest _ (by omega)]; simpa using hrow.2.1
      | 2, _ => rw [hset _ (by omega), h.rest _ (by omega)]; simpa using hrow.2.2.1
      | 3, _ => rw [Array.getElem?_setIfInBounds, if_pos rfl, if_pos hk3]; rfl
  · rw [hset _ (by omega)]; exact h.rest j (by omega)
  · rcases List.mem_append.1 hp with hp | hp
    · exact Own.ev (h.inn p hp) evB (h.ne p hp)
    · rw [List.mem_singleton.1 hp]
      have h9 : w2.ownsRow w.heap.size tyM 6 v (Ns.maps t).length (Ns.ms (Ns.maps t)) := ⟨hv.1, hv.2.imp id fun ⟨g', c', cu, e1, e2, e3⟩ => ⟨g', c', cu, e1, by omega, e3⟩⟩
      exact Own.ev h9 ev2 (fun b hb e => by have := hvb b hb; omega)
  · rcases List.mem_append.1 hp with hp | hp
    · exact h.ne p hp b hb
    · rw [List.mem_singleton.1 hp] at hb
      have := hvb b hb; omega
  · refine List.pairwise_append.2 ⟨h.dis, List.pairwise_singleton _ _, fun p hp q hq b hb hb2 => ?_⟩
    rw [List.mem_singleton.1 hq] at hb2
    have := hvb b hb2
    have := hRb p hp b hb
    omega
  · refine ⟨evB.os.trans h.ev1.os, evB.tape.trans h.ev1.tape, evB.output.trans h.ev1.output, Nat.le_trans h1 evB.size, fun q hq hne => (evB.block q (by omega) hne).trans (h.ev1.block q hq hne)⟩
  · exact (h.bel.trans (hB.mono h2)).trans (ev_below_n ev2 (fun b hb => by omega) (by omega))
theorem Cp.Mid.nest {w w1 wr : World} {g cap : Nat} {C0 : Array Value} {ts : List SPT} {C : Array Value} {R : List (SPT × Value)} (h : Cp.Mid w w1 wr g cap C0 ts ts.length C R) (hg : w.heap.size ≤ g) (hc : ts.length ≤ cap) (hm : cap ≤ maxLen) :
    R.map Prod.fst = ts ∧ Nest wr w.heap.size (.slice (some ⟨g, 0, none⟩) (ts.length : Nat) cap) R := by
  have hp4 : (Ns.ps R).length = R.length * 4 := flat_len (f := Ns.p) (k := 4) (fun _ => rfl) R
  refine ⟨by rw [h.fst, List.take_length], ⟨⟨hp4, .inr ⟨g, cap, C, by rw [h.len], hg, h.hb, by rw [h.len]; exact hc, hm, h.sz, ?_⟩⟩, h.inn, fun p hp b hb e => ?_, h.dis⟩⟩
  · apply List.ext_getElem?
    intro t
    by_cases ht : t < R.length * 4
    · have hk : t / 4 < R.length := (Nat.div_lt_iff_lt_mul (by omega)).2 ht
      have hj : t % 4 < 4 := Nat.mod_lt _ (by omega)
      have he : t / 4 * 4 + t % 4 = t := by have := Nat.div_add_mod t 4; omega
      obtain ⟨y, hy⟩ : ∃ y, R[t / 4]? = some y := ⟨_, List.getElem?_eq_getElem hk⟩
      have hg := flat_get (f := Ns.p) (k := 4) (fun _ => rfl) R (t / 4) (t % 4) y hy hj
      have hd := h.done _ y hy _ hj
      rw [he] at hg hd
      rw [List.getElem?_take, if_pos ht, Array.getElem?_toList, hd]
      exact hg.symm
    · rw [List.getElem?_eq_none (by rw [List.length_take]; omega), List.getElem?_eq_none (by omega)]
  · simp [Value.ownBlock] at e
    exact h.ne p hp b hb e.symm
set_option maxRecDepth 100000 in
set_option maxHeartbeats 2000000 in
theorem Cp.calls (w : World) (u : Value) (ts : List SPT) (hok : okM ts = true) (ha : ArgsAt w [.rd tSPT] ts #[u]) :
    Calls Try.prog 56 #[u] w fun en w' => ∃ out R, en = .returned out ∧ R.map Prod.fst = ts ∧ Nest w' w.heap.size out R ∧ Below w.heap.size w w' := by
  have hlen := okM_len hok
  have hu22 := Try.underlying22
  have hu58 := Try.underlying58
  have hu60 := Try.underlying60
  go_enter Try.func56, Try.ntmps56
  go_wp2_with (go_at_call 93; refine (Cp.tcl w u ts hok ha).mono ?_; rintro en w1 ⟨ad, cap, rows, A', rfl, hR, hB1, hu⟩)
  rcases hu with ⟨rfl, rfl, rfl⟩ | ⟨g, C0, rfl, hg, hAg, hb, hc, hm, hs, h4, hcell⟩
  · go_loopw [9] (fun i wr => i = .int .i64 0 ∧ wr = w1) (fun _ _ => 0)
    case atStart => exact ⟨rfl, rfl⟩
    case round =>
      obtain ⟨rfl, rfl⟩ := hrel
      go_wp2
      go_ret
      refine ⟨_, [], rfl, rfl, ⟨⟨rfl, .inl ⟨rfl, rfl⟩⟩, fun p hp => (by cases hp), fun p hp => (by cases hp), .nil⟩, hB1⟩
  · have hgl : g < w1.heap.size := hb.lt
    have hrow : ∀ (k : Nat) (t : SPT), ts[k]? = some t → (C0[k * 4]? = some (.int .i64 t.1) ∧ C0[k * 4 + 1]? = some (.int .i64 t.2.1) ∧ C0[k * 4 + 2]? = some (.int .i64 t.2.2.1) ∧ k * 4 + 3 < C0.size) ∧ ∃ v x, C0[k * 4 + 3]? = some v ∧ TyV (.sl tSMp) (Ns.maps t) x ∧ RelP w1 A' x v := fun k t ht => by
      obtain ⟨row, hrow, hR2⟩ := All2.get hR k t ht
      rw [Ns.pRow] at hR2
      obtain ⟨v0, r0, rfl, rfl, v1, r1, rfl, rfl, v2, r2, rfl, rfl, v3, rfl, h3⟩ := hR2
      obtain ⟨c0, a0, _, b0⟩ := hcell k _ hrow 0 _ rfl
      obtain ⟨c1, a1, _, b1⟩ := hcell k _ hrow 1 _ rfl
      obtain ⟨c2, a2, _, b2⟩ := hcell k _ hrow 2 _ rfl
      obtain ⟨c3, a3, _, b3⟩ := hcell k _ hrow 3 _ rfl
      cases b0; cases b1; cases b2
      exact ⟨⟨a0, a1, a2, (Array.getElem?_eq_some_iff.1 a3).1⟩, c3, v3, a3, h3, b3⟩
    go_wp2
    go_loopw [9] (fun i wr => ∃ (k : Nat) (C : Array Value) (R : List (SPT × Value)), k ≤ ts.length ∧ i = .int .i64 (k : Int) ∧ Cp.Mid w w1 wr g cap C0 ts k C R) (fun i _ => ts.length - (intOf i).toNat)
    case atStart => exact ⟨0, C0, [], Nat.zero_le _, rfl, ⟨hb, hs, rfl, rfl, fun i p hp => by simp at hp, fun j _ => rfl, fun p hp => (by cases hp), fun p hp => (by cases hp), .nil, ⟨rfl, rfl, rfl, Nat.le_refl _, fun _ _ _ => rfl⟩, hB1⟩⟩
    case round =>
      obtain ⟨k, C, R, hk, rfl, hM⟩ := hrel
      by_cases hlt : k < ts.length
      · obtain ⟨t, ht⟩ : ∃ t, ts[k]? = some t := ⟨_, List.getElem?_eq_getElem hlt⟩
        obtain ⟨hr3, v, x, hv, hx, hrel⟩ := hrow k t ht
        have hx2 : RelP wr (fun b => b = g) x v := hrel.frame (fun b hb hn => hM.ev1.block b hb (fun e => hn (by rw [e]; exact hAg))) hM.ev1.size (fun b _ e => by rw [e]; exact hAg)
        obtain ⟨⟨va, vm, vc, rfl⟩, hargs⟩ := Cp.view hx hx2
        have hk0 : (0 : Int) ≤ (k : Int) := by omega
        have hk1 : (k : Int) < (ts.length : Int) := by omega
        have hcl : wr.cell? ⟨g, k * 4 + 3, none⟩ = some (.slice va vm vc) := (hM.hb.cell _).trans ((hM.rest _ (by omega)).trans hv)
        have hlm : len40n (Ns.maps t) = true := okM_mem hok (List.mem_of_getElem? ht)
        go_wp2_with (go_at_call 94; refine (Cp.mcl wr _ (Ns.maps t) hlm hargs).mono ?_; rintro en w2 ⟨va2, vc2, rfl, hB2, hv2⟩; have b2 := hM.hb.below hB2 hM.hb.lt; have f2 := b2.frozen (k * 4 + 3); have c2 : w2.cell? ⟨g, k * 4 + 3, none⟩ = some (.slice va vm vc) := (b2.cell _).trans ((hM.rest _ (by omega)).trans hv))
        go_roundw
        case rel => exact ⟨k + 1, _, _, by omega, by congr 1, hM.next hg hgl ht hr3 hB2 hv2⟩
        case measure => simp [intOf]; omega
      · obtain rfl : k = ts.length := by omega
        go_wp2
        go_ret
        obtain ⟨e1, e2⟩ := hM.nest hg hc hm
        exact ⟨_, R, rfl, e1, e2, hM.bel⟩
end Go.Proofs
