/-
  Layer 16: vspace.Unmap: the ways that fail. By an AI agent.
-/
import Derived.Test.YtcpdakiailaneaaMq2
namespace Go.Proofs
open Go.RowKit Go.Shelf Go.AL
set_option linter.unusedVariables false
set_option linter.unusedSimpArgs false
attribute [local go_sem] Oper.semAt_some
abbrev tyI : TypeId := 39
abbrev idVal (i : SId) : Value := .agg #[.int .i64 i.1, .int .i64 i.2.1, .int .i64 i.2.2]
abbrev idA (i : SId) : Array Value := #[.int .i64 i.1, .int .i64 i.2.1, .int .i64 i.2.2]
def delAt {α : Type} (l : List α) (k : Nat) : List α := l.take k ++ l.drop (k + 1)
abbrev mId (m : SMp) : SId := (m.2.2.2.1, m.2.2.2.2.1, m.2.2.2.2.2)
def unmE (L : List SPT) (t : SPT) (M : List SPT) (i : Nat) : List SPT × SId × Int :=
  bif decide ((delAt (Ns.maps t) i).length = 0) then (L ++ M, mId ((Ns.maps t).getD i zM), 0) else (L ++ (t.1, t.2.1, t.2.2.1, delAt (Ns.maps t) i) :: M, mId ((Ns.maps t).getD i zM), 0)
noncomputable def unmS (a : List SPT × SCp × Int) : List SPT × SId × Int :=
  bif !tabsB a.1 then ([], (0, 0, 0), 1) else bif decide (ctabS (a.1, a.2.1) ≠ 0) then ([], (0, 0, 0), ctabS (a.1, a.2.1)) else bif decide (cidxS (a.2.1, a.2.2) ≠ 0) then ([], (0, 0, 0), cidxS (a.2.1, a.2.2)) else
  bif decide (ftS a.1 a.2.1.2.1 < 0) then ([], (0, 0, 0), 13) else bif decide (fmS (Ns.maps (a.1.getD (ftS a.1 a.2.1.2.1).toNat zPT)) a.2.2 < 0) then ([], (0, 0, 0), 13) else
  unmE (a.1.take (ftS a.1 a.2.1.2.1).toNat) (a.1.getD (ftS a.1 a.2.1.2.1).toNat zPT) (a.1.drop ((ftS a.1 a.2.1.2.1).toNat + 1)) (fmS (Ns.maps (a.1.getD (ftS a.1 a.2.1.2.1).toNat zPT)) a.2.2).toNat
structure Un.Fr (w W : World) (table : SCp) : Prop where
  bel : Below w.heap.size w W
  bT : HB W w.heap.size tyC (capA table)
  bI : HB W (w.heap.size + 1) tyI #[.int .i64 0, .int .i64 0, .int .i64 0]
theorem Un.Fr.next {w W W' : World} {table : SCp} (h : Un.Fr w W table) (hB : Below W.heap.size W W') : Un.Fr w W' table :=
  ⟨h.bel.trans (hB.mono h.bel.size), h.bT.below hB h.bT.lt, h.bI.below hB h.bI.lt⟩
theorem Un.Fr.cells {w W : World} {table : SCp} (h : Un.Fr w W table) :
    (W.cell? ⟨w.heap.size, 0, none⟩ = some (.int .i64 table.1) ∧ W.cell? ⟨w.heap.size, 1, none⟩ = some (.int .i64 table.2.1) ∧ W.cell? ⟨w.heap.size, 2, none⟩ = some (.int .i64 table.2.2.1) ∧ W.cell? ⟨w.heap.size, 3, none⟩ = some (.int .i64 table.2.2.2.1) ∧
    W.cell? ⟨w.heap.size, 4, none⟩ = some (.int .i64 table.2.2.2.2.1) ∧ W.cell? ⟨w.heap.size, 5, none⟩ = some (.int .i64 table.2.2.2.2.2.1) ∧ W.cell? ⟨w.heap.size, 6, none⟩ = some (.bool table.2.2.2.2.2.2)) ∧
    W.cell? ⟨w.heap.size + 1, 0, none⟩ = some (.int .i64 0) ∧ W.cell? ⟨w.heap.size + 1, 1, none⟩ = some (.int .i64 0) ∧ W.cell? ⟨w.heap.size + 1, 2, none⟩ = some (.int .i64 0) ∧
    W.frozen? ⟨w.heap.size + 1, 0, none⟩ = false ∧ W.frozen? ⟨w.heap.size + 1, 1, none⟩ = false ∧ W.frozen? ⟨w.heap.size + 1, 2, none⟩ = false := ⟨Mq.cap h.bT, h.bI.cell 0, h.bI.cell 1, h.bI.cell 2, h.bI.frozen 0, h.bI.frozen 1, h.bI.frozen 2⟩
theorem ArgAt.table {W : World} {ts : List SPT} {u : Value} (h : ArgAt W (.rd tSPT) ts u) {k : Nat} {t : SPT} (hk : ts[k]? = some t) : ∃ b off cap ia im ic, u = .slice (some ⟨b, off, none⟩) (ts.length : Nat) cap ∧
    W.cell? ⟨b, off + k * 4, none⟩ = some (.int .i64 t.1) ∧ W.cell? ⟨b, off + k * 4 + 1, none⟩ = some (.int .i64 t.2.1) ∧ W.cell? ⟨b, off + k * 4 + 2, none⟩ = some (.int .i64 t.2.2.1) ∧ W.cell? ⟨b, off + k * 4 + 3, none⟩ = some (.slice ia im ic) ∧ b < W.heap.size ∧
    ArgAt W (.g tSPT) t (.agg #[.int .i64 t.1, .int .i64 t.2.1, .int .i64 t.2.2.1, .slice ia im ic]) := by
  obtain ⟨v, ⟨rows, rfl, hR⟩, hr⟩ := h
  have e : (Env.M ⟨W, fun _ => False, noH, noB⟩) = fun _ => False := by funext b; simp [Env.M, noH]
  have hs : SlAt W (fun _ => False) (Env.M ⟨W, fun _ => False, noH, noB⟩) rows u := hr
  rw [e] at hs
  obtain ⟨row, hrow, hR2⟩ := All2.get hR k t hk
  have hlen : ts.length = rows.length := All2.len hR
  rcases hs with ⟨_, rfl⟩ | ⟨b, off, cap, es, f, rfl, h2, h3, h4, h5, h6⟩
  · simp at hrow
  have hne : rows ≠ [] := fun e => by rw [e] at hrow; simp at hrow
  have h7 := hR2
  rw [Ns.pRow] at hR2
  obtain ⟨v0, r0, rfl, rfl, v1, r1, rfl, rfl, v2, r2, rfl, rfl, v3, rfl, hx⟩ := hR2
  have he : es = 4 := (h4 _ (List.mem_of_getElem? hrow)).symm
  subst he
  have c0 := h5 k _ hrow 0 _ rfl
  have c1 := h5 k _ hrow 1 _ rfl
  have c2 := h5 k _ hrow 2 _ rfl
  have c3 := h5 k _ hrow 3 _ rfl
  have d0 := h6 k _ hrow 0 _ rfl
  have d1 := h6 k _ hrow 1 _ rfl
  have d2 := h6 k _ hrow 2 _ rfl
  have d3 := h6 k _ hrow 3 _ rfl
  generalize f k 0 = x0 at *
  generalize f k 1 = x1 at *
  generalize f k 2 = x2 at *
  generalize f k 3 = x3 at *
  obtain ⟨⟨ia, im, ic, rfl⟩, _⟩ := Cp.view hx d3
  cases d0; cases d1; cases d2
  refine ⟨b, off, cap, ia, im, ic, by rw [hlen], c0, c1, c2, c3, (h3 hne).1, _, ⟨_, rfl, h7⟩, #[.int .i64 t.1, .int .i64 t.2.1, .int .i64 t.2.2.1, .slice ia im ic], rfl, rfl, fun i x hi => ?_⟩
  match i, hi with
  | 0, hi => simp at hi; subst hi; exact ⟨_, rfl, .int _ _⟩
  | 1, hi => simp at hi; subst hi; exact ⟨_, rfl, .int _ _⟩
  | 2, hi => simp at hi; subst hi; exact ⟨_, rfl, .int _ _⟩
  | 3, hi => simp at hi; subst hi; exact ⟨_, rfl, d3⟩
  | i + 4, hi => simp at hi
theorem Un.res {w W : World} {tmps : Array Value} {x y : Value} {i : SId} (h : tmps[6]? = some x) (h2 : tmps[8]? = some y) (h7 : tmps[7]? = some (.pointer (some ⟨w.heap.size + 1, 0, none⟩))) (hb : HB W (w.heap.size + 1) tyI (idA i)) : (results Try.f49 tmps).run Try.prog W = .ok (.tuple #[x, idVal i, y]) W := by
  have c0 := hb.cell 0
  have c1 := hb.cell 1
  have c2 := hb.cell 2
  simp [results, Try.f49, go_sem, h, h2, h7, c0, c1, c2]
theorem HB.set3 {W : World} {B : Nat} {t : TypeId} {a b c x y z : Value} (h : HB W B t #[a, b, c]) : HB (((W.setCell ⟨B, 0, none⟩ x).setCell ⟨B, 1, none⟩ y).setCell ⟨B, 2, none⟩ z) B t #[x, y, z] := ((h.set 0 x).set 1 y).set 2 z
theorem Un.zero {w W : World} {table : SCp} (h : Un.Fr w W table) {x y z : Value} : Below w.heap.size w (((W.setCell ⟨w.heap.size + 1, 0, none⟩ x).setCell ⟨w.heap.size + 1, 1, none⟩ y).setCell ⟨w.heap.size + 1, 2, none⟩ z) :=
  ((h.bel.setCell (p := ⟨w.heap.size + 1, 0, none⟩) (by show w.heap.size ≤ w.heap.size + 1; omega) x).setCell (p := ⟨w.heap.size + 1, 1, none⟩) (by show w.heap.size ≤ w.heap.size + 1; omega) y).setCell (p := ⟨w.heap.size + 1, 2, none⟩) (by show w.heap.size ≤ w.heap.size + 1; omega) z
set_option maxRecDepth 100000 in
set_option maxHeartbeats 4000000 in
theorem Un.calls (w : World) (u : Value) (ts : List SPT) (table : SCp) (index : Int) (hok : okM ts = true) (hu : ArgAt w (.rd tSPT) ts u)
    (Q : Ending → World → Prop) (hQ : ∀ W out R i e, unmS (ts, table, index) = (R.map Prod.fst, i, e) → Nest W w.heap.size out R → Below w.heap.size w W → Q (.returned (.tuple #[out, idVal i, .int .i64 e])) W)
    (hgo : tabsB ts = true → ctabS (ts, table) = 0 → cidxS (table, index) = 0 → 0 ≤ ftS ts table.2.1 → 0 ≤ fmS (Ns.maps (ts.getD (ftS ts table.2.1).toNat zPT)) index →
      Calls Try.prog 49 #[u, capV table, .int .i64 index] w Q) :
    Calls Try.prog 49 #[u, capV table, .int .i64 index] w Q := by
  have hlen := okM_len hok
  have hE : ∀ W e, unmS (ts, table, index) = ([], (0, 0, 0), e) → Below w.heap.size w W → Q (.returned (.tuple #[.slice none 0 0, idVal (0, 0, 0), .int .i64 e])) W := fun W e h hB => hQ W _ [] _ e h (Mq.nil _ _) hB
  have hcV : ∀ W, Below w.heap.size w W → Calls Try.prog 34 #[u] W fun en w' => en = .returned (.bool (tabsB ts)) ∧ Below W.heap.size W w' := fun W hB => Ns.callB E_vval_ok ts rfl hok HEq.rfl (ArgsAt.one (hu.below hB))
  have hcT : ∀ W, Below w.heap.size w W → Calls Try.prog 53 #[u, capV table] W fun en w' => en = .returned (.int .i64 (ctabS (ts, table))) ∧ Below W.heap.size W w' := fun W hB => Ns.callI E_ctab_ok (ts, table) rfl (decide_eq_true hlen) HEq.rfl (ArgsAt.two (hu.below hB) (ArgAt.cap W table))
  have hcI : ∀ W, Below w.heap.size w W → Calls Try.prog 55 #[capV table, .int .i64 index] W fun en w' => en = .returned (.int .i64 (cidxS (table, index))) ∧ Below W.heap.size W w' := fun W hB => Ns.callI E_cidx_ok (table, index) rfl rfl HEq.rfl (ArgsAt.two (ArgAt.cap W table) ArgAt.int)
  have hcF : ∀ W, Below w.heap.size w W → Calls Try.prog 57 #[u, .int .i64 table.2.1] W fun en w' => en = .returned (.tuple #[.int .i64 (ftS ts table.2.1), .bool (decide (ftS ts table.2.1 ≥ 0))]) ∧ Below W.heap.size W w' := fun W hB => Ns.callIB (x := ftS ts table.2.1) (b := decide (ftS ts table.2.1 ≥ 0)) E_find_ok (ts, table.2.1) rfl (decide_eq_true hlen) HEq.rfl (ArgsAt.two (hu.below hB) ArgAt.int)
  have b0 := (HB.new w tyC (capA table)).alloc (.cells #[.int .i64 0, .int .i64 0, .int .i64 0] tyI)
  have b1 := HB.new (w.alloc (.cells (capA table) tyC)) tyI #[.int .i64 0, .int .i64 0, .int .i64 0]
  have hB0 : Below w.heap.size w ((w.alloc (.cells (capA table) tyC)).alloc (.cells #[.int .i64 0, .int .i64 0, .int .i64 0] tyI)) := ((Below.refl _ w).alloc (Nat.le_refl _) _).alloc (by simp) _
  simp only [World.size_alloc] at b1
  obtain ⟨W0, hW0⟩ : ∃ W0, W0 = (w.alloc (.cells (capA table) tyC)).alloc (.cells #[.int .i64 0, .int .i64 0, .int .i64 0] tyI) := ⟨_, rfl⟩
  rw [← hW0] at b0 b1 hB0
  have fr : Un.Fr w W0 table := ⟨hB0, b0, b1⟩
  clear b0 b1 hB0
  cases hT : tabsB ts
  case false =>
    have hs1 : unmS (ts, table, index) = ([], (0, 0, 0), 1) := by simp only [unmS, hT]; rfl
    replace hE := fun W => hE W _ hs1
    clear hs1 hQ hgo
    rw [hT] at hcV
    go_enter Try.func49, Try.ntmps49
    go_upto_region 1 with fail
    rw [← hW0]
    clear hW0
    obtain ⟨⟨t0, t1, t2, t3, t4, t5, t6⟩, n0, n1, n2, f0, f1, f2⟩ := fr.cells
    go_wp2_with (first
      | (go_at_call 34; refine (hcV _ fr.bel).mono ?_; rintro en W1 ⟨rfl, hB1⟩; replace fr := fr.next hB1; obtain ⟨⟨t0, t1, t2, t3, t4, t5, t6⟩, n0, n1, n2, f0, f1, f2⟩ := fr.cells)
      | (go_at_call 53; refine (hcT _ fr.bel).mono ?_; rintro en W1 ⟨rfl, hB1⟩; replace fr := fr.next hB1; obtain ⟨⟨t0, t1, t2, t3, t4, t5, t6⟩, n0, n1, n2, f0, f1, f2⟩ := fr.cells)
      | (go_at_call 55; refine (hcI _ fr.bel).mono ?_; rintro en W1 ⟨rfl, hB1⟩; replace fr := fr.next hB1; obtain ⟨⟨t0, t1, t2, t3, t4, t5, t6⟩, n0, n1, n2, f0, f1, f2⟩ := fr.cells)
      | (go_at_call 57; refine (hcF _ fr.bel).mono ?_; rintro en W1 ⟨rfl, hB1⟩; replace fr := fr.next hB1; obtain ⟨⟨t0, t1, t2, t3, t4, t5, t6⟩, n0, n1, n2, f0, f1, f2⟩ := fr.cells)
      | (go_at_call 65; refine (hcM _ fr.bel).mono ?_; rintro en W1 ⟨rfl, hB1⟩; replace fr := fr.next hB1; obtain ⟨⟨t0, t1, t2, t3, t4, t5, t6⟩, n0, n1, n2, f0, f1, f2⟩ := fr.cells))
    exact bodyPost_ret (Un.res (w := w) (i := (0, 0, 0)) (x := .slice none 0 0) rfl rfl rfl fr.bI.set3) rfl (hE _ (Un.zero fr))
  rw [hT] at hcV
  by_cases hc0 : ctabS (ts, table) ≠ 0
  case pos =>
    have hs1 : unmS (ts, table, index) = ([], (0, 0, 0), ctabS (ts, table)) := by simp only [unmS, hT, decide_eq_true hc0]; rfl
    replace hE := fun W => hE W _ hs1
    clear hs1 hQ hgo
    generalize ctabS (ts, table) = eT at hcT hE hc0
    go_enter Try.func49, Try.ntmps49
    go_upto_region 1 with fail
    rw [← hW0]
    clear hW0
    obtain ⟨⟨t0, t1, t2, t3, t4, t5, t6⟩, n0, n1, n2, f0, f1, f2⟩ := fr.cells
    go_wp2_with (first
      | (go_at_call 34; refine (hcV _ fr.bel).mono ?_; rintro en W1 ⟨rfl, hB1⟩; replace fr := fr.next hB1; obtain ⟨⟨t0, t1, t2, t3, t4, t5, t6⟩, n0, n1, n2, f0, f1, f2⟩ := fr.cells)
      | (go_at_call 53; refine (hcT _ fr.bel).mono ?_; rintro en W1 ⟨rfl, hB1⟩; replace fr := fr.next hB1; obtain ⟨⟨t0, t1, t2, t3, t4, t5, t6⟩, n0, n1, n2, f0, f1, f2⟩ := fr.cells)
      | (go_at_call 55; refine (hcI _ fr.bel).mono ?_; rintro en W1 ⟨rfl, hB1⟩; replace fr := fr.next hB1; obtain ⟨⟨t0, t1, t2, t3, t4, t5, t6⟩, n0, n1, n2, f0, f1, f2⟩ := fr.cells)
      | (go_at_call 57; refine (hcF _ fr.bel).mono ?_; rintro en W1 ⟨rfl, hB1⟩; replace fr := fr.next hB1; obtain ⟨⟨t0, t1, t2, t3, t4, t5, t6⟩, n0, n1, n2, f0, f1, f2⟩ := fr.cells)
      | (go_at_call 65; refine (hcM _ fr.bel).mono ?_; rintro en W1 ⟨rfl, hB1⟩; replace fr := fr.next hB1; obtain ⟨⟨t0, t1, t2, t3, t4, t5, t6⟩, n0, n1, n2, f0, f1, f2⟩ := fr.cells))
    exact bodyPost_ret (Un.res (w := w) (i := (0, 0, 0)) (x := .slice none 0 0) rfl rfl rfl fr.bI.set3) rfl (hE _ (Un.zero fr))
  have hc0 : ctabS (ts, table) = 0 := Classical.not_not.1 hc0
  rw [hc0] at hcT
  by_cases hi0 : cidxS (table, index) ≠ 0
  case pos =>
    have hs1 : unmS (ts, table, index) = ([], (0, 0, 0), cidxS (table, index)) := by simp only [unmS, hT, decide_eq_false (show ¬ ctabS (ts, table) ≠ 0 from fun h => h hc0), decide_eq_true hi0]; rfl
    replace hE := fun W => hE W _ hs1
    clear hs1 hQ hgo
    generalize cidxS (table, index) = eT at hcI hE hi0
    go_enter Try.func49, Try.ntmps49
    go_upto_region 1 with fail
    rw [← hW0]
    clear hW0
    obtain ⟨⟨t0, t1, t2, t3, t4, t5, t6⟩, n0, n1, n2, f0, f1, f2⟩ := fr.cells
    go_wp2_with (first
      | (go_at_call 34; refine (hcV _ fr.bel).mono ?_; rintro en W1 ⟨rfl, hB1⟩; replace fr := fr.next hB1; obtain ⟨⟨t0, t1, t2, t3, t4, t5, t6⟩, n0, n1, n2, f0, f1, f2⟩ := fr.cells)
      | (go_at_call 53; refine (hcT _ fr.bel).mono ?_; rintro en W1 ⟨rfl, hB1⟩; replace fr := fr.next hB1; obtain ⟨⟨t0, t1, t2, t3, t4, t5, t6⟩, n0, n1, n2, f0, f1, f2⟩ := fr.cells)
      | (go_at_call 55; refine (hcI _ fr.bel).mono ?_; rintro en W1 ⟨rfl, hB1⟩; replace fr := fr.next hB1; obtain ⟨⟨t0, t1, t2, t3, t4, t5, t6⟩, n0, n1, n2, f0, f1, f2⟩ := fr.cells)
      | (go_at_call 57; refine (hcF _ fr.bel).mono ?_; rintro en W1 ⟨rfl, hB1⟩; replace fr := fr.next hB1; obtain ⟨⟨t0, t1, t2, t3, t4, t5, t6⟩, n0, n1, n2, f0, f1, f2⟩ := fr.cells)
      | (go_at_call 65; refine (hcM _ fr.bel).mono ?_; rintro en W1 ⟨rfl, hB1⟩; replace fr := fr.next hB1; obtain ⟨⟨t0, t1, t2, t3, t4, t5, t6⟩, n0, n1, n2, f0, f1, f2⟩ := fr.cells))
    exact bodyPost_ret (Un.res (w := w) (i := (0, 0, 0)) (x := .slice none 0 0) rfl rfl rfl fr.bI.set3) rfl (hE _ (Un.zero fr))
  have hi0 : cidxS (table, index) = 0 := Classical.not_not.1 hi0
  rw [hi0] at hcI
  by_cases hf : ftS ts table.2.1 < 0
  case pos =>
    have hs1 : unmS (ts, table, index) = ([], (0, 0, 0), 13) := by simp only [unmS, hT, decide_eq_false (show ¬ ctabS (ts, table) ≠ 0 from fun h => h hc0), decide_eq_false (show ¬ cidxS (table, index) ≠ 0 from fun h => h hi0), decide_eq_true hf]; rfl
    replace hE := fun W => hE W _ hs1
    clear hs1 hQ hgo
    have hd : decide (ftS ts table.2.1 ≥ 0) = false := decide_eq_false (by omega)
    rw [hd] at hcF
    generalize ftS ts table.2.1 = eF at hcF
    clear hd hf
    go_enter Try.func49, Try.ntmps49
    go_upto_region 1 with fail
    rw [← hW0]
    clear hW0
    obtain ⟨⟨t0, t1, t2, t3, t4, t5, t6⟩, n0, n1, n2, f0, f1, f2⟩ := fr.cells
    go_wp2_with (first
      | (go_at_call 34; refine (hcV _ fr.bel).mono ?_; rintro en W1 ⟨rfl, hB1⟩; replace fr := fr.next hB1; obtain ⟨⟨t0, t1, t2, t3, t4, t5, t6⟩, n0, n1, n2, f0, f1, f2⟩ := fr.cells)
      | (go_at_call 53; refine (hcT _ fr.bel).mono ?_; rintro en W1 ⟨rfl, hB1⟩; replace fr := fr.next hB1; obtain ⟨⟨t0, t1, t2, t3, t4, t5, t6⟩, n0, n1, n2, f0, f1, f2⟩ := fr.cells)
      | (go_at_call 55; refine (hcI _ fr.bel).mono ?_; rintro en W1 ⟨rfl, hB1⟩; replace fr := fr.next hB1; obtain ⟨⟨t0, t1, t2, t3, t4, t5, t6⟩, n0, n1, n2, f0, f1, f2⟩ := fr.cells)
      | (go_at_call 57; refine (hcF _ fr.bel).mono ?_; rintro en W1 ⟨rfl, hB1⟩; replace fr := fr.next hB1; obtain ⟨⟨t0, t1, t2, t3, t4, t5, t6⟩, n0, n1, n2, f0, f1, f2⟩ := fr.cells)
      | (go_at_call 65; refine (hcM _ fr.bel).mono ?_; rintro en W1 ⟨rfl, hB1⟩; replace fr := fr.next hB1; obtain ⟨⟨t0, t1, t2, t3, t4, t5, t6⟩, n0, n1, n2, f0, f1, f2⟩ := fr.cells))
    exact bodyPost_ret (Un.res (w := w) (i := (0, 0, 0)) (x := .slice none 0 0) rfl rfl rfl fr.bI.set3) rfl (hE _ (Un.zero fr))
  have hd : decide (ftS ts table.2.1 ≥ 0) = true := decide_eq_true (by omega)
  rw [hd] at hcF
  clear hd
  obtain ⟨k, t, hk1, hk2, hk3⟩ : ∃ (k : Nat) (t : SPT), (ftS ts table.2.1) = (k : Int) ∧ ts[k]? = some t ∧ ts.getD (ftS ts table.2.1).toNat zPT = t := by
    have := findI_lt (fun t : SPT => decide (t.1 = table.2.1)) ts 0 (by omega)
    have h2 : ftS ts table.2.1 < 0 + ts.length := this
    have h3 : (ftS ts table.2.1).toNat < ts.length := by omega
    exact ⟨(ftS ts table.2.1).toNat, ts[(ftS ts table.2.1).toNat], by omega, List.getElem?_eq_getElem h3, by rw [List.getD_eq_getElem?_getD, List.getElem?_eq_getElem h3]; rfl⟩
  have hkl := (List.getElem?_eq_some_iff.1 hk2).1
  obtain ⟨b, off, cap, ia, im, ic, rfl, q0, q1, q2, q3, hbw, hat⟩ := hu.table hk2
  have hlm : len40n (Ns.maps t) = true := okM_mem hok (List.mem_of_getElem? hk2)
  have hcM : ∀ W, Below w.heap.size w W → Calls Try.prog 65 #[.agg #[.int .i64 t.1, .int .i64 t.2.1, .int .i64 t.2.2.1, .slice ia im ic], .int .i64 index] W fun en w' => en = .returned (.tuple #[.int .i64 (fmS (Ns.maps t) index), .bool (decide (fmS (Ns.maps t) index ≥ 0))]) ∧ Below W.heap.size W w' := fun W hB => Ns.callIB (x := fmS (Ns.maps t) index) (b := decide (fmS (Ns.maps t) index ≥ 0)) E_mapg_ok (t, index) rfl hlm HEq.rfl (ArgsAt.two (hat.below hB) ArgAt.int)
  by_cases hm : fmS (Ns.maps t) index < 0
  case pos =>
    have hs1 : unmS (ts, table, index) = ([], (0, 0, 0), 13) := by simp only [unmS, hT, decide_eq_false (show ¬ ctabS (ts, table) ≠ 0 from fun h => h hc0), decide_eq_false (show ¬ cidxS (table, index) ≠ 0 from fun h => h hi0), decide_eq_false hf, hk3, decide_eq_true hm]; rfl
    replace hE := fun W => hE W _ hs1
    clear hs1 hQ hgo
    have hd : decide (fmS (Ns.maps t) index ≥ 0) = false := decide_eq_false (by omega)
    rw [hd] at hcM
    generalize fmS (Ns.maps t) index = eM at hcM
    clear hd hm
    rw [hk1] at hcF
    clear hf hk3
    have hk0 : (0 : Int) ≤ (k : Int) := by omega
    have hk1 : (k : Int) < (ts.length : Int) := by omega
    go_enter Try.func49, Try.ntmps49
    go_upto_region 1 with fail
    rw [← hW0]
    clear hW0
    obtain ⟨⟨t0, t1, t2, t3, t4, t5, t6⟩, n0, n1, n2, f0, f1, f2⟩ := fr.cells
    go_wp2_with (first
      | (go_at_call 34; refine (hcV _ fr.bel).mono ?_; rintro en W1 ⟨rfl, hB1⟩; replace fr := fr.next hB1; obtain ⟨⟨t0, t1, t2, t3, t4, t5, t6⟩, n0, n1, n2, f0, f1, f2⟩ := fr.cells)
      | (go_at_call 53; refine (hcT _ fr.bel).mono ?_; rintro en W1 ⟨rfl, hB1⟩; replace fr := fr.next hB1; obtain ⟨⟨t0, t1, t2, t3, t4, t5, t6⟩, n0, n1, n2, f0, f1, f2⟩ := fr.cells)
      | (go_at_call 55; refine (hcI _ fr.bel).mono ?_; rintro en W1 ⟨rfl, hB1⟩; replace fr := fr.next hB1; obtain ⟨⟨t0, t1, t2, t3, t4, t5, t6⟩, n0, n1, n2, f0, f1, f2⟩ := fr.cells)
      | (go_at_call 57; refine (hcF _ fr.bel).mono ?_; rintro en W1 ⟨rfl, hB1⟩; replace fr := fr.next hB1; obtain ⟨⟨t0, t1, t2, t3, t4, t5, t6⟩, n0, n1, n2, f0, f1, f2⟩ := fr.cells; have z0 := (fr.bel.cell (p := ⟨b, _, none⟩) hbw).trans q0; have z1 := (fr.bel.cell (p := ⟨b, _, none⟩) hbw).trans q1; have z2 := (fr.bel.cell (p := ⟨b, _, none⟩) hbw).trans q2; have z3 := (fr.bel.cell (p := ⟨b, _, none⟩) hbw).trans q3)
      | (go_at_call 65; refine (hcM _ fr.bel).mono ?_; rintro en W1 ⟨rfl, hB1⟩; replace fr := fr.next hB1; obtain ⟨⟨t0, t1, t2, t3, t4, t5, t6⟩, n0, n1, n2, f0, f1, f2⟩ := fr.cells))
    exact bodyPost_ret (Un.res (w := w) (i := (0, 0, 0)) (x := .slice none 0 0) rfl rfl rfl fr.bI.set3) rfl (hE _ (Un.zero fr))
  exact hgo hT hc0 hi0 (by omega) (by rw [hk3]; omega)
end Go.Proofs
