/-
  Layer 16: vspace.Map, walked. By an AI agent.
-/
import Derived.Test.YtcpdakiailaneaaMp
import Derived.Deep.Cut
namespace Go.Proofs
open Go.RowKit Go.Shelf Go.AL
set_option linter.unusedVariables false
set_option linter.unusedSimpArgs false
attribute [local go_sem] Oper.semAt_some
abbrev tyC : TypeId := 25
abbrev tyN : TypeId := 42
abbrev ndA (n : SNd) (pv : Value) : Array Value := #[.int .i64 n.1, .int .i64 n.2.1, .int .i64 n.2.2.1, pv, .int .i64 n.2.2.2.2.1, .int .i64 n.2.2.2.2.2.1, .int .i64 n.2.2.2.2.2.2.1, .int .i64 n.2.2.2.2.2.2.2.1, .int .i64 n.2.2.2.2.2.2.2.2.1, .int .i64 n.2.2.2.2.2.2.2.2.2.1, .bool n.2.2.2.2.2.2.2.2.2.2]
abbrev capA (c : SCp) : Array Value := #[.int .i64 c.1, .int .i64 c.2.1, .int .i64 c.2.2.1, .int .i64 c.2.2.2.1, .int .i64 c.2.2.2.2.1, .int .i64 c.2.2.2.2.2.1, .bool c.2.2.2.2.2.2]
theorem Mq.cap {W : World} {B : Nat} {c : SCp} (h : HB W B tyC (capA c)) : W.cell? ⟨B, 0, none⟩ = some (.int .i64 c.1) ∧ W.cell? ⟨B, 1, none⟩ = some (.int .i64 c.2.1) ∧ W.cell? ⟨B, 2, none⟩ = some (.int .i64 c.2.2.1) ∧ W.cell? ⟨B, 3, none⟩ = some (.int .i64 c.2.2.2.1) ∧
    W.cell? ⟨B, 4, none⟩ = some (.int .i64 c.2.2.2.2.1) ∧ W.cell? ⟨B, 5, none⟩ = some (.int .i64 c.2.2.2.2.2.1) ∧ W.cell? ⟨B, 6, none⟩ = some (.bool c.2.2.2.2.2.2) := ⟨h.cell 0, h.cell 1, h.cell 2, h.cell 3, h.cell 4, h.cell 5, h.cell 6⟩
theorem Mq.nd {W : World} {B : Nat} {n : SNd} {pv : Value} (h : HB W B tyN (ndA n pv)) : W.cell? ⟨B, 0, none⟩ = some (.int .i64 n.1) ∧ W.cell? ⟨B, 1, none⟩ = some (.int .i64 n.2.1) ∧ W.cell? ⟨B, 2, none⟩ = some (.int .i64 n.2.2.1) ∧ W.cell? ⟨B, 3, none⟩ = some pv ∧
    W.cell? ⟨B, 4, none⟩ = some (.int .i64 n.2.2.2.2.1) ∧ W.cell? ⟨B, 5, none⟩ = some (.int .i64 n.2.2.2.2.2.1) ∧ W.cell? ⟨B, 6, none⟩ = some (.int .i64 n.2.2.2.2.2.2.1) ∧ W.cell? ⟨B, 7, none⟩ = some (.int .i64 n.2.2.2.2.2.2.2.1) ∧
    W.cell? ⟨B, 8, none⟩ = some (.int .i64 n.2.2.2.2.2.2.2.2.1) ∧ W.cell? ⟨B, 9, none⟩ = some (.int .i64 n.2.2.2.2.2.2.2.2.2.1) ∧ W.cell? ⟨B, 10, none⟩ = some (.bool n.2.2.2.2.2.2.2.2.2.2) := ⟨h.cell 0, h.cell 1, h.cell 2, h.cell 3, h.cell 4, h.cell 5, h.cell 6, h.cell 7, h.cell 8, h.cell 9, h.cell 10⟩
def lowB (l : List SMp) (i : Int) : Nat := (l.takeWhile fun m => decide (m.1 < i)).length
def insAt {α : Type} (l : List α) (k : Nat) (x : α) : List α := l.take k ++ [x] ++ l.drop k
def mapRt (n : SNd) (mask : Int) : Int := IntKind.i64.wrap (↑(BitVec.ofInt IntKind.i64.bits (IntKind.i64.wrap (↑(BitVec.ofInt IntKind.i64.bits n.2.2.2.2.2.2.2.1 &&& BitVec.ofInt IntKind.i64.bits mask).toNat : Int)) &&& BitVec.ofInt IntKind.i64.bits 3).toNat : Int)
def mapM (table : SCp) (index : Int) (n : SNd) (mask : Int) : SMp := (index, n.2.2.2.2.2.1, bif decide (table.2.2.2.2.2.1 = 0) then mapRt n mask else 0, n.1, n.2.1, n.2.2.1)
def zM : SMp := (0, 0, 0, 0, 0, 0)
def posI (i : Int) (n : Nat) : Nat := bif decide (i < 0) then n else i.toNat
noncomputable def mapS (a : List SPT × SCp × Int × SNd × Int) : List SPT × Int :=
  bif !tabsB a.1 then ([], 1) else bif !vnodB a.2.2.2.1 then ([], 1) else bif decide (a.2.2.2.2 < 0) then ([], 1) else bif decide (a.2.2.2.2 > 7) then ([], 1) else
  bif decide (ctabS (a.1, a.2.1) ≠ 0) then ([], ctabS (a.1, a.2.1)) else bif !F_rmbl (a.2.1, ncap a.2.2.2.1) then ([], 5) else bif decide (cidxS (a.2.1, a.2.2.1) ≠ 0) then ([], cidxS (a.2.1, a.2.2.1)) else
  bif decide (ftS a.1 a.2.1.2.1 < 0) then (insAt a.1 (posI (findI (fun t => decide (t.1 > a.2.1.2.1)) a.1 0) a.1.length) (a.2.1.2.1, a.2.1.2.2.2.2.1, a.2.1.2.2.2.2.2.1, [mapM a.2.1 a.2.2.1 a.2.2.2.1 a.2.2.2.2]), 0) else
  bif decide (lowB (Ns.maps (a.1.getD (ftS a.1 a.2.1.2.1).toNat zPT)) a.2.2.1 < (Ns.maps (a.1.getD (ftS a.1 a.2.1.2.1).toNat zPT)).length) && decide (((Ns.maps (a.1.getD (ftS a.1 a.2.1.2.1).toNat zPT)).getD (lowB (Ns.maps (a.1.getD (ftS a.1 a.2.1.2.1).toNat zPT)) a.2.2.1) zM).1 = a.2.2.1) then ([], 12) else
  (a.1.set (ftS a.1 a.2.1.2.1).toNat ((a.1.getD (ftS a.1 a.2.1.2.1).toNat zPT).1, (a.1.getD (ftS a.1 a.2.1.2.1).toNat zPT).2.1, (a.1.getD (ftS a.1 a.2.1.2.1).toNat zPT).2.2.1, insAt (Ns.maps (a.1.getD (ftS a.1 a.2.1.2.1).toNat zPT)) (lowB (Ns.maps (a.1.getD (ftS a.1 a.2.1.2.1).toNat zPT)) a.2.2.1) (mapM a.2.1 a.2.2.1 a.2.2.2.1 a.2.2.2.2)), 0)
theorem Mq.res {tmps : Array Value} {w : World} {x y : Value} (h : tmps[10]? = some x) (h2 : tmps[11]? = some y) : (results Try.f18 tmps).run Try.prog w = .ok (.tuple #[x, y]) w := by
  simp [results, Try.f18, go_sem, h, h2]
theorem Mq.nil (W : World) (n0 : Nat) : Nest W n0 (.slice none 0 0) [] := ⟨⟨rfl, .inl ⟨rfl, rfl⟩⟩, fun p hp => (by cases hp), fun p hp => (by cases hp), .nil⟩
structure Mq.Fr (w W : World) (table : SCp) (n : SNd) (pv : Value) : Prop where
  bel : Below w.heap.size w W
  bT : HB W w.heap.size tyC (capA table)
  bN : HB W (w.heap.size + 1) tyN (ndA n pv)
theorem Mq.Fr.next {w W W' : World} {table : SCp} {n : SNd} {pv : Value} (h : Mq.Fr w W table n pv) (hB : Below W.heap.size W W') : Mq.Fr w W' table n pv :=
  ⟨h.bel.trans (hB.mono h.bel.size), h.bT.below hB h.bT.lt, h.bN.below hB h.bN.lt⟩
theorem Mq.Fr.cells {w W : World} {table : SCp} {n : SNd} {pv : Value} (h : Mq.Fr w W table n pv) :
    (W.cell? ⟨w.heap.size, 0, none⟩ = some (.int .i64 table.1) ∧ W.cell? ⟨w.heap.size, 1, none⟩ = some (.int .i64 table.2.1) ∧ W.cell? ⟨w.heap.size, 2, none⟩ = some (.int .i64 table.2.2.1) ∧ W.cell? ⟨w.heap.size, 3, none⟩ = some (.int .i64 table.2.2.2.1) ∧
    W.cell? ⟨w.heap.size, 4, none⟩ = some (.int .i64 table.2.2.2.2.1) ∧ W.cell? ⟨w.heap.size, 5, none⟩ = some (.int .i64 table.2.2.2.2.2.1) ∧ W.cell? ⟨w.heap.size, 6, none⟩ = some (.bool table.2.2.2.2.2.2)) ∧
    (W.cell? ⟨w.heap.size + 1, 0, none⟩ = some (.int .i64 n.1) ∧ W.cell? ⟨w.heap.size + 1, 1, none⟩ = some (.int .i64 n.2.1) ∧ W.cell? ⟨w.heap.size + 1, 2, none⟩ = some (.int .i64 n.2.2.1) ∧ W.cell? ⟨w.heap.size + 1, 3, none⟩ = some pv ∧
    W.cell? ⟨w.heap.size + 1, 4, none⟩ = some (.int .i64 n.2.2.2.2.1) ∧ W.cell? ⟨w.heap.size + 1, 5, none⟩ = some (.int .i64 n.2.2.2.2.2.1) ∧ W.cell? ⟨w.heap.size + 1, 6, none⟩ = some (.int .i64 n.2.2.2.2.2.2.1) ∧ W.cell? ⟨w.heap.size + 1, 7, none⟩ = some (.int .i64 n.2.2.2.2.2.2.2.1) ∧
    W.cell? ⟨w.heap.size + 1, 8, none⟩ = some (.int .i64 n.2.2.2.2.2.2.2.2.1) ∧ W.cell? ⟨w.heap.size + 1, 9, none⟩ = some (.int .i64 n.2.2.2.2.2.2.2.2.2.1) ∧ W.cell? ⟨w.heap.size + 1, 10, none⟩ = some (.bool n.2.2.2.2.2.2.2.2.2.2)) := ⟨Mq.cap h.bT, Mq.nd h.bN⟩
set_option maxRecDepth 100000 in
set_option maxHeartbeats 4000000 in
theorem Mq.calls (w : World) (u pv : Value) (ts : List SPT) (table : SCp) (index : Int) (n : SNd) (mask : Int) (hok : okM ts = true) (hu : ArgAt w (.rd tSPT) ts u) (hn : ArgAt w (.g tSNd) n (ndV n pv)) (hp1 : pv.oneCell' = true)
    (Q : Ending → World → Prop) (hQ : ∀ W out R e, mapS (ts, table, index, n, mask) = (R.map Prod.fst, e) → Nest W w.heap.size out R → Below w.heap.size w W → Q (.returned (.tuple #[out, .int .i64 e])) W)
    (hgo : tabsB ts = true → vnodB n = true → ¬ mask < 0 → ¬ mask > 7 → ctabS (ts, table) = 0 → F_rmbl (table, ncap n) = true → cidxS (table, index) = 0 →
      Calls Try.prog 18 #[u, capV table, .int .i64 index, ndV n pv, .int .i64 mask] w Q) :
    Calls Try.prog 18 #[u, capV table, .int .i64 index, ndV n pv, .int .i64 mask] w Q := by
  have hlen := okM_len hok
  have hE : ∀ W e, mapS (ts, table, index, n, mask) = ([], e) → Below w.heap.size w W → Q (.returned (.tuple #[.slice none 0 0, .int .i64 e])) W := fun W e h hB => hQ W _ [] e h (Mq.nil _ _) hB
  have hcV : ∀ W, Below w.heap.size w W → Calls Try.prog 34 #[u] W fun en w' => en = .returned (.bool (tabsB ts)) ∧ Below W.heap.size W w' := fun W hB => Ns.callB E_vval_ok ts rfl hok HEq.rfl (ArgsAt.one (hu.below hB))
  have hcN : ∀ W, Below w.heap.size w W → Calls Try.prog 52 #[ndV n pv] W fun en w' => en = .returned (.bool (vnodB n)) ∧ Below W.heap.size W w' := fun W hB => Ns.callB E_nval_ok n rfl rfl HEq.rfl (ArgsAt.one (hn.below hB))
  have hcT : ∀ W, Below w.heap.size w W → Calls Try.prog 53 #[u, capV table] W fun en w' => en = .returned (.int .i64 (ctabS (ts, table))) ∧ Below W.heap.size W w' := fun W hB => Ns.callI E_ctab_ok (ts, table) rfl (decide_eq_true hlen) HEq.rfl (ArgsAt.two (hu.below hB) (ArgAt.cap W table))
  have hcM : ∀ W, Below w.heap.size w W → Calls Try.prog 54 #[capV table, capV (ncap n)] W fun en w' => en = .returned (.bool (F_rmbl (table, ncap n))) ∧ Below W.heap.size W w' := fun W hB => Ns.callB E_mbl_ok (table, ncap n) rfl rfl HEq.rfl (ArgsAt.two (ArgAt.cap W table) (ArgAt.cap W _))
  have hcI : ∀ W, Below w.heap.size w W → Calls Try.prog 55 #[capV table, .int .i64 index] W fun en w' => en = .returned (.int .i64 (cidxS (table, index))) ∧ Below W.heap.size W w' := fun W hB => Ns.callI E_cidx_ok (table, index) rfl rfl HEq.rfl (ArgsAt.two (ArgAt.cap W table) ArgAt.int)
  have b0 := (HB.new w tyC (capA table)).alloc (.cells (ndA n pv) tyN)
  have b1 := HB.new (w.alloc (.cells (capA table) tyC)) tyN (ndA n pv)
  have hB0 : Below w.heap.size w ((w.alloc (.cells (capA table) tyC)).alloc (.cells (ndA n pv) tyN)) := ((Below.refl _ w).alloc (Nat.le_refl _) _).alloc (by simp) _
  simp only [World.size_alloc] at b1
  obtain ⟨W0, hW0⟩ : ∃ W0, W0 = (w.alloc (.cells (capA table) tyC)).alloc (.cells (ndA n pv) tyN) := ⟨_, rfl⟩
  rw [← hW0] at b0 b1 hB0
  have fr : Mq.Fr w W0 table n pv := ⟨hB0, b0, b1⟩
  clear b0 b1 hB0
  cases hT : tabsB ts
  case false =>
    have hs1 : mapS (ts, table, index, n, mask) = ([], 1) := by simp only [mapS, hT]; rfl
    replace hE := fun W => hE W _ hs1
    clear hs1 hQ hgo
    rw [hT] at hcV
    go_enter Try.func18, Try.ntmps18
    go_upto_region 1 with fail
    rw [← hW0]
    clear hW0
    obtain ⟨⟨t0, t1, t2, t3, t4, t5, t6⟩, n0, n1, n2, n3, n4, n5, n6, n7, n8, n9, n10⟩ := fr.cells
    go_wp2_with (first
      | (go_at_call 34; refine (hcV _ fr.bel).mono ?_; rintro en W1 ⟨rfl, hB1⟩; replace fr := fr.next hB1; obtain ⟨⟨t0, t1, t2, t3, t4, t5, t6⟩, n0, n1, n2, n3, n4, n5, n6, n7, n8, n9, n10⟩ := fr.cells)
      | (go_at_call 52; refine (hcN _ fr.bel).mono ?_; rintro en W1 ⟨rfl, hB1⟩; replace fr := fr.next hB1; obtain ⟨⟨t0, t1, t2, t3, t4, t5, t6⟩, n0, n1, n2, n3, n4, n5, n6, n7, n8, n9, n10⟩ := fr.cells)
      | (go_at_call 53; refine (hcT _ fr.bel).mono ?_; rintro en W1 ⟨rfl, hB1⟩; replace fr := fr.next hB1; obtain ⟨⟨t0, t1, t2, t3, t4, t5, t6⟩, n0, n1, n2, n3, n4, n5, n6, n7, n8, n9, n10⟩ := fr.cells)
      | (go_at_call 54; refine (hcM _ fr.bel).mono ?_; rintro en W1 ⟨rfl, hB1⟩; replace fr := fr.next hB1; obtain ⟨⟨t0, t1, t2, t3, t4, t5, t6⟩, n0, n1, n2, n3, n4, n5, n6, n7, n8, n9, n10⟩ := fr.cells)
      | (go_at_call 55; refine (hcI _ fr.bel).mono ?_; rintro en W1 ⟨rfl, hB1⟩; replace fr := fr.next hB1; obtain ⟨⟨t0, t1, t2, t3, t4, t5, t6⟩, n0, n1, n2, n3, n4, n5, n6, n7, n8, n9, n10⟩ := fr.cells))
    exact fr.bel
  rw [hT] at hcV
  cases hN : vnodB n
  case false =>
    have hs1 : mapS (ts, table, index, n, mask) = ([], 1) := by simp only [mapS, hT, hN]; rfl
    replace hE := fun W => hE W _ hs1
    clear hs1 hQ hgo
    rw [hN] at hcN
    go_enter Try.func18, Try.ntmps18
    go_upto_region 1 with fail
    rw [← hW0]
    clear hW0
    obtain ⟨⟨t0, t1, t2, t3, t4, t5, t6⟩, n0, n1, n2, n3, n4, n5, n6, n7, n8, n9, n10⟩ := fr.cells
    go_wp2_with (first
      | (go_at_call 34; refine (hcV _ fr.bel).mono ?_; rintro en W1 ⟨rfl, hB1⟩; replace fr := fr.next hB1; obtain ⟨⟨t0, t1, t2, t3, t4, t5, t6⟩, n0, n1, n2, n3, n4, n5, n6, n7, n8, n9, n10⟩ := fr.cells)
      | (go_at_call 52; refine (hcN _ fr.bel).mono ?_; rintro en W1 ⟨rfl, hB1⟩; replace fr := fr.next hB1; obtain ⟨⟨t0, t1, t2, t3, t4, t5, t6⟩, n0, n1, n2, n3, n4, n5, n6, n7, n8, n9, n10⟩ := fr.cells)
      | (go_at_call 53; refine (hcT _ fr.bel).mono ?_; rintro en W1 ⟨rfl, hB1⟩; replace fr := fr.next hB1; obtain ⟨⟨t0, t1, t2, t3, t4, t5, t6⟩, n0, n1, n2, n3, n4, n5, n6, n7, n8, n9, n10⟩ := fr.cells)
      | (go_at_call 54; refine (hcM _ fr.bel).mono ?_; rintro en W1 ⟨rfl, hB1⟩; replace fr := fr.next hB1; obtain ⟨⟨t0, t1, t2, t3, t4, t5, t6⟩, n0, n1, n2, n3, n4, n5, n6, n7, n8, n9, n10⟩ := fr.cells)
      | (go_at_call 55; refine (hcI _ fr.bel).mono ?_; rintro en W1 ⟨rfl, hB1⟩; replace fr := fr.next hB1; obtain ⟨⟨t0, t1, t2, t3, t4, t5, t6⟩, n0, n1, n2, n3, n4, n5, n6, n7, n8, n9, n10⟩ := fr.cells))
    exact fr.bel
  rw [hN] at hcN
  by_cases hm0 : mask < 0
  case pos =>
    have hs1 : mapS (ts, table, index, n, mask) = ([], 1) := by simp only [mapS, hT, hN, decide_eq_true hm0]; rfl
    replace hE := fun W => hE W _ hs1
    clear hs1 hQ hgo
    go_enter Try.func18, Try.ntmps18
    go_upto_region 1 with fail
    rw [← hW0]
    clear hW0
    obtain ⟨⟨t0, t1, t2, t3, t4, t5, t6⟩, n0, n1, n2, n3, n4, n5, n6, n7, n8, n9, n10⟩ := fr.cells
    go_wp2_with (first
      | (go_at_call 34; refine (hcV _ fr.bel).mono ?_; rintro en W1 ⟨rfl, hB1⟩; replace fr := fr.next hB1; obtain ⟨⟨t0, t1, t2, t3, t4, t5, t6⟩, n0, n1, n2, n3, n4, n5, n6, n7, n8, n9, n10⟩ := fr.cells)
      | (go_at_call 52; refine (hcN _ fr.bel).mono ?_; rintro en W1 ⟨rfl, hB1⟩; replace fr := fr.next hB1; obtain ⟨⟨t0, t1, t2, t3, t4, t5, t6⟩, n0, n1, n2, n3, n4, n5, n6, n7, n8, n9, n10⟩ := fr.cells)
      | (go_at_call 53; refine (hcT _ fr.bel).mono ?_; rintro en W1 ⟨rfl, hB1⟩; replace fr := fr.next hB1; obtain ⟨⟨t0, t1, t2, t3, t4, t5, t6⟩, n0, n1, n2, n3, n4, n5, n6, n7, n8, n9, n10⟩ := fr.cells)
      | (go_at_call 54; refine (hcM _ fr.bel).mono ?_; rintro en W1 ⟨rfl, hB1⟩; replace fr := fr.next hB1; obtain ⟨⟨t0, t1, t2, t3, t4, t5, t6⟩, n0, n1, n2, n3, n4, n5, n6, n7, n8, n9, n10⟩ := fr.cells)
      | (go_at_call 55; refine (hcI _ fr.bel).mono ?_; rintro en W1 ⟨rfl, hB1⟩; replace fr := fr.next hB1; obtain ⟨⟨t0, t1, t2, t3, t4, t5, t6⟩, n0, n1, n2, n3, n4, n5, n6, n7, n8, n9, n10⟩ := fr.cells))
    exact fr.bel
  by_cases hm7 : mask > 7
  case pos =>
    have hs1 : mapS (ts, table, index, n, mask) = ([], 1) := by simp only [mapS, hT, hN, decide_eq_false hm0, decide_eq_true hm7]; rfl
    replace hE := fun W => hE W _ hs1
    clear hs1 hQ hgo
    go_enter Try.func18, Try.ntmps18
    go_upto_region 1 with fail
    rw [← hW0]
    clear hW0
    obtain ⟨⟨t0, t1, t2, t3, t4, t5, t6⟩, n0, n1, n2, n3, n4, n5, n6, n7, n8, n9, n10⟩ := fr.cells
    go_wp2_with (first
      | (go_at_call 34; refine (hcV _ fr.bel).mono ?_; rintro en W1 ⟨rfl, hB1⟩; replace fr := fr.next hB1; obtain ⟨⟨t0, t1, t2, t3, t4, t5, t6⟩, n0, n1, n2, n3, n4, n5, n6, n7, n8, n9, n10⟩ := fr.cells)
      | (go_at_call 52; refine (hcN _ fr.bel).mono ?_; rintro en W1 ⟨rfl, hB1⟩; replace fr := fr.next hB1; obtain ⟨⟨t0, t1, t2, t3, t4, t5, t6⟩, n0, n1, n2, n3, n4, n5, n6, n7, n8, n9, n10⟩ := fr.cells)
      | (go_at_call 53; refine (hcT _ fr.bel).mono ?_; rintro en W1 ⟨rfl, hB1⟩; replace fr := fr.next hB1; obtain ⟨⟨t0, t1, t2, t3, t4, t5, t6⟩, n0, n1, n2, n3, n4, n5, n6, n7, n8, n9, n10⟩ := fr.cells)
      | (go_at_call 54; refine (hcM _ fr.bel).mono ?_; rintro en W1 ⟨rfl, hB1⟩; replace fr := fr.next hB1; obtain ⟨⟨t0, t1, t2, t3, t4, t5, t6⟩, n0, n1, n2, n3, n4, n5, n6, n7, n8, n9, n10⟩ := fr.cells)
      | (go_at_call 55; refine (hcI _ fr.bel).mono ?_; rintro en W1 ⟨rfl, hB1⟩; replace fr := fr.next hB1; obtain ⟨⟨t0, t1, t2, t3, t4, t5, t6⟩, n0, n1, n2, n3, n4, n5, n6, n7, n8, n9, n10⟩ := fr.cells))
    exact fr.bel
  by_cases hc0 : ctabS (ts, table) ≠ 0
  case pos =>
    have hs1 : mapS (ts, table, index, n, mask) = ([], ctabS (ts, table)) := by simp only [mapS, hT, hN, decide_eq_false hm0, decide_eq_false hm7, decide_eq_true hc0]; rfl
    replace hE := fun W => hE W _ hs1
    clear hs1 hQ hgo
    generalize ctabS (ts, table) = eT at hcT hE hc0
    go_enter Try.func18, Try.ntmps18
    go_upto_region 1 with fail
    rw [← hW0]
    clear hW0
    obtain ⟨⟨t0, t1, t2, t3, t4, t5, t6⟩, n0, n1, n2, n3, n4, n5, n6, n7, n8, n9, n10⟩ := fr.cells
    go_wp2_with (first
      | (go_at_call 34; refine (hcV _ fr.bel).mono ?_; rintro en W1 ⟨rfl, hB1⟩; replace fr := fr.next hB1; obtain ⟨⟨t0, t1, t2, t3, t4, t5, t6⟩, n0, n1, n2, n3, n4, n5, n6, n7, n8, n9, n10⟩ := fr.cells)
      | (go_at_call 52; refine (hcN _ fr.bel).mono ?_; rintro en W1 ⟨rfl, hB1⟩; replace fr := fr.next hB1; obtain ⟨⟨t0, t1, t2, t3, t4, t5, t6⟩, n0, n1, n2, n3, n4, n5, n6, n7, n8, n9, n10⟩ := fr.cells)
      | (go_at_call 53; refine (hcT _ fr.bel).mono ?_; rintro en W1 ⟨rfl, hB1⟩; replace fr := fr.next hB1; obtain ⟨⟨t0, t1, t2, t3, t4, t5, t6⟩, n0, n1, n2, n3, n4, n5, n6, n7, n8, n9, n10⟩ := fr.cells)
      | (go_at_call 54; refine (hcM _ fr.bel).mono ?_; rintro en W1 ⟨rfl, hB1⟩; replace fr := fr.next hB1; obtain ⟨⟨t0, t1, t2, t3, t4, t5, t6⟩, n0, n1, n2, n3, n4, n5, n6, n7, n8, n9, n10⟩ := fr.cells)
      | (go_at_call 55; refine (hcI _ fr.bel).mono ?_; rintro en W1 ⟨rfl, hB1⟩; replace fr := fr.next hB1; obtain ⟨⟨t0, t1, t2, t3, t4, t5, t6⟩, n0, n1, n2, n3, n4, n5, n6, n7, n8, n9, n10⟩ := fr.cells))
    exact fr.bel
  have hc0 : ctabS (ts, table) = 0 := Classical.not_not.1 hc0
  rw [hc0] at hcT
  cases hM : F_rmbl (table, ncap n)
  case false =>
    have hs1 : mapS (ts, table, index, n, mask) = ([], 5) := by simp only [mapS, hT, hN, decide_eq_false hm0, decide_eq_false hm7, decide_eq_false (show ¬ ctabS (ts, table) ≠ 0 from fun h => h hc0), hM]; rfl
    replace hE := fun W => hE W _ hs1
    clear hs1 hQ hgo
    rw [hM] at hcM
    go_enter Try.func18, Try.ntmps18
    go_upto_region 1 with fail
    rw [← hW0]
    clear hW0
    obtain ⟨⟨t0, t1, t2, t3, t4, t5, t6⟩, n0, n1, n2, n3, n4, n5, n6, n7, n8, n9, n10⟩ := fr.cells
    go_wp2_with (first
      | (go_at_call 34; refine (hcV _ fr.bel).mono ?_; rintro en W1 ⟨rfl, hB1⟩; replace fr := fr.next hB1; obtain ⟨⟨t0, t1, t2, t3, t4, t5, t6⟩, n0, n1, n2, n3, n4, n5, n6, n7, n8, n9, n10⟩ := fr.cells)
      | (go_at_call 52; refine (hcN _ fr.bel).mono ?_; rintro en W1 ⟨rfl, hB1⟩; replace fr := fr.next hB1; obtain ⟨⟨t0, t1, t2, t3, t4, t5, t6⟩, n0, n1, n2, n3, n4, n5, n6, n7, n8, n9, n10⟩ := fr.cells)
      | (go_at_call 53; refine (hcT _ fr.bel).mono ?_; rintro en W1 ⟨rfl, hB1⟩; replace fr := fr.next hB1; obtain ⟨⟨t0, t1, t2, t3, t4, t5, t6⟩, n0, n1, n2, n3, n4, n5, n6, n7, n8, n9, n10⟩ := fr.cells)
      | (go_at_call 54; refine (hcM _ fr.bel).mono ?_; rintro en W1 ⟨rfl, hB1⟩; replace fr := fr.next hB1; obtain ⟨⟨t0, t1, t2, t3, t4, t5, t6⟩, n0, n1, n2, n3, n4, n5, n6, n7, n8, n9, n10⟩ := fr.cells)
      | (go_at_call 55; refine (hcI _ fr.bel).mono ?_; rintro en W1 ⟨rfl, hB1⟩; replace fr := fr.next hB1; obtain ⟨⟨t0, t1, t2, t3, t4, t5, t6⟩, n0, n1, n2, n3, n4, n5, n6, n7, n8, n9, n10⟩ := fr.cells))
    exact fr.bel
  rw [hM] at hcM
  by_cases hi0 : cidxS (table, index) ≠ 0
  case pos =>
    have hs1 : mapS (ts, table, index, n, mask) = ([], cidxS (table, index)) := by simp only [mapS, hT, hN, decide_eq_false hm0, decide_eq_false hm7, decide_eq_false (show ¬ ctabS (ts, table) ≠ 0 from fun h => h hc0), hM, decide_eq_true hi0]; rfl
    replace hE := fun W => hE W _ hs1
    clear hs1 hQ hgo
    generalize cidxS (table, index) = eT at hcI hE hi0
    go_enter Try.func18, Try.ntmps18
    go_upto_region 1 with fail
    rw [← hW0]
    clear hW0
    obtain ⟨⟨t0, t1, t2, t3, t4, t5, t6⟩, n0, n1, n2, n3, n4, n5, n6, n7, n8, n9, n10⟩ := fr.cells
    go_wp2_with (first
      | (go_at_call 34; refine (hcV _ fr.bel).mono ?_; rintro en W1 ⟨rfl, hB1⟩; replace fr := fr.next hB1; obtain ⟨⟨t0, t1, t2, t3, t4, t5, t6⟩, n0, n1, n2, n3, n4, n5, n6, n7, n8, n9, n10⟩ := fr.cells)
      | (go_at_call 52; refine (hcN _ fr.bel).mono ?_; rintro en W1 ⟨rfl, hB1⟩; replace fr := fr.next hB1; obtain ⟨⟨t0, t1, t2, t3, t4, t5, t6⟩, n0, n1, n2, n3, n4, n5, n6, n7, n8, n9, n10⟩ := fr.cells)
      | (go_at_call 53; refine (hcT _ fr.bel).mono ?_; rintro en W1 ⟨rfl, hB1⟩; replace fr := fr.next hB1; obtain ⟨⟨t0, t1, t2, t3, t4, t5, t6⟩, n0, n1, n2, n3, n4, n5, n6, n7, n8, n9, n10⟩ := fr.cells)
      | (go_at_call 54; refine (hcM _ fr.bel).mono ?_; rintro en W1 ⟨rfl, hB1⟩; replace fr := fr.next hB1; obtain ⟨⟨t0, t1, t2, t3, t4, t5, t6⟩, n0, n1, n2, n3, n4, n5, n6, n7, n8, n9, n10⟩ := fr.cells)
      | (go_at_call 55; refine (hcI _ fr.bel).mono ?_; rintro en W1 ⟨rfl, hB1⟩; replace fr := fr.next hB1; obtain ⟨⟨t0, t1, t2, t3, t4, t5, t6⟩, n0, n1, n2, n3, n4, n5, n6, n7, n8, n9, n10⟩ := fr.cells))
    exact fr.bel
  exact hgo hT hN hm0 hm7 hc0 hM (Classical.not_not.1 hi0)
end Go.Proofs
