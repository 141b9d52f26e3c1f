/-
  Layer 16: vspace.Unmap, walked to its end. By an AI agent.
-/
import Derived.Test.YtcpdakiailaneaaUn
namespace Go.Proofs
open Go.RowKit Go.Shelf Go.AL
set_option linter.unusedVariables false
set_option linter.unusedSimpArgs false
attribute [local go_sem] Oper.semAt_some
theorem Nest.low {W W' : World} {n0 : Nat} {out : Value} {R : List (SPT × Value)} (h : Nest W n0 out R) {X : Nat → Prop} (hb : Ev W W' X) (hX : ∀ q, X q → q < n0) : Nest W' n0 out R :=
  ⟨Own.ev h.own hb (fun g hg hx => by have := (Own.lt h.own hg).1; have := hX g hx; omega), fun p hp => Own.ev (h.inn p hp) hb (fun g hg hx => by have := (Own.lt (h.inn p hp) hg).1; have := hX g hx; omega), h.ne, h.dis⟩
theorem Nest.down {W : World} {n0 n1 : Nat} {out : Value} {R : List (SPT × Value)} (h : Nest W n0 out R) (hn : n1 ≤ n0) : Nest W n1 out R :=
  ⟨⟨h.own.1, h.own.2.imp id fun ⟨g', c', cu, e1, e2, e3⟩ => ⟨g', c', cu, e1, by omega, e3⟩⟩, fun p hp => ⟨(h.inn p hp).1, (h.inn p hp).2.imp id fun ⟨g', c', cu, e1, e2, e3⟩ => ⟨g', c', cu, e1, by omega, e3⟩⟩, h.ne, h.dis⟩
theorem ms_del (l : List SMp) (k : Nat) : Ns.ms (delAt l k) = (Ns.ms l).take (k * 6) ++ (Ns.ms l).drop ((k + 1) * 6) := by
  have e1 : (Ns.ms l).take (k * 6) = Ns.ms (l.take k) := flat_take (f := Ns.m) (k := 6) (fun _ => rfl) l k
  have e2 : (Ns.ms l).drop ((k + 1) * 6) = Ns.ms (l.drop (k + 1)) := flat_drop (f := Ns.m) (k := 6) (fun _ => rfl) l (k + 1)
  rw [e1, e2]
  simp only [delAt, Ns.ms, List.flatMap_append]
theorem ps_del (l : List (SPT × Value)) (k : Nat) : Ns.ps (delAt l k) = (Ns.ps l).take (k * 4) ++ (Ns.ps l).drop ((k + 1) * 4) := by
  have e1 : (Ns.ps l).take (k * 4) = Ns.ps (l.take k) := flat_take (f := Ns.p) (k := 4) (fun _ => rfl) l k
  have e2 : (Ns.ps l).drop ((k + 1) * 4) = Ns.ps (l.drop (k + 1)) := flat_drop (f := Ns.p) (k := 4) (fun _ => rfl) l (k + 1)
  rw [e1, e2]
  simp only [delAt, Ns.ps, List.flatMap_append]
theorem drop_mid {α : Type} {x : α} {M : List α} : ∀ L : List α, (L ++ x :: M).drop (L.length + 1) = M
  | [] => rfl
  | a :: L => drop_mid L
theorem delAt_mid {α : Type} (L : List α) (x : α) (M : List α) : delAt (L ++ x :: M) L.length = L ++ M := by simp [delAt]
theorem delAt_len {α : Type} {l : List α} {k N : Nat} (h : k ≤ N) (hl : l.length = N + 1) : (delAt l k).length = N := by simp [delAt]; omega
theorem nest_cell {W : World} {n0 g oc n : Nat} {L M : List (SPT × Value)} {t : SPT} {v : Value} (h : Nest W n0 (.slice (some ⟨g, 0, none⟩) n oc) (L ++ (t, v) :: M)) : W.cell? ⟨g, L.length * 4 + 3, none⟩ = some v := by
  rcases h.own.2 with ⟨e, _⟩ | ⟨g', cap', cur, e1, _, e3, _, _, _, e7⟩
  · cases e
  simp only [Value.slice.injEq, Option.some.injEq, Addr.mk.injEq] at e1
  obtain ⟨⟨rfl, _⟩, _, rfl⟩ := e1
  refine own_cells (n0 := n0) (cap := oc) (n := (L ++ (t, v) :: M).length) (k := 4) e3 e7 ?_
  have := flat_get (f := Ns.p) (k := 4) (fun _ => rfl) (L ++ (t, v) :: M) L.length 3 (t, v) (by simp) (by omega)
  exact this
theorem Un.inner {wx : World} {nn g oc : Nat} {L : List (SPT × Value)} {t : SPT} {v : Value} {M : List (SPT × Value)} (hN : Nest wx nn (.slice (some ⟨g, 0, none⟩) ((L ++ (t, v) :: M).length : Nat) oc) (L ++ (t, v) :: M)) (hnn : nn ≤ wx.heap.size)
    {i N : Nat} (hi : i ≤ N) (hl : (Ns.maps t).length = N + 1) :
    Calls Try.prog 82 #[v, .int .i64 i, .int .i64 ((i : Int) + 1)] wx fun en w' => ∃ va' vc', en = .returned (.slice va' (N : Nat) vc') ∧
      w'.frozen? ⟨g, L.length * 4 + 3, none⟩ = false ∧ (∃ x, w'.cell? ⟨g, L.length * 4 + 3, none⟩ = some x) ∧ Ev wx (w'.setCell ⟨g, L.length * 4 + 3, none⟩ (.slice va' (N : Nat) vc')) (fun q => v.ownBlock = some q ∨ q = g) ∧
      Nest (w'.setCell ⟨g, L.length * 4 + 3, none⟩ (.slice va' (N : Nat) vc')) nn (.slice (some ⟨g, 0, none⟩) ((L ++ (t, v) :: M).length : Nat) oc) (L ++ ((t.1, t.2.1, t.2.2.1, delAt (Ns.maps t) i), .slice va' (N : Nat) vc') :: M) := by
  have hmem : (t, v) ∈ L ++ (t, v) :: M := by simp
  have hinn := hN.inn _ hmem
  have hvlt := fun b hb => Own.lt hinn (g := b) hb
  rcases hinn.2 with ⟨_, h0⟩ | ⟨gv, c, cur, e1, e2, e3, e4, e5, e6, e7⟩
  · have h0 : (Ns.maps t).length = 0 := h0
    omega
  have e1 : v = .slice (some ⟨gv, 0, none⟩) ((Ns.maps t).length : Nat) c := e1
  have e4 : (Ns.maps t).length ≤ c := e4
  have e7 : cur.toList.take ((Ns.maps t).length * 6) = Ns.ms (Ns.maps t) := e7
  subst e1
  rw [hl] at e4 e7 hinn
  have hdl := delAt_len hi hl
  have hml := Ns.ms_len (Ns.maps t)
  rw [hl] at hml
  rw [hl]
  refine (vdeM_walk gv N c i (Ns.ms (Ns.maps t)) cur wx hi e4 e5 e3 e6 e7 hml (Ns.ms_one _)).mono ?_
  rintro en w' ⟨s', rfl, hO⟩
  rw [← ms_del] at hO
  obtain ⟨va', cur', curr, rfl, _⟩ := hO.row
  have hev := hO.ev
  rw [← hdl] at hO
  rw [hl] at hN
  obtain ⟨h1, h2, h3⟩ := nest_inner (l' := delAt (Ns.maps t) i) hN rfl hnn (by rw [hdl] at hO ⊢; exact hO)
  refine ⟨_, _, rfl, h2, h3, ?_, h1⟩
  exact ⟨hev.os, hev.tape, hev.output, by simpa [World.setCell] using hev.size, fun q hq hX => (Below.heap_setCell w' ⟨g, L.length * 4 + 3, none⟩ _ q (fun e => hX (.inr e))).trans (hev.block q hq (fun e => hX (.inl (by simpa [Value.ownBlock] using e))))⟩
theorem Un.outer {wx : World} {nn g oc : Nat} {R : List (SPT × Value)} (hN : Nest wx nn (.slice (some ⟨g, 0, none⟩) (R.length : Nat) oc) R) (hnn : nn ≤ wx.heap.size) {k N : Nat} (hk : k ≤ N) (hl : R.length = N + 1) :
    Calls Try.prog 83 #[.slice (some ⟨g, 0, none⟩) (R.length : Nat) oc, .int .i64 k, .int .i64 ((k : Int) + 1)] wx fun en w' => ∃ va' vc', en = .returned (.slice va' (N : Nat) vc') ∧
      Ev wx w' (fun q => q = g) ∧ Nest w' nn (.slice va' (N : Nat) vc') (delAt R k) := by
  have hdl := delAt_len hk hl
  rcases hN.own.2 with ⟨e, _⟩ | ⟨g', c, cur, e1, e2, e3, e4, e5, e6, e7⟩
  · cases e
  simp only [Value.slice.injEq, Option.some.injEq, Addr.mk.injEq] at e1
  obtain ⟨⟨rfl, _⟩, _, rfl⟩ := e1
  have hpl := Ns.ps_len R
  rw [hl] at e4 e7 hpl ⊢
  refine (vdeP_walk g N oc k (Ns.ps R) cur wx hk e4 e5 e3 e6 e7 hpl hN.one).mono ?_
  rintro en w' ⟨s', rfl, hO⟩
  rw [← ps_del] at hO
  obtain ⟨va', cur', curr, rfl, _⟩ := hO.row
  have hev := hO.ev
  rw [← hdl] at hO
  rw [hl] at hN
  have hd : (delAt R k).Pairwise fun p q => ∀ g, p.2.ownBlock = some g → q.2.ownBlock ≠ some g := by
    refine hN.dis.sublist ?_
    have : (R.take k ++ R.drop (k + 1)).Sublist (R.take k ++ R.drop k) := List.Sublist.append_left (List.drop_sublist_drop_left R (Nat.le_succ k)) _
    rwa [List.take_append_drop] at this
  have h1 := nest_outer hN hnn (R' := delAt R k) (by rw [hdl] at hO ⊢; exact hO) (fun p hp => .inl (by
    rcases List.mem_append.1 hp with hp | hp
    · exact List.mem_of_mem_take hp
    · exact List.mem_of_mem_drop hp)) hd
  exact ⟨_, _, rfl, ⟨hev.os, hev.tape, hev.output, hev.size, fun q hq hX => hev.block q hq (fun e => hX (by simp [Value.ownBlock] at e; exact e.symm))⟩, h1⟩
theorem Un.low {W : World} {B : Nat} {x y z : Value} : Ev W (((W.setCell ⟨B, 0, none⟩ x).setCell ⟨B, 1, none⟩ y).setCell ⟨B, 2, none⟩ z) (fun q => q = B) :=
  ⟨rfl, rfl, rfl, by simp [World.setCell], fun q _ hq => (Below.heap_setCell _ ⟨B, 2, none⟩ z q hq).trans ((Below.heap_setCell _ ⟨B, 1, none⟩ y q hq).trans (Below.heap_setCell _ ⟨B, 0, none⟩ x q hq))⟩
theorem Un.lowD {W : World} {B : Nat} {x y z : Value} : Ev W (((W.setCell ⟨B, 0, none⟩ x).setCell ⟨B, 1, none⟩ y).setCell ⟨B, 2, none⟩ z).drew (fun q => q = B) :=
  have h := @Un.low W B x y z
  ⟨h.os, h.tape, h.output, h.size, h.block⟩
set_option maxRecDepth 100000 in
set_option maxHeartbeats 4000000 in
theorem Un.all (w : World) (u : Value) (ts : List SPT) (table : SCp) (index : Int) (hok : okM ts = true) (hu : ArgAt w (.rd tSPT) ts u)
    (Q : Ending → World → Prop) (hQ : ∀ W out R i e, unmS (ts, table, index) = (R.map Prod.fst, i, e) → Nest W w.heap.size out R → Below w.heap.size w W → Q (.returned (.tuple #[out, idVal i, .int .i64 e])) W) :
    Calls Try.prog 49 #[u, capV table, .int .i64 index] w Q := by
  refine Un.calls w u ts table index hok hu Q hQ fun hT hc0 hi0 hf hm => ?_
  have hlen := okM_len hok
  have hcV : ∀ W, Below w.heap.size w W → Calls Try.prog 34 #[u] W fun en w' => en = .returned (.bool true) ∧ Below W.heap.size W w' := fun W hB => Ns.callB E_vval_ok ts rfl hok (heq_of_eq hT) (ArgsAt.one (hu.below hB))
  have hcT : ∀ W, Below w.heap.size w W → Calls Try.prog 53 #[u, capV table] W fun en w' => en = .returned (.int .i64 0) ∧ Below W.heap.size W w' := fun W hB => Ns.callI E_ctab_ok (ts, table) rfl (decide_eq_true hlen) (heq_of_eq hc0) (ArgsAt.two (hu.below hB) (ArgAt.cap W table))
  have hcI : ∀ W, Below w.heap.size w W → Calls Try.prog 55 #[capV table, .int .i64 index] W fun en w' => en = .returned (.int .i64 0) ∧ Below W.heap.size W w' := fun W hB => Ns.callI E_cidx_ok (table, index) rfl rfl (heq_of_eq hi0) (ArgsAt.two (ArgAt.cap W table) ArgAt.int)
  have hcF : ∀ W, Below w.heap.size w W → Calls Try.prog 57 #[u, .int .i64 table.2.1] W fun en w' => en = .returned (.tuple #[.int .i64 (ftS ts table.2.1), .bool (decide (ftS ts table.2.1 ≥ 0))]) ∧ Below W.heap.size W w' := fun W hB => Ns.callIB (x := ftS ts table.2.1) (b := decide (ftS ts table.2.1 ≥ 0)) E_find_ok (ts, table.2.1) rfl (decide_eq_true hlen) HEq.rfl (ArgsAt.two (hu.below hB) ArgAt.int)
  have b0 := (HB.new w tyC (capA table)).alloc (.cells #[.int .i64 0, .int .i64 0, .int .i64 0] tyI)
  have b1 := HB.new (w.alloc (.cells (capA table) tyC)) tyI #[.int .i64 0, .int .i64 0, .int .i64 0]
  have hB0 : Below w.heap.size w ((w.alloc (.cells (capA table) tyC)).alloc (.cells #[.int .i64 0, .int .i64 0, .int .i64 0] tyI)) := ((Below.refl _ w).alloc (Nat.le_refl _) _).alloc (by simp) _
  simp only [World.size_alloc] at b1
  obtain ⟨W0, hW0⟩ : ∃ W0, W0 = (w.alloc (.cells (capA table) tyC)).alloc (.cells #[.int .i64 0, .int .i64 0, .int .i64 0] tyI) := ⟨_, rfl⟩
  rw [← hW0] at b0 b1 hB0
  have fr : Un.Fr w W0 table := ⟨hB0, b0, b1⟩
  clear b0 b1 hB0
  obtain ⟨k, t, hk1, hk2, hk3⟩ : ∃ (k : Nat) (t : SPT), (ftS ts table.2.1) = (k : Int) ∧ ts[k]? = some t ∧ ts.getD (ftS ts table.2.1).toNat zPT = t := by
    have := findI_lt (fun t : SPT => decide (t.1 = table.2.1)) ts 0 (by omega)
    have h2 : ftS ts table.2.1 < 0 + ts.length := this
    have h3 : (ftS ts table.2.1).toNat < ts.length := by omega
    exact ⟨(ftS ts table.2.1).toNat, ts[(ftS ts table.2.1).toNat], by omega, List.getElem?_eq_getElem h3, by rw [List.getD_eq_getElem?_getD, List.getElem?_eq_getElem h3]; rfl⟩
  rw [hk3] at hm
  obtain ⟨i, m, hj1, hj2, hj3⟩ : ∃ (i : Nat) (m : SMp), fmS (Ns.maps t) index = (i : Int) ∧ (Ns.maps t)[i]? = some m ∧ (Ns.maps t).getD i zM = m := by
    have := findI_lt (fun m : SMp => decide (m.1 = index)) (Ns.maps t) 0 (by omega)
    have h2 : fmS (Ns.maps t) index < 0 + (Ns.maps t).length := this
    have h3 : (fmS (Ns.maps t) index).toNat < (Ns.maps t).length := by omega
    exact ⟨(fmS (Ns.maps t) index).toNat, (Ns.maps t)[(fmS (Ns.maps t) index).toNat], by omega, List.getElem?_eq_getElem h3, by rw [List.getD_eq_getElem?_getD, List.getElem?_eq_getElem h3]; rfl⟩
  have hS : Kp (unmS (ts, table, index) = unmE (ts.take k) t (ts.drop (k + 1)) i) := ⟨by
    simp only [unmS, hT, decide_eq_false (show ¬ ctabS (ts, table) ≠ 0 from fun h => h hc0), decide_eq_false (show ¬ cidxS (table, index) ≠ 0 from fun h => h hi0), decide_eq_false (show ¬ ftS ts table.2.1 < 0 by omega), hk3, decide_eq_false (show ¬ fmS (Ns.maps t) index < 0 by omega), Bool.not_true, cond_false]
    rw [hk1, hj1, Int.toNat_natCast, Int.toNat_natCast]⟩
  generalize unmS (ts, table, index) = sp at hQ hS
  have hkl := (List.getElem?_eq_some_iff.1 hk2).1
  have hil := (List.getElem?_eq_some_iff.1 hj2).1
  obtain ⟨b, off, cap, ia, im, ic, rfl, q0, q1, q2, q3, hbw, hat⟩ := hu.table hk2
  have hlm : len40n (Ns.maps t) = true := okM_mem hok (List.mem_of_getElem? hk2)
  have hcM : ∀ W, Below w.heap.size w W → Calls Try.prog 65 #[.agg #[.int .i64 t.1, .int .i64 t.2.1, .int .i64 t.2.2.1, .slice ia im ic], .int .i64 index] W fun en w' => en = .returned (.tuple #[.int .i64 (fmS (Ns.maps t) index), .bool (decide (fmS (Ns.maps t) index ≥ 0))]) ∧ Below W.heap.size W w' := fun W hB => Ns.callIB (x := fmS (Ns.maps t) index) (b := decide (fmS (Ns.maps t) index ≥ 0)) E_mapg_ok (t, index) rfl hlm HEq.rfl (ArgsAt.two (hat.below hB) ArgAt.int)
  have hd1 : decide (ftS ts table.2.1 ≥ 0) = true := decide_eq_true (by omega)
  have hd2 : decide (fmS (Ns.maps t) index ≥ 0) = true := decide_eq_true (by omega)
  rw [hd1, hk1] at hcF
  rw [hd2, hj1] at hcM
  clear hd1 hd2 hf hm hk3 hk1 hj1
  have hj3 : Kp ((Ns.maps t).getD i zM = m) := ⟨hj3⟩
  have hk0 : (0 : Int) ≤ (k : Int) := by omega
  have hk1 : (k : Int) < (ts.length : Int) := by omega
  have hu22 := Try.underlying22
  have hu58 := Try.underlying58
  go_enter Try.func49, Try.ntmps49
  go_upto_region 1 with fail
  rw [← hW0]
  clear hW0
  obtain ⟨⟨t0, t1, t2, t3, t4, t5, t6⟩, n0, n1, n2, f0, f1, f2⟩ := fr.cells
  go_upto_region 15 with (first
      | (go_at_call 34; refine (hcV _ fr.bel).mono ?_; rintro en W1 ⟨rfl, hB1⟩; replace fr := fr.next hB1; obtain ⟨⟨t0, t1, t2, t3, t4, t5, t6⟩, n0, n1, n2, f0, f1, f2⟩ := fr.cells)
      | (go_at_call 53; refine (hcT _ fr.bel).mono ?_; rintro en W1 ⟨rfl, hB1⟩; replace fr := fr.next hB1; obtain ⟨⟨t0, t1, t2, t3, t4, t5, t6⟩, n0, n1, n2, f0, f1, f2⟩ := fr.cells)
      | (go_at_call 55; refine (hcI _ fr.bel).mono ?_; rintro en W1 ⟨rfl, hB1⟩; replace fr := fr.next hB1; obtain ⟨⟨t0, t1, t2, t3, t4, t5, t6⟩, n0, n1, n2, f0, f1, f2⟩ := fr.cells)
      | (go_at_call 57; refine (hcF _ fr.bel).mono ?_; rintro en W1 ⟨rfl, hB1⟩; replace fr := fr.next hB1; obtain ⟨⟨t0, t1, t2, t3, t4, t5, t6⟩, n0, n1, n2, f0, f1, f2⟩ := fr.cells; have z0 := (fr.bel.cell (p := ⟨b, _, none⟩) hbw).trans q0; have z1 := (fr.bel.cell (p := ⟨b, _, none⟩) hbw).trans q1; have z2 := (fr.bel.cell (p := ⟨b, _, none⟩) hbw).trans q2; have z3 := (fr.bel.cell (p := ⟨b, _, none⟩) hbw).trans q3)
      | (go_at_call 65; refine (hcM _ fr.bel).mono ?_; rintro en W1 ⟨rfl, hB1⟩; replace fr := fr.next hB1; obtain ⟨⟨t0, t1, t2, t3, t4, t5, t6⟩, n0, n1, n2, f0, f1, f2⟩ := fr.cells))
  clear t0 t1 t2 t3 t4 t5 t6 n0 n1 n2 f0 f1 f2 hcV hcT hcI hcF hcM
  have hfrl := fr.bI.lt
  go_upto_region 16 with (first
    | (go_at_call 56; refine (Cp.calls _ _ ts hok (ArgsAt.one (hu.below fr.bel))).mono ?_; rintro en W4 ⟨out, R, rfl, hRt, hN4, hB4⟩; obtain ⟨oa, oc, rfl⟩ := own_shape hN4.own; replace fr := fr.next hB4))
  have hRl : R.length = ts.length := by rw [← hRt, List.length_map]
  obtain ⟨v, hk4⟩ : ∃ v, R[k]? = some (t, v) := by
    have h1 : k < R.length := by omega
    refine ⟨R[k].2, ?_⟩
    rw [List.getElem?_eq_getElem h1]
    have : (R.map Prod.fst)[k]? = some t := by rw [hRt]; exact hk2
    rw [List.getElem?_map, List.getElem?_eq_getElem h1] at this
    simp at this
    rw [← this]
  obtain ⟨L, M, rfl, rfl⟩ : ∃ L M, R = L ++ (t, v) :: M ∧ k = L.length := by
    have h1 := (List.getElem?_eq_some_iff.1 hk4).1
    refine ⟨R.take k, R.drop (k + 1), ?_, by rw [List.length_take]; omega⟩
    have := List.take_append_drop k R
    rw [List.drop_eq_getElem_cons h1, (List.getElem?_eq_some_iff.1 hk4).2] at this
    exact this.symm
  have hS2 : Kp (sp = unmE (L.map Prod.fst) t (M.map Prod.fst) i) := ⟨by rw [hS.h, ← hRt, ← List.map_take, ← List.map_drop, drop_mid, List.take_left]⟩
  have hmem : (t, v) ∈ L ++ (t, v) :: M := by simp
  have hinn := hN4.inn _ hmem
  obtain ⟨ga, rfl⟩ : ∃ ga, oa = some ⟨ga, 0, none⟩ := by
    rcases hN4.own.2 with ⟨_, h0⟩ | ⟨g, cap, cur, e1, _⟩
    · simp at h0
    · simp only [Value.slice.injEq] at e1
      exact ⟨g, e1.1⟩
  have hcv := nest_cell hN4
  obtain ⟨nn, hnn⟩ : ∃ nn, nn = W1.heap.size := ⟨_, rfl⟩
  rw [← hnn] at hN4 hfrl
  have hn4 : nn ≤ W4.heap.size := by rw [hnn]; exact hB4.size
  clear hnn hB4 hRt hS hk4 hu hat
  obtain ⟨N, hN⟩ : ∃ N, (Ns.maps t).length = N + 1 := ⟨(Ns.maps t).length - 1, by omega⟩
  have hiN : i ≤ N := by omega
  have hin := fun wx h1 h2 => Un.inner (wx := wx) (nn := nn) (g := ga) (oc := oc) (L := L) (t := t) (v := v) (M := M) h1 h2 hiN hN
  obtain ⟨va, vc, rfl⟩ : ∃ a c, v = .slice a ((Ns.maps t).length : Nat) c := own_shape hinn
  obtain ⟨gv, rfl, e0, e1, e2⟩ : ∃ gv, va = some ⟨gv, 0, none⟩ ∧ W4.cell? ⟨gv, i * 6 + 3, none⟩ = some (.int .i64 m.2.2.2.1) ∧ W4.cell? ⟨gv, i * 6 + 3 + 1, none⟩ = some (.int .i64 m.2.2.2.2.1) ∧ W4.cell? ⟨gv, i * 6 + 3 + 2, none⟩ = some (.int .i64 m.2.2.2.2.2) := by
    rcases hinn.2 with ⟨e, h0⟩ | ⟨g', cap', cur, e1, _, e3, _, _, _, e7⟩
    · have h0 : (Ns.maps t).length = 0 := h0
      omega
    simp only [Value.slice.injEq] at e1
    have hc := fun j (hj : j < 6) v hv => own_cells (n0 := nn) (cap := vc) (n := (Ns.maps t).length) (k := 6) (j := i * 6 + j) (v := v) e3 e7 ((flat_get (f := Ns.m) (k := 6) (fun _ => rfl) (Ns.maps t) i j m hj2 hj).trans hv)
    exact ⟨g', e1.1, hc 3 (by omega) _ rfl, hc 4 (by omega) _ rfl, hc 5 (by omega) _ rfl⟩
  obtain ⟨K, hK⟩ : ∃ K, K = L.length := ⟨_, rfl⟩
  obtain ⟨ml, hmlE⟩ : ∃ ml, ml = (Ns.maps t).length := ⟨_, rfl⟩
  obtain ⟨RR, hRR⟩ : ∃ RR, RR = (L ++ (t, Value.slice (some ⟨gv, 0, none⟩) ((Ns.maps t).length : Nat) vc) :: M).length := ⟨_, rfl⟩
  have hKp : Kp (K = L.length ∧ ml = (Ns.maps t).length ∧ RR = L.length + 1 + M.length ∧ RR = (L ++ (t, Value.slice (some ⟨gv, 0, none⟩) ((Ns.maps t).length : Nat) vc) :: M).length) := ⟨hK, hmlE, by rw [hRR]; simp; omega, hRR⟩
  have hk5 : (K : Int) < (RR : Int) := by have := hKp.h.2.2.1; omega
  have hi0 : (0 : Int) ≤ (i : Int) := by omega
  have hi1 : (i : Int) < (ml : Int) := by omega
  rw [← hRR] at hRl hN4 hin
  rw [← hK] at hk0 hk1 hcv hk2 hin
  rw [← hmlE] at hcv hin
  rw [← hRR, ← hK]
  rw [← hmlE] at hN4
  have hw1 : IntKind.i64.wrap ((i : Int) + 1) = (i : Int) + 1 := by have := of_decide_eq_true hlm; rw [IntKind.wrap_i64]; omega
  clear hK hmlE hRR hRl hinn hmem hlm
  have hgn := (Own.lt hN4.own (g := ga) rfl)
  have hvn := (Own.lt (hN4.inn _ (by simp : (t, Value.slice (some ⟨gv, 0, none⟩) (ml : Nat) vc) ∈ L ++ (t, Value.slice (some ⟨gv, 0, none⟩) (ml : Nat) vc) :: M)) (g := gv) rfl)
  go_upto_region 17 with fail
  have bId := HB.new W4 tyI (idA (mId m))
  have hB5 : Below W4.heap.size W4 (W4.alloc (.cells (idA (mId m)) tyI)) := (Below.refl _ W4).alloc (Nat.le_refl _) _
  have hN5 := hN4.below hB5
  have fr5 := fr.next hB5
  have hcv5 := (hB5.cell (p := ⟨ga, K * 4 + 3, none⟩) hgn.2).trans hcv
  have hs5 := hB5.size
  obtain ⟨W5, hW5⟩ : ∃ W5, W5 = W4.alloc (.cells (idA (mId m)) tyI) := ⟨_, rfl⟩
  rw [← hW5] at bId hN5 fr5 hcv5 hs5 ⊢
  clear hW5 hB5 fr hN4 e0 e1 e2 hcv
  have hnb : nn ≤ W4.heap.size ∧ ga < W4.heap.size ∧ gv < W4.heap.size := ⟨hn4, hgn.2, hvn.2⟩
  generalize W4.heap.size = Bid at bId hs5 hnb ⊢
  go_upto_region 18 with (first
    | (go_at_call 82; refine (hin W5 hN5 (Nat.le_trans hnb.1 hs5)).mono ?_; rintro en W6 ⟨va', vc', rfl, g1, ⟨x, g2⟩, g3, g4⟩))
  have fr7 : Un.Fr w (W6.setCell ⟨ga, K * 4 + 3, none⟩ (.slice va' (N : Nat) vc')) table := by
    have hb : Below nn W5 (W6.setCell ⟨ga, K * 4 + 3, none⟩ (.slice va' (N : Nat) vc')) := ev_below_n g3 (fun q hq => by
      rcases hq with hq | rfl
      · simp [Value.ownBlock] at hq; subst hq; exact hvn.1
      · exact hgn.1) (by omega)
    exact ⟨fr5.bel.trans (hb.mono (by omega)), fr5.bT.below hb (by omega), fr5.bI.below hb (by omega)⟩
  have bId7 : HB (W6.setCell ⟨ga, K * 4 + 3, none⟩ (.slice va' (N : Nat) vc')) Bid tyI (idA (mId m)) := bId.ev g3 (fun hq => by
    rcases hq with hq | hq
    · simp [Value.ownBlock] at hq; omega
    · omega)
  rw [(show K = L.length from hKp.h.1)] at g4
  have hcv7 := nest_cell g4
  rw [← (show K = L.length from hKp.h.1)] at g4 hcv7
  have hs7 : nn ≤ (W6.setCell ⟨ga, K * 4 + 3, none⟩ (.slice va' (N : Nat) vc')).heap.size := by have := g3.size; omega
  have hdl : (delAt (Ns.maps t) i).length = N := delAt_len hiN hN
  have hQ0 : N = 0 → ∀ W7 W out, Ev W7 W (fun q => q = w.heap.size + 1) → Nest W7 nn out (L ++ M) → Below w.heap.size w W7 → Q (.returned (.tuple #[out, idVal (mId m), .int .i64 0])) W := fun h0 W7 W out hE hN7 hB7 => by
    refine hQ W _ (L ++ M) (mId m) 0 ?_ (Nest.down (Nest.low hN7 hE (fun q hq => by omega)) (by omega)) (hB7.trans (ev_below_n hE (fun q hq => by omega) (by exact hB7.size)))
    rw [hS2.h]
    unfold unmE
    rw [hj3.h, hdl, decide_eq_true h0, cond_true, List.map_append]
  have hQ1 : N ≠ 0 → ∀ W7 W out v', Ev W7 W (fun q => q = w.heap.size + 1) → Nest W7 nn out (L ++ ((t.1, t.2.1, t.2.2.1, delAt (Ns.maps t) i), v') :: M) → Below w.heap.size w W7 → Q (.returned (.tuple #[out, idVal (mId m), .int .i64 0])) W := fun h0 W7 W out v' hE hN7 hB7 => by
    refine hQ W _ (L ++ ((t.1, t.2.1, t.2.2.1, delAt (Ns.maps t) i), v') :: M) (mId m) 0 ?_ (Nest.down (Nest.low hN7 hE (fun q hq => by omega)) (by omega)) (hB7.trans (ev_below_n hE (fun q hq => by omega) (by exact hB7.size)))
    rw [hS2.h]
    unfold unmE
    rw [hj3.h, hdl, decide_eq_false h0, cond_false, List.map_append]
    rfl
  have hout : ∀ W, Nest W nn (.slice (some ⟨ga, 0, none⟩) (RR : Nat) oc) (L ++ ((t.1, t.2.1, t.2.2.1, delAt (Ns.maps t) i), Value.slice va' (N : Nat) vc') :: M) → nn ≤ W.heap.size →
      Calls Try.prog 83 #[.slice (some ⟨ga, 0, none⟩) (RR : Nat) oc, .int .i64 (K : Int), .int .i64 ((K : Int) + 1)] W fun en w' => ∃ va2 n2 vc2, en = .returned (.slice va2 n2 vc2) ∧ Ev W w' (fun q => q = ga) ∧ Nest w' nn (.slice va2 n2 vc2) (L ++ M) := fun W hN7 hn7 => by
    have e1 : RR = (L ++ ((t.1, t.2.1, t.2.2.1, delAt (Ns.maps t) i), Value.slice va' (N : Nat) vc') :: M).length := by have := hKp.h.2.2.1; simp; omega
    have e2 := hKp.h.1
    subst e1 e2
    refine (Un.outer hN7 hn7 (k := L.length) (N := (L ++ M).length) (by simp) (by simp; omega)).mono ?_
    rintro en w' ⟨a2, c2, rfl, h1, h2⟩
    rw [delAt_mid] at h2
    exact ⟨a2, _, c2, rfl, h1, h2⟩
  have hwK : IntKind.i64.wrap ((K : Int) + 1) = (K : Int) + 1 := by rw [IntKind.wrap_i64]; omega
  obtain ⟨W7, hW7⟩ : ∃ W7, W7 = W6.setCell ⟨ga, K * 4 + 3, none⟩ (.slice va' (N : Nat) vc') := ⟨_, rfl⟩
  rw [← hW7] at g4 fr7 bId7 hcv7 hs7 ⊢
  clear hW7 g1 g2 g3 fr5 bId hN5 hcv5 hQ hS2 hj3 hdl hin hN hj2 hil
  have hne1 : ¬ (Bid = w.heap.size + 1) := by omega
  have hne2 : ¬ (w.heap.size + 1 = Bid) := by omega
  by_cases h0 : N = 0
  · obtain rfl : N = 0 := h0
    clear hQ1
    go_upto_region 20 with (first
      | (go_at_call 83; refine (hout W7 g4 hs7).mono ?_; rintro en W8 ⟨va2, n2, vc2, rfl, r1, r2⟩))
    have fr8 : Un.Fr w W8 table := ⟨fr7.bel.trans (ev_below_n r1 (fun q hq => by omega) (by exact fr7.bel.size)), fr7.bT.ev r1 (by omega), fr7.bI.ev r1 (by omega)⟩
    have bId8 := bId7.ev r1 (by omega)
    have bi0 := bId8.cell 0
    have bi1 := bId8.cell 1
    have bi2 := bId8.cell 2
    have cI0 := fr8.bI.cell 0
    have cI1 := fr8.bI.cell 1
    have cI2 := fr8.bI.cell 2
    have fI0 := fr8.bI.frozen 0
    have fI1 := fr8.bI.frozen 1
    have fI2 := fr8.bI.frozen 2
    go_region_held3 (fun w' => w'.cell? ⟨Bid, 0, none⟩ = some (.int .i64 m.2.2.2.1) ∧ w'.cell? ⟨Bid, 1, none⟩ = some (.int .i64 m.2.2.2.2.1) ∧ w'.cell? ⟨Bid, 2, none⟩ = some (.int .i64 m.2.2.2.2.2)) (go_keep) (fail)
    all_goals go_wp2
    all_goals exact bodyPost_ret (Un.res (w := w) (i := mId m) rfl rfl rfl (HB.set3 fr8.bI)) rfl (hQ0 trivial _ _ _ Un.lowD r2 fr8.bel)
  · clear hQ0 hout
    have bi0 := bId7.cell 0
    have bi1 := bId7.cell 1
    have bi2 := bId7.cell 2
    have cI0 := fr7.bI.cell 0
    have cI1 := fr7.bI.cell 1
    have cI2 := fr7.bI.cell 2
    have fI0 := fr7.bI.frozen 0
    have fI1 := fr7.bI.frozen 1
    have fI2 := fr7.bI.frozen 2
    have h0' : ¬ ((N : Int) = 0) := by omega
    go_upto_region 20 with fail
    go_region_held3 (fun w' => w'.cell? ⟨Bid, 0, none⟩ = some (.int .i64 m.2.2.2.1) ∧ w'.cell? ⟨Bid, 1, none⟩ = some (.int .i64 m.2.2.2.2.1) ∧ w'.cell? ⟨Bid, 2, none⟩ = some (.int .i64 m.2.2.2.2.2)) (go_keep) (fail)
    all_goals go_wp2
    all_goals exact bodyPost_ret (Un.res (w := w) (i := mId m) rfl rfl rfl (HB.set3 fr7.bI)) rfl (hQ1 h0 _ _ _ _ Un.lowD g4 fr7.bel)
end Go.Proofs
