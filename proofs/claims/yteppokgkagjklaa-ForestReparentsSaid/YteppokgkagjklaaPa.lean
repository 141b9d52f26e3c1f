/-
  forest.Parent: its walk. By an AI agent.
-/
import Derived.Test.YteppokgkagjklaaBw
namespace Go.Proofs
open Go.RowKit Go.Shelf Go.AL
set_option linter.unusedVariables false
set_option linter.unusedSimpArgs false
attribute [local go_sem] Oper.semAt_some
/-- Block B holds these cells. -/
def HB (W : World) (B : Nat) (t : TypeId) (cs : Array Value) : Prop := W.heap[B]? = some (.cells cs t (0, 0))
theorem HB.lt {W : World} {B : Nat} {t : TypeId} {cs : Array Value} (h : HB W B t cs) : B < W.heap.size := (Array.getElem?_eq_some_iff.1 h).1
theorem HB.cell {W : World} {B : Nat} {t : TypeId} {cs : Array Value} (h : HB W B t cs) (j : Nat) : W.cell? ⟨B, j, none⟩ = cs[j]? := by simp [World.cell?, show W.heap[B]? = _ from h]
theorem HB.frozen {W : World} {B : Nat} {t : TypeId} {cs : Array Value} (h : HB W B t cs) (j : Nat) : W.frozen? ⟨B, j, none⟩ = false := by simp [World.frozen?, show W.heap[B]? = _ from h]
theorem HB.new (W : World) (t : TypeId) (cs : Array Value) : HB (W.alloc (.cells cs t)) W.heap.size t cs := World.alloc_heap_new W _
theorem HB.kept {W W' : World} {row : Option Nat} {B : Nat} {t : TypeId} {cs : Array Value} (h : HB W B t cs) (hg : W.grownBy W' row) (hne : some B ≠ row) : HB W' B t cs := (hg.block B h.lt hne).trans h
theorem HB.alloc {W : World} {B : Nat} {t : TypeId} {cs : Array Value} (h : HB W B t cs) (o : Obj) : HB (W.alloc o) B t cs := h.kept (World.grownBy_alloc W o none) (by simp)
theorem HB.below {W W' : World} {n₀ B : Nat} {t : TypeId} {cs : Array Value} (h : HB W B t cs) (hb : Below n₀ W W') (hlt : B < n₀) : HB W' B t cs := (hb.block B hlt).trans h
theorem HB.set {W : World} {B : Nat} {t : TypeId} {cs : Array Value} (h : HB W B t cs) (j : Nat) (v : Value) : HB (W.setCell ⟨B, j, none⟩ v) B t (cs.setIfInBounds j v) := by
  obtain ⟨hlt, hk⟩ := Array.getElem?_eq_some_iff.1 h
  show (W.heap.modify B _)[B]? = _
  rw [Array.getElem?_eq_getElem (by rw [Array.size_modify]; exact hlt), Array.getElem_modify_self, hk]
  rfl
theorem HB.other {W : World} {B B' : Nat} {t : TypeId} {cs : Array Value} (h : HB W B t cs) (hne : B ≠ B') (j : Nat) (u : Value) : HB (W.setCell ⟨B', j, none⟩ u) B t cs := (Below.heap_setCell W ⟨B', j, none⟩ u B hne).trans h
theorem Pa.store {W : World} {A B : Nat} {ta tb : TypeId} {x y z u x' y' z' u' : Value} (ha : HB W A ta #[x, y, z]) (hb : HB W B tb #[u]) (hne : A ≠ B) :
    HB ((((W.setCell ⟨A, 0, none⟩ x').setCell ⟨A, 1, none⟩ y').setCell ⟨A, 2, none⟩ z').setCell ⟨B, 0, none⟩ u') A ta #[x', y', z'] ∧ HB ((((W.setCell ⟨A, 0, none⟩ x').setCell ⟨A, 1, none⟩ y').setCell ⟨A, 2, none⟩ z').setCell ⟨B, 0, none⟩ u') B tb #[u'] := by
  constructor
  · exact ((((ha.set 0 x').set 1 y').set 2 z').other hne 0 u')
  · exact ((((hb.other (Ne.symm hne) 0 x').other (Ne.symm hne) 1 y').other (Ne.symm hne) 2 z').set 0 u')
theorem Pa.store_below {W : World} {n₀ A B : Nat} {x' y' z' u' : Value} (hA : n₀ ≤ A) (hB : n₀ ≤ B) : Below n₀ W ((((W.setCell ⟨A, 0, none⟩ x').setCell ⟨A, 1, none⟩ y').setCell ⟨A, 2, none⟩ z').setCell ⟨B, 0, none⟩ u') :=
  ((((Below.refl n₀ W).setCell (p := ⟨A, 0, none⟩) hA x').setCell (p := ⟨A, 1, none⟩) hA y').setCell (p := ⟨A, 2, none⟩) hA z').setCell (p := ⟨B, 0, none⟩) hB u'
theorem Pa.res {W : World} {A B : Nat} {x y z u : Value} {tmps : Array Value} (h4 : tmps[4]? = some (.pointer (some ⟨A, 0, none⟩))) (h5 : tmps[5]? = some (.pointer (some ⟨B, 0, none⟩))) (ha : HB W A 25 #[x, y, z]) (hb : HB W B 4 #[u]) :
    (results Try.f36 tmps).run Try.prog W = .ok (.tuple #[.agg #[x, y, z], u]) W := by
  have c0 := ha.cell 0
  have c1 := ha.cell 1
  have c2 := ha.cell 2
  have c3 := hb.cell 0
  simp [results, Try.f36, go_sem, h4, h5, c0, c1, c2, c3]
theorem hb_own {β : Type} (B : Nat) (t : TypeId) (cs : Array Value) : Own (fun (_ : β) W => HB W B t cs) := fun s X Y row hs hg hrow =>
  hs.kept hg (fun e' => by obtain ⟨o, ho, hc⟩ := hrow B e'.symm; rw [show X.heap[B]? = _ from hs] at ho; cases ho; cases hc)
abbrev Pa.idV (i : SId) : Value := .agg #[.int .i64 i.1, .int .i64 i.2.1, .int .i64 i.2.2]
/-- The last of the Ids that the forest holds. -/
def lastIn (l : List SEn) : List SId → SId × Bool
  | [] => ((0, 0, 0), false)
  | q :: r => bif decide (findE l q ≥ 0) then (q, true) else lastIn l r
def parS (a : List SEn × SId) : SId × Bool := bif decide (findE a.1 a.2 ≥ 0) then lastIn a.1 (epath (a.1.getD (findE a.1 a.2).toNat zE)).reverse else ((0, 0, 0), false)
theorem keeps_below {W W' : World} (h : Below W.heap.size W W') : KeepsOthers W W' := ⟨h.size, fun k o hk _ => (h.block k (Array.getElem?_eq_some_iff.1 hk).1).trans hk⟩
theorem Pa.keep4 (W : World) (A B : Nat) (x' y' z' u' : Value) : KeepsOthers W ((((W.setCell ⟨A, 0, none⟩ x').setCell ⟨A, 1, none⟩ y').setCell ⟨A, 2, none⟩ z').setCell ⟨B, 0, none⟩ u') :=
  (((KeepsOthers.setCell _ _ _).trans (KeepsOthers.setCell _ _ _)).trans (KeepsOthers.setCell _ _ _)).trans (KeepsOthers.setCell _ _ _)
theorem lastIn_app (l : List SEn) (x : SId) (b : List SId) : ∀ a : List SId, (∀ y ∈ a, findE l y < 0) → findE l x ≥ 0 → lastIn l (a ++ x :: b) = (x, true)
  | [], _, hx => by simp only [List.nil_append, lastIn, decide_eq_true hx]; rfl
  | y :: a, h, hx => by
    simp only [List.cons_append, lastIn, decide_eq_false (show ¬ findE l y ≥ 0 by have := h y (List.mem_cons_self ..); omega), cond_false]
    exact lastIn_app l x b a (fun z hz => h z (List.mem_cons_of_mem _ hz)) hx
theorem lastIn_none (l : List SEn) : ∀ a : List SId, (∀ y ∈ a, findE l y < 0) → lastIn l a = ((0, 0, 0), false)
  | [], _ => rfl
  | y :: a, h => by
    simp only [lastIn, decide_eq_false (show ¬ findE l y ≥ 0 by have := h y (List.mem_cons_self ..); omega), cond_false]
    exact lastIn_none l a (fun z hz => h z (List.mem_cons_of_mem _ hz))
theorem up_snd (zs : List SId) {k : Nat} (hk : k ≤ zs.length) : (Bw.up (Bw.at zs) k).map Prod.snd = zs.reverse.take k := by
  apply List.ext_getElem
  · simp [Bw.up, hk]
  · intro i h1 h2
    have hi : i < k := by simp [Bw.up] at h1; exact h1
    have h3 : zs.length - 1 - i < zs.length := by omega
    simp [Bw.up, Bw.at, List.getElem_reverse, List.getElem?_eq_getElem h3]
theorem HB.put {W : World} {B D : Nat} {t : TypeId} {cs : Array Value} (h : HB W B t cs) {o : Obj} (o' : Obj) (hD : W.heap[D]? = some o) (ho : o.isCells = false) : HB (W.putObj D o') B t cs :=
  h.kept (grownBy_putObj' W D o') (fun e => by cases e; rw [show W.heap[B]? = _ from h] at hD; cases hD; cases ho)
set_option maxRecDepth 100000 in
set_option maxHeartbeats 4000000 in
theorem Pa.par_in (F : Fence) (n : Nat) (h3 : F.fn 36) (h5 : F.fn 78) (h6 : F.fn 104) (h28 : F.fn 28) (hro : F.round = none) (hn : 6 ≤ n)
    (lb : Option Addr) (cap : Nat) (l : List SEn) (id : SId) (w : World)
    (hfind : ∀ (m : Nat) (W : World) (i : SId), Below w.heap.size w W → CallsIn F m Try.prog 28 #[.slice lb l.length cap, Pa.idV i] W fun e W' => e = .returned (.tuple #[.int .i64 (fndR (findE l i)).1, .bool (fndR (findE l i)).2]) ∧ Below W.heap.size W W')
    (hpath : ∀ (k : Nat) (e : SEn), l[k]? = some e → (epath e).length ≤ 1000 ∧ ∃ bl ol a m c, lb = some ⟨bl, ol, none⟩ ∧ bl < w.heap.size ∧ w.cell? ⟨bl, ol + k * 13 + 5, none⟩ = some (.slice a m c) ∧ Bw.Ids w.heap.size w (.slice a m c) (epath e)) :
    CallsIn F n Try.prog 36 #[.slice lb l.length cap, Pa.idV id] w fun e W' => e = .returned (.tuple #[Pa.idV (parS (l, id)).1, .bool (parS (l, id)).2]) ∧ Below w.heap.size w W' := by
  obtain ⟨sp, hsp⟩ : ∃ sp, sp = parS (l, id) := ⟨_, rfl⟩
  rw [← hsp]
  have h1 : 1 ≤ n := by omega
  refine callsIn_of_wp_marks Try.func36 rfl h3 ?_ hro
  simp only [Try.ntmps36, List.size_toArray, List.length_cons, List.length_nil, Nat.reduceAdd, Nat.reduceSub, Array.replicate_succ, Array.replicate_zero, List.push_toArray, List.append_toArray, List.nil_append, List.cons_append]
  gi_wp2
  have hB0 : Below w.heap.size w ((((w.alloc (.cells #[.slice lb l.length cap] 22)).alloc (.cells #[.int .i64 id.1, .int .i64 id.2.1, .int .i64 id.2.2] 25)).alloc (.cells #[.int .i64 0, .int .i64 0, .int .i64 0] 25)).alloc (.cells #[.bool false] 4)) :=
    ((((Below.refl _ w).alloc (Nat.le_refl _) _).alloc (by simp) _).alloc (by simp; omega) _).alloc (by simp; omega) _
  have b2 := (((HB.new w 22 #[.slice lb l.length cap]).alloc (.cells #[.int .i64 id.1, .int .i64 id.2.1, .int .i64 id.2.2] 25)).alloc (.cells #[.int .i64 0, .int .i64 0, .int .i64 0] 25)).alloc (.cells #[.bool false] 4)
  have b4 := (HB.new ((w.alloc (.cells #[.slice lb l.length cap] 22)).alloc (.cells #[.int .i64 id.1, .int .i64 id.2.1, .int .i64 id.2.2] 25)) 25 #[.int .i64 0, .int .i64 0, .int .i64 0]).alloc (.cells #[.bool false] 4)
  have b5 := HB.new (((w.alloc (.cells #[.slice lb l.length cap] 22)).alloc (.cells #[.int .i64 id.1, .int .i64 id.2.1, .int .i64 id.2.2] 25)).alloc (.cells #[.int .i64 0, .int .i64 0, .int .i64 0] 25)) 4 #[.bool false]
  simp only [World.size_alloc] at b4 b5
  have hsz : ((((w.alloc (.cells #[.slice lb l.length cap] 22)).alloc (.cells #[.int .i64 id.1, .int .i64 id.2.1, .int .i64 id.2.2] 25)).alloc (.cells #[.int .i64 0, .int .i64 0, .int .i64 0] 25)).alloc (.cells #[.bool false] 4)).heap.size = w.heap.size + 4 := by simp
  generalize ((((w.alloc (.cells #[.slice lb l.length cap] 22)).alloc (.cells #[.int .i64 id.1, .int .i64 id.2.1, .int .i64 id.2.2] 25)).alloc (.cells #[.int .i64 0, .int .i64 0, .int .i64 0] 25)).alloc (.cells #[.bool false] 4)) = W0 at hB0 b2 b4 b5 hsz ⊢
  refine (hfind _ _ id hB0).mono ?_
  rintro e W1 ⟨rfl, hB1⟩
  have b2 := b2.below hB1 (by omega)
  have b4 := b4.below hB1 (by omega)
  have b5 := b5.below hB1 (by omega)
  have hs1 : w.heap.size + 4 ≤ W1.heap.size := by have := hB1.size; omega
  have hB1 : Below w.heap.size w W1 := hB0.trans (hB1.mono (by omega))
  have c2 := b2.cell 0
  have c40 := b4.cell 0
  have c41 := b4.cell 1
  have c42 := b4.cell 2
  have c5 := b5.cell 0
  have g40 := b4.frozen 0
  have g41 := b4.frozen 1
  have g42 := b4.frozen 2
  have g5 := b5.frozen 0
  by_cases hk : findE l id ≥ 0
  case neg =>
    have hf : fndR (findE l id) = (0, false) := by unfold fndR; rw [decide_eq_false hk]; rfl
    obtain rfl : sp = ((0, 0, 0), false) := by rw [hsp]; simp only [parS, decide_eq_false hk]; rfl
    rw [hf]
    clear hsp hf
    gi_wp2
    obtain ⟨r4, r5⟩ := Pa.store (x' := .int .i64 0) (y' := .int .i64 0) (z' := .int .i64 0) (u' := .bool false) b4 b5 (by omega)
    exact ⟨_, Pa.res rfl rfl r4 r5, rfl, hB1.trans (Pa.store_below (by omega) (by omega))⟩
  obtain ⟨k, e, hk1, hk2, hk3⟩ : ∃ (k : Nat) (e : SEn), findE l id = (k : Int) ∧ l[k]? = some e ∧ parS (l, id) = lastIn l (epath e).reverse := by
    have hlt := findE_lt l id
    have hkl : (findE l id).toNat < l.length := by omega
    refine ⟨(findE l id).toNat, l[(findE l id).toNat], by omega, List.getElem?_eq_getElem hkl, ?_⟩
    simp only [parS, decide_eq_true hk, cond_true, List.getD_eq_getElem?_getD, List.getElem?_eq_getElem hkl, Option.getD_some]
  have hf : fndR (findE l id) = ((k : Int), true) := by unfold fndR; rw [decide_eq_true hk, hk1]; rfl
  obtain ⟨hp0, bl, ol, pa, pm, pc, rfl, hbl, hpc, hpi⟩ := hpath k e hk2
  have hkl := (List.getElem?_eq_some_iff.1 hk2).1
  have hpc1 : W1.cell? ⟨bl, ol + k * 13 + 5, none⟩ = some (.slice pa pm pc) := (hB1.cell (p := ⟨bl, _, none⟩) hbl).trans hpc
  have hpi1 := hpi.below hB1
  rw [hk3] at hsp
  rw [hf]
  clear hf hk3 hk1 hk hpc hpi
  gi_wp2_with (gi_at_call 78; refine (Bw.back_in F (n - 1) h5 hro _ _ _ _).mono ?_; rintro e w' ⟨rfl, rfl⟩)
  have bP := HB.new W1 26 #[.slice pa pm pc]
  have b2 := b2.alloc (.cells #[.slice pa pm pc] 26)
  have b4 := b4.alloc (.cells #[.slice pa pm pc] 26)
  have b5 := b5.alloc (.cells #[.slice pa pm pc] 26)
  have hB2 : Below w.heap.size w (W1.alloc (.cells #[.slice pa pm pc] 26)) := hB1.alloc (by omega) _
  have hs2 : (W1.alloc (.cells #[.slice pa pm pc] 26)).heap.size = W1.heap.size + 1 := by simp
  have hpi2 := hpi1.below ((Below.refl w.heap.size W1).alloc (by omega) (.cells #[.slice pa pm pc] 26))
  generalize W1.alloc (.cells #[.slice pa pm pc] 26) = W2 at bP b2 b4 b5 hB2 hs2 hpi2 ⊢
  have hpi3 : Bw.Ids W2.heap.size W2 (.slice pa pm pc) (epath e) := by
    rcases hpi2 with h | ⟨b', o', c', h1, h2, h3⟩
    · exact .inl h
    · exact .inr ⟨b', o', c', h1, by omega, h3⟩
  refine wpIn_rangeFunc_ownH hro h1 (gf := 104) (lb := #[.pointer (some ⟨W1.heap.size, 0, none⟩)]) rfl h6 (enters_of Try.func104 (by kernel_rfl) rfl)
    (Bw.back_stops F (n - 1) h6 hro (by omega) W1.heap.size W2.heap.size (.slice pa pm pc) (epath e) (by omega) W2 (by omega) (Nat.le_refl _) (by rw [bP.cell 0]; rfl) (by omega) hpi3) belowK_t (belowK_b (Nat.le_refl _)) (Below.refl _ _) (fun _ => rfl)
    (fun pre W => (∀ y ∈ pre, findE l y.2 < 0) ∧ Below W2.heap.size W2 W)
    (fun c pre W => (c = .ret ∧ ∃ q x, pre = q ++ [x] ∧ (∀ y ∈ q, findE l y.2 < 0) ∧ findE l x.2 ≥ 0 ∧ HB W (w.heap.size + 1 + 1) 25 #[.int .i64 x.2.1, .int .i64 x.2.2.1, .int .i64 x.2.2.2] ∧ HB W (w.heap.size + 1 + 1 + 1) 4 #[.bool true]) ∧ Below w.heap.size w W)
    (OwnFrom.and (ownFrom_pure _ _) (ownFrom_below (Nat.le_refl _) (Nat.le_refl _)))
    (fun c pre X Y row hs hg hr => by
      obtain ⟨⟨e1, q, x, e2, e3, e4, r4, r5⟩, hb⟩ := hs
      exact ⟨⟨e1, q, x, e2, e3, e4, hb_own _ _ _ () X Y row r4 hg (fun r e => (hr r e).2), hb_own _ _ _ () X Y row r5 hg (fun r e => (hr r e).2)⟩, ownFrom_below (β := Unit) (Nat.le_refl _) hB2.size () X Y row hb hg hr⟩)
    ⟨fun y hy => (by cases hy), Below.refl _ _⟩
    (fun x a' W => ∃ Bx, W2.heap.size ≤ Bx ∧ HB W Bx 25 #[.int .i64 x.2.1, .int .i64 x.2.2.1, .int .i64 x.2.2.2] ∧ a' = { tmps := #[.slice (some ⟨bl, ol, none⟩) l.length cap, Pa.idV id, .pointer (some ⟨w.heap.size, 0, none⟩), .pointer (some ⟨w.heap.size + 1, 0, none⟩), .pointer (some ⟨w.heap.size + 1 + 1, 0, none⟩), .pointer (some ⟨w.heap.size + 1 + 1 + 1, 0, none⟩), .int .i64 k, .bool true, undef, .pointer (some ⟨Bx, 0, none⟩), undef, undef, .tuple #[.int .i64 k, .bool true], .slice (some ⟨bl, ol, none⟩) l.length cap, Pa.idV id, .tuple #[.int .i64 k, .bool true], .int .i64 k, .bool true, .bool true, .bool false, undef, .slice (some ⟨bl, ol, none⟩) l.length cap, .int .i64 k, .pointer (some ⟨bl, ol + k * 13, none⟩), .pointer (some ⟨bl, ol + k * 13 + 2, none⟩), .pointer (some ⟨bl, ol + k * 13 + 2 + 3, none⟩), .slice pa pm pc, .func (.func 104) #[] #[.pointer (some ⟨W1.heap.size, 0, none⟩)], .int .i64 (x.1 : Int), Pa.idV x.2, undef, undef, undef, undef, undef, undef, undef, undef, undef], defers := [] })
    (fun x a' _ X Y row hs hg hr => by obtain ⟨Bx, h1, h2, h3⟩ := hs; exact ⟨Bx, h1, hb_own Bx _ _ () X Y row h2 hg (fun r e => (hr r e).2), h3⟩)
    ?assign ?body ?done ?stop
  case assign =>
    rintro lp pre x W K ⟨hpre, hBW⟩ hK
    have hsW := hBW.size
    have n0 := HB.new W 25 #[.int .i64 0, .int .i64 0, .int .i64 0]
    have n00 := n0.cell 0
    have n01 := n0.cell 1
    have n02 := n0.cell 2
    have m00 := n0.frozen 0
    have m01 := n0.frozen 1
    have m02 := n0.frozen 2
    gi_wp2
    exact hK _ _ ((KeepsOthers.alloc _ _).from _) ((Below.refl _ W).alloc hsW _) ⟨hpre, hBW.alloc hsW _⟩ ⟨W.heap.size, hsW, HB.new W _ _, rfl⟩
  case body =>
    rintro lp pre x a' W hl ⟨r, hr⟩ ⟨hpre, hBW⟩ ⟨Bx, hBx, bX, rfl⟩ hlt
    have hsW := hBW.size
    have b2 := b2.below hBW (by omega)
    have b4 := b4.below hBW (by omega)
    have b5 := b5.below hBW (by omega)
    have hB3 : Below w.heap.size w W := hB2.trans (hBW.mono (by omega))
    have c2 := b2.cell 0
    have x0 := bX.cell 0
    have x1 := bX.cell 1
    have x2 := bX.cell 2
    gi_wp2
    refine ⟨fun _ => by omega, (CallsIn.inRound lp (hfind _ W x.2 hB3)).mono ?_⟩
    rintro e W3 ⟨rfl, hB4⟩
    have b4 := b4.below hB4 (by omega)
    have b5 := b5.below hB4 (by omega)
    have bX := bX.below hB4 bX.lt
    have hs3 := hB4.size
    have c40 := b4.cell 0
    have c41 := b4.cell 1
    have c42 := b4.cell 2
    have c5 := b5.cell 0
    have g40 := b4.frozen 0
    have g41 := b4.frozen 1
    have g42 := b4.frozen 2
    have g5 := b5.frozen 0
    have x0 := bX.cell 0
    have x1 := bX.cell 1
    have x2 := bX.cell 2
    by_cases hx : findE l x.2 ≥ 0
    · obtain ⟨j, hj⟩ : ∃ j, fndR (findE l x.2) = (j, true) := ⟨findE l x.2, by unfold fndR; rw [decide_eq_true hx]; rfl⟩
      rw [hj]
      clear hj
      gi_wp2
      obtain ⟨r4, r5⟩ := Pa.store (x' := .int .i64 x.2.1) (y' := .int .i64 x.2.2.1) (z' := .int .i64 x.2.2.2) (u' := .bool true) b4 b5 (by omega)
      exact ⟨((keeps_below hB4).trans (Pa.keep4 _ _ _ _ _ _ _)).from _, ⟨rfl, pre, x, rfl, hpre, hx, r4, r5⟩, (hB3.trans (hB4.mono hB3.size)).trans (Pa.store_below (by omega) (by omega))⟩
    · have hj : fndR (findE l x.2) = (0, false) := by unfold fndR; rw [decide_eq_false hx]; rfl
      rw [hj]
      clear hj
      gi_wp2
      refine ⟨(keeps_below hB4).from _, hB4.mono hsW, fun y hy => ?_, hBW.trans (hB4.mono hsW)⟩
      rcases List.mem_append.1 hy with hy | hy
      · exact hpre y hy
      · rw [List.mem_singleton.1 hy]; omega
  case done =>
    rintro D ys W hD rfl ⟨hpre, hBW⟩ hK
    have hsW := hBW.size
    have b4 := b4.below hBW (by omega)
    have b5 := b5.below hBW (by omega)
    have hB3 : Below w.heap.size w W := hB2.trans (hBW.mono (by omega))
    have c40 := b4.cell 0
    have c41 := b4.cell 1
    have c42 := b4.cell 2
    have c5 := b5.cell 0
    have g40 := b4.frozen 0
    have g41 := b4.frozen 1
    have g42 := b4.frozen 2
    have g5 := b5.frozen 0
    obtain rfl : sp = ((0, 0, 0), false) := by
      rw [hsp]
      refine lastIn_none l _ fun y hy => ?_
      have h9 := up_snd (epath e) (Nat.le_refl _)
      rw [show (epath e).reverse.take (epath e).length = (epath e).reverse by rw [← List.length_reverse, List.take_length]] at h9
      rw [← h9] at hy
      obtain ⟨z, hz, rfl⟩ := List.mem_map.1 hy
      exact hpre z hz
    clear hsp
    gi_wp2
    obtain ⟨r4, r5⟩ := Pa.store (x' := .int .i64 0) (y' := .int .i64 0) (z' := .int .i64 0) (u' := .bool false) b4 b5 (by omega)
    have hK' := (Pa.keep4 W (w.heap.size + 1 + 1) (w.heap.size + 1 + 1 + 1) (.int .i64 0) (.int .i64 0) (.int .i64 0) (.bool false)).same D _ hK rfl
    refine ⟨by simp, .inl ⟨_, _, rfl, run_takeDeferred hK', ?_⟩⟩
    exact ⟨_, Pa.res rfl rfl (r4.put _ hK' rfl) (r5.put _ hK' rfl), rfl, (hB3.trans (Pa.store_below (by omega) (by omega))).trans (belowK_b (w := w) (Nat.le_refl _) _ D _ _ (by omega) hK' rfl rfl)⟩
  case stop =>
    rintro D c pre W hD ⟨k', hk', rfl⟩ ⟨⟨rfl, q, x, hpx, hq, hx, r4, r5⟩, hBw⟩ hK
    obtain rfl : sp = (x.2, true) := by
      rw [hsp]
      have h9 := up_snd (epath e) hk'
      rw [hpx, List.map_append] at h9
      rw [← List.take_append_drop k' (epath e).reverse, ← h9, List.append_assoc]
      refine lastIn_app l x.2 _ _ (fun y hy => ?_) hx
      obtain ⟨z, hz, rfl⟩ := List.mem_map.1 hy
      exact hq z hz
    clear hsp
    gi_wp2
    refine ⟨by simp, .inl ⟨_, _, rfl, run_takeDeferred hK, ?_⟩⟩
    exact ⟨_, Pa.res rfl rfl (r4.put _ hK rfl) (r5.put _ hK rfl), rfl, hBw.trans (belowK_b (w := w) (Nat.le_refl _) _ D _ _ (by omega) hK rfl rfl)⟩
end Go.Proofs
