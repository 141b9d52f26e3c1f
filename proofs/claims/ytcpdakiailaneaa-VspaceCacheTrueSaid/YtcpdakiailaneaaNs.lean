/-
  Nested own slices at the grain of the world: page tables whose mappings each lie in a block of their own. By an AI agent.
-/
import Derived.WalkKit
import Derived.Laws.OwnMore
import Derived.Deep.RegionHeld3
import Derived.Test.YtcpdakiailaneaaVi
namespace Go.Proofs
open Go.RowKit Go.Shelf Go.AL
set_option linter.unusedVariables false
set_option linter.unusedSimpArgs false

/-! ### A contract, called from a world of cells -/
def ArgsAt (w : World) (ad : List AK) (a : ArgT ad) (us : Array Value) : Prop :=
  ∃ vargs, ArgsV ad a vargs ∧ us.size = vargs.length ∧ ∀ (i : Nat) (x : V), vargs[i]? = some x → ∃ u, us[i]? = some u ∧ Rel ⟨w, fun _ => False, noH, noB⟩ x u
theorem Ns.call {P : Program} {e : Ent} (h : e.Ok P) (a : ArgT e.ad) (hp : e.pre a = true) {w : World} {us : Array Value} (ha : ArgsAt w e.ad a us) :
    Calls P e.g us w fun en w' => ∃ rds us' β' A', RessV e.rk (e.fn a) rds ∧ en = .returned (packV us') ∧ PostR w (fun _ => False) rds w' us' β' A' := by
  obtain ⟨vargs, h1, h2, h3⟩ := ha
  exact (h a hp vargs h1).2 w (fun _ => False) us (fun b h => h.elim) h2 h3
theorem Ns.below {w w' : World} {n : Nat} (h : Ev w w' noI.P) : Below n w w' ∨ True := .inr trivial
theorem ev_below' {w W : World} (h : Ev w W noI.P) : Below w.heap.size w W := ⟨h.os, h.tape, h.output, h.size, fun k hk => h.block k hk (fun hq => hq)⟩

/-! ### Lists laid cell by cell -/
theorem flat_len {α β : Type} {f : α → List β} {k : Nat} (hf : ∀ x, (f x).length = k) : ∀ l : List α, (l.flatMap f).length = l.length * k
  | [] => by simp
  | x :: l => by simp only [List.flatMap_cons, List.length_append, hf, flat_len hf l, List.length_cons, Nat.succ_mul]; omega
theorem flat_get {α β : Type} {f : α → List β} {k : Nat} (hf : ∀ x, (f x).length = k) : ∀ (l : List α) (i j : Nat) (x : α), l[i]? = some x → j < k → (l.flatMap f)[i * k + j]? = (f x)[j]?
  | [], i, j, x, h, _ => by simp at h
  | y :: l, 0, j, x, h, hj => by
    simp at h; subst h
    rw [List.flatMap_cons, List.getElem?_append_left (by rw [hf]; omega)]; simp
  | y :: l, i + 1, j, x, h, hj => by
    have := flat_get hf l i j x (by simpa using h) hj
    rw [List.flatMap_cons, List.getElem?_append_right (by rw [hf, Nat.succ_mul]; omega), hf, Nat.succ_mul, ← this]
    congr 1; omega
theorem flat_take {α β : Type} {f : α → List β} {k : Nat} (hf : ∀ x, (f x).length = k) (l : List α) (i : Nat) : (l.flatMap f).take (i * k) = (l.take i).flatMap f := by
  induction l generalizing i with
  | nil => simp
  | cons y l ih =>
    cases i with
    | zero => simp
    | succ i =>
      rw [List.flatMap_cons, List.take_succ_cons, List.flatMap_cons, List.take_append, hf, List.take_of_length_le (by rw [hf, Nat.succ_mul]; omega), show (i + 1) * k - k = i * k by rw [Nat.succ_mul]; omega, ih]
theorem flat_drop {α β : Type} {f : α → List β} {k : Nat} (hf : ∀ x, (f x).length = k) (l : List α) (i : Nat) : (l.flatMap f).drop (i * k) = (l.drop i).flatMap f := by
  induction l generalizing i with
  | nil => simp
  | cons y l ih =>
    cases i with
    | zero => simp
    | succ i =>
      rw [List.flatMap_cons, List.drop_succ_cons, List.drop_append, hf, List.drop_eq_nil_of_le (by rw [hf, Nat.succ_mul]; omega), show (i + 1) * k - k = i * k by rw [Nat.succ_mul]; omega, ih]; simp
theorem flat_all {α : Type} {f : α → List Value} (h : ∀ x, ∀ v ∈ f x, v.oneCell' = true) (l : List α) : ∀ v ∈ l.flatMap f, v.oneCell' = true := fun v hv => by
  obtain ⟨x, _, h2⟩ := List.mem_flatMap.1 hv
  exact h x v h2

/-! ### Blocks -/
def HB (W : World) (B : Nat) (t : TypeId) (cs : Array Value) : Prop := W.heap[B]? = some (.cells cs t (0, 0))
theorem HB.lt {W : World} {B : Nat} {t : TypeId} {cs : Array Value} (h : HB W B t cs) : B < W.heap.size := (Array.getElem?_eq_some_iff.1 h).1
theorem HB.cell {W : World} {B : Nat} {t : TypeId} {cs : Array Value} (h : HB W B t cs) (j : Nat) : W.cell? ⟨B, j, none⟩ = cs[j]? := by simp [World.cell?, show W.heap[B]? = _ from h]
theorem HB.frozen {W : World} {B : Nat} {t : TypeId} {cs : Array Value} (h : HB W B t cs) (j : Nat) : W.frozen? ⟨B, j, none⟩ = false := by simp [World.frozen?, show W.heap[B]? = _ from h]
theorem HB.new (W : World) (t : TypeId) (cs : Array Value) : HB (W.alloc (.cells cs t)) W.heap.size t cs := heap_alloc_new W _
theorem HB.below {W W' : World} {n₀ B : Nat} {t : TypeId} {cs : Array Value} (h : HB W B t cs) (hb : Below n₀ W W') (hlt : B < n₀) : HB W' B t cs := (hb.block B hlt).trans h
theorem HB.alloc {W : World} {B : Nat} {t : TypeId} {cs : Array Value} (h : HB W B t cs) (o : Obj) : HB (W.alloc o) B t cs := h.below ((Below.refl W.heap.size W).alloc (Nat.le_refl _) o) h.lt
theorem HB.set {W : World} {B : Nat} {t : TypeId} {cs : Array Value} (h : HB W B t cs) (j : Nat) (v : Value) : HB (W.setCell ⟨B, j, none⟩ v) B t (cs.setIfInBounds j v) := by
  obtain ⟨hlt, hk⟩ := Array.getElem?_eq_some_iff.1 h
  show (W.heap.modify B _)[B]? = _
  rw [Array.getElem?_eq_getElem (by rw [Array.size_modify]; exact hlt), Array.getElem_modify_self, hk]
  rfl
theorem HB.other {W : World} {B B' : Nat} {t : TypeId} {cs : Array Value} (h : HB W B t cs) (hne : B ≠ B') (j : Nat) (u : Value) : HB (W.setCell ⟨B', j, none⟩ u) B t cs := (Below.heap_setCell W ⟨B', j, none⟩ u B hne).trans h
theorem HB.ev {W W' : World} {B : Nat} {X : Nat → Prop} {t : TypeId} {cs : Array Value} (h : HB W B t cs) (hb : Ev W W' X) (hX : ¬ X B) : HB W' B t cs := (hb.block B h.lt hX).trans h

theorem Own.ev {W W' : World} {n0 e k : Nat} {v : Value} {n : Nat} {xs : List Value} (h : W.ownsRow n0 e k v n xs) {X : Nat → Prop} (hb : Ev W W' X) (hX : ∀ g, v.ownBlock = some g → ¬ X g) : W'.ownsRow n0 e k v n xs := by
  refine ⟨h.1, ?_⟩
  rcases h.2 with h0 | ⟨g, cap, cur, rfl, h1, h2, h3⟩
  · exact .inl h0
  · exact .inr ⟨g, cap, cur, rfl, h1, (hb.block g (Array.getElem?_eq_some_iff.1 h2).1 (hX g rfl)).trans h2, h3⟩
theorem Own.lt {W : World} {n0 e k : Nat} {v : Value} {n : Nat} {xs : List Value} (h : W.ownsRow n0 e k v n xs) {g : Nat} (hg : v.ownBlock = some g) : n0 ≤ g ∧ g < W.heap.size := by
  rcases h.2 with ⟨rfl, _⟩ | ⟨g', cap, cur, rfl, h1, h2, h3⟩
  · cases hg
  · cases hg; exact ⟨h1, (Array.getElem?_eq_some_iff.1 h2).1⟩
theorem below_ev {W W' : World} {n : Nat} (h : Below n W W') : Ev W W' (fun g => n ≤ g) := ⟨h.os, h.tape, h.output, h.size, fun k hk hX => h.block k (by omega)⟩
theorem ev_below_n {w W : World} {X : Nat → Prop} {n : Nat} (h : Ev w W X) (hX : ∀ g, X g → n ≤ g) (hn : n ≤ w.heap.size) : Below n w W := ⟨h.os, h.tape, h.output, h.size, fun k hk => h.block k (by omega) (fun q => by have := hX k q; omega)⟩

/-! ### Mappings; page tables -/
abbrev Ns.m (x : SMp) : List Value := [.int .i64 x.1, .int .i64 x.2.1, .int .i64 x.2.2.1, .int .i64 x.2.2.2.1, .int .i64 x.2.2.2.2.1, .int .i64 x.2.2.2.2.2]
abbrev Ns.p (x : SPT × Value) : List Value := [.int .i64 x.1.1, .int .i64 x.1.2.1, .int .i64 x.1.2.2.1, x.2]
def Ns.ms (l : List SMp) : List Value := l.flatMap Ns.m
def Ns.ps (R : List (SPT × Value)) : List Value := R.flatMap Ns.p
abbrev tyM : TypeId := 64
abbrev tyP : TypeId := 60
abbrev Ns.maps (x : SPT) : List SMp := x.2.2.2
structure Nest (W : World) (n0 : Nat) (out : Value) (R : List (SPT × Value)) : Prop where
  own : W.ownsRow n0 tyP 4 out R.length (Ns.ps R)
  inn : ∀ p ∈ R, W.ownsRow n0 tyM 6 p.2 (Ns.maps p.1).length (Ns.ms (Ns.maps p.1))
  ne : ∀ p ∈ R, ∀ g, p.2.ownBlock = some g → out.ownBlock ≠ some g
  dis : R.Pairwise fun p q => ∀ g, p.2.ownBlock = some g → q.2.ownBlock ≠ some g
theorem Nest.ev {W W' : World} {n0 : Nat} {out : Value} {R : List (SPT × Value)} (h : Nest W n0 out R) {X : Nat → Prop} (hb : Ev W W' X) (hX : ∀ g, g < W.heap.size → ¬ X g) : Nest W' n0 out R :=
  ⟨Own.ev h.own hb (fun g hg => hX g (Own.lt h.own hg).2), fun p hp => Own.ev (h.inn p hp) hb (fun g hg => hX g (Own.lt (h.inn p hp) hg).2), h.ne, h.dis⟩
theorem Nest.below {W W' : World} {n0 : Nat} {out : Value} {R : List (SPT × Value)} (h : Nest W n0 out R) (hb : Below W.heap.size W W') : Nest W' n0 out R :=
  h.ev (below_ev hb) (fun g hg hx => by omega)
theorem own_one {W : World} {n0 e k : Nat} {v : Value} {n : Nat} {xs : List Value} (h : W.ownsRow n0 e k v n xs) : v.oneCell' = true := by
  rcases h.2 with ⟨rfl, _⟩ | ⟨g', cap, cur, rfl, h1, h2, h3⟩ <;> rfl
theorem Nest.one {W : World} {n0 : Nat} {out : Value} {R : List (SPT × Value)} (h : Nest W n0 out R) : ∀ v ∈ Ns.ps R, v.oneCell' = true := fun v hv => by
  obtain ⟨x, h1, h2⟩ := List.mem_flatMap.1 hv
  simp only [Ns.p, List.mem_cons, List.not_mem_nil, or_false] at h2
  rcases h2 with rfl | rfl | rfl | rfl
  · rfl
  · rfl
  · rfl
  · exact own_one (h.inn x h1)
theorem Ns.ms_one (l : List SMp) : ∀ v ∈ Ns.ms l, v.oneCell' = true := flat_all (fun x v hv => by
  simp only [Ns.m, List.mem_cons, List.not_mem_nil, or_false] at hv
  rcases hv with rfl | rfl | rfl | rfl | rfl | rfl <;> rfl) l

/-! ### As the contracts see them -/
theorem Ns.mRow {x : SMp} {row : List V} : RowV tSMp x row = (∃ v0 r0, row = v0 :: r0 ∧ (v0 = .int .i64 x.1) ∧ ∃ v1 r1, r0 = v1 :: r1 ∧ (v1 = .int .i64 x.2.1) ∧ ∃ v2 r2, r1 = v2 :: r2 ∧ (v2 = .int .i64 x.2.2.1) ∧ ∃ v3 r3, r2 = v3 :: r3 ∧ (v3 = .int .i64 x.2.2.2.1) ∧
    ∃ v4 r4, r3 = v4 :: r4 ∧ (v4 = .int .i64 x.2.2.2.2.1) ∧ ∃ v5, r4 = [v5] ∧ v5 = .int .i64 x.2.2.2.2.2) := by kernel_rfl
theorem Ns.mRow' {x : SMp} {row : List V} (h : RowV tSMp x row) : row = (Ns.m x).map V.ofCell := by
  rw [Ns.mRow] at h
  obtain ⟨v0, r0, rfl, rfl, v1, r1, rfl, rfl, v2, r2, rfl, rfl, v3, r3, rfl, rfl, v4, r4, rfl, rfl, v5, rfl, rfl⟩ := h
  rfl
theorem Ns.mRow_of (x : SMp) : RowV tSMp x ((Ns.m x).map V.ofCell) := by
  rw [Ns.mRow]
  exact ⟨_, _, rfl, rfl, _, _, rfl, rfl, _, _, rfl, rfl, _, _, rfl, rfl, _, _, rfl, rfl, _, rfl, rfl⟩
theorem Ns.pRow {x : SPT} {row : List V} : RowV tSPT x row = (∃ v0 r0, row = v0 :: r0 ∧ (v0 = .int .i64 x.1) ∧ ∃ v1 r1, r0 = v1 :: r1 ∧ (v1 = .int .i64 x.2.1) ∧ ∃ v2 r2, r1 = v2 :: r2 ∧ (v2 = .int .i64 x.2.2.1) ∧ ∃ v3, r2 = [v3] ∧ TyV (.sl tSMp) (Ns.maps x) v3) := by kernel_rfl
theorem Ns.slV {zs : List SMp} {v : V} : TyV (.sl tSMp) zs v = ((zs = [] ∧ v = .nil) ∨ ∃ rows, v = .sl rows ∧ All2 (RowV tSMp) zs rows) := by kernel_rfl
def Ns.mV (l : List SMp) : List (List V) := l.map fun x => (Ns.m x).map V.ofCell
theorem Ns.mV_rows : ∀ l : List SMp, All2 (RowV tSMp) l (Ns.mV l)
  | [] => trivial
  | x :: l => ⟨Ns.mRow_of x, Ns.mV_rows l⟩
def Ns.pV (R : List (SPT × Value)) : List (List V) := R.map fun p => [.int .i64 p.1.1, .int .i64 p.1.2.1, .int .i64 p.1.2.2.1, .sl (Ns.mV (Ns.maps p.1))]
theorem Ns.pV_rows : ∀ R : List (SPT × Value), All2 (RowV tSPT) (R.map Prod.fst) (Ns.pV R)
  | [] => trivial
  | x :: l => ⟨by rw [Ns.pRow]; exact ⟨_, _, rfl, rfl, _, _, rfl, rfl, _, _, rfl, rfl, _, rfl, by rw [Ns.slV]; exact .inr ⟨_, rfl, Ns.mV_rows _⟩⟩, Ns.pV_rows l⟩
theorem own_cells {W : World} {n0 e k : Nat} {g cap n : Nat} {xs : List Value} {cur : Array Value} (h2 : W.heap[g]? = some (.cells cur e (0, 0))) (ht : cur.toList.take (n * k) = xs) {j : Nat} {v : Value} (hj : xs[j]? = some v) : W.cell? ⟨g, j, none⟩ = some v :=
  cell_row (w := W) (m := n * k) h2 ht j v hj
theorem Ns.mRel {W : World} {n0 : Nat} {A X : Nat → Prop} {v : Value} {l : List SMp} (h : W.ownsRow n0 tyM 6 v l.length (Ns.ms l)) (hA : ∀ g, v.ownBlock = some g → ¬ X g) : SlAt W A X (Ns.mV l) v := by
  rcases h.2 with ⟨rfl, h0⟩ | ⟨g, cap, cur, rfl, h1, h2, h3, h4, h5, h6⟩
  · refine .inl ⟨⟨_, rfl⟩, ?_⟩
    have : l = [] := List.eq_nil_of_length_eq_zero h0
    rw [this]; rfl
  · have hlen : (Ns.mV l).length = l.length := by simp [Ns.mV]
    refine .inr ⟨g, 0, cap, 6, fun i j => ((Ns.ms l)[i * 6 + j]?).getD undef, by rw [hlen], by rw [hlen]; exact h3, fun _ => ⟨(Array.getElem?_eq_some_iff.1 h2).1, hA g rfl⟩, fun row hr => ?_, fun i row hi j x hx => ?_, fun i row hi j x hx => ?_⟩
    · obtain ⟨y, _, rfl⟩ := List.mem_map.1 hr
      rfl
    all_goals
      simp only [Ns.mV, List.getElem?_map, Option.map_eq_some_iff] at hi
      obtain ⟨y, hy, rfl⟩ := hi
      rw [List.getElem?_map, Option.map_eq_some_iff] at hx
      obtain ⟨u, hu, rfl⟩ := hx
      have hj6 : j < 6 := by have := (List.getElem?_eq_some_iff.1 hu).1; simpa using this
      have hg := flat_get (f := Ns.m) (k := 6) (fun _ => rfl) l i j y hy hj6
      rw [hu] at hg
      have hg : (Ns.ms l)[i * 6 + j]? = some u := hg
    · simp only [hg, Nat.zero_add, Option.getD_some]
      exact own_cells (n0 := n0) (cap := cap) h2 h6 hg
    · simp only [hg, Option.getD_some]
      exact relP_ofCell u (Ns.ms_one l u (List.mem_of_getElem? hg))
theorem Nest.rel {W : World} {n0 : Nat} {out : Value} {R : List (SPT × Value)} (h : Nest W n0 out R) {A X : Nat → Prop} (hA : ∀ p ∈ R, ∀ g, p.2.ownBlock = some g → ¬ A g) (hX : ∀ g, out.ownBlock = some g → ¬ X g) : SlAt W A X (Ns.pV R) out := by
  rcases h.own.2 with ⟨rfl, h0⟩ | ⟨g, cap, cur, rfl, h1, h2, h3, h4, h5, h6⟩
  · refine .inl ⟨⟨_, rfl⟩, ?_⟩
    have : R = [] := List.eq_nil_of_length_eq_zero h0
    rw [this]; rfl
  · have hlen : (Ns.pV R).length = R.length := by simp [Ns.pV]
    refine .inr ⟨g, 0, cap, 4, fun i j => ((Ns.ps R)[i * 4 + j]?).getD undef, by rw [hlen], by rw [hlen]; exact h3, fun _ => ⟨(Array.getElem?_eq_some_iff.1 h2).1, hX g rfl⟩, fun row hr => ?_, fun i row hi j x hx => ?_, fun i row hi j x hx => ?_⟩
    · obtain ⟨y, _, rfl⟩ := List.mem_map.1 hr
      rfl
    all_goals
      simp only [Ns.pV, List.getElem?_map, Option.map_eq_some_iff] at hi
      obtain ⟨y, hy, rfl⟩ := hi
      have hj4 : j < 4 := by have := (List.getElem?_eq_some_iff.1 hx).1; simpa using this
      have hg := flat_get (f := Ns.p) (k := 4) (fun _ => rfl) R i j y hy hj4
      obtain ⟨u, hu⟩ : ∃ u, (Ns.p y)[j]? = some u := ⟨_, List.getElem?_eq_getElem hj4⟩
      rw [hu] at hg
      have hg : (Ns.ps R)[i * 4 + j]? = some u := hg
    · simp only [hg, Nat.zero_add, Option.getD_some]
      exact own_cells (n0 := n0) (cap := cap) h2 h6 hg
    · simp only [hg, Option.getD_some]
      match j, hj4, hx, hu with
      | 0, _, hx, hu => simp at hx hu; subst hx; subst hu; exact .int _ _
      | 1, _, hx, hu => simp at hx hu; subst hx; subst hu; exact .int _ _
      | 2, _, hx, hu => simp at hx hu; subst hx; subst hu; exact .int _ _
      | 3, _, hx, hu =>
        simp at hx hu
        subst hx; subst hu
        have hm := List.mem_of_getElem? hy
        exact relP_sl.2 (Ns.mRel (h.inn y hm) (fun g hg => hA y hm g hg))
end Go.Proofs
