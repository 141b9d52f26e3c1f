/-
  Walks at the grain of the world: typed cells, rows and lists there; contracts called from there. By an AI agent.
-/
import Derived.WalkKit
import Derived.ProofKit
import Derived.Laws.OwnMore
import Derived.Deep.RegionHeld3
import Derived.Deep.Cut
import Derived.Deep.AppendLies
import Derived.ArgAppend
import Derived.Test.YtbhnmholmpdmeaaGreatAxLrun
namespace Go.AL
open Go.RowKit
set_option linter.unusedVariables false
set_option linter.unusedSimpArgs false
/-! ### Blocks -/
def HB (W : World) (B : Nat) (t : TypeId) (cs : Array Value) : Prop := W.heap[B]? = some (.cells cs t (0, 0))
section
variable {W W' : World} {B : Nat} {t : TypeId} {cs : Array Value}
theorem HB.lt (h : HB W B t cs) : B < W.heap.size := (Array.getElem?_eq_some_iff.1 h).1
theorem HB.cell (h : HB W B t cs) (j : Nat) : W.cell? ⟨B, j, none⟩ = cs[j]? := by simp [World.cell?, show W.heap[B]? = _ from h]
theorem HB.frozen (h : HB W B t cs) (j : Nat) : W.frozen? ⟨B, j, none⟩ = false := by simp [World.frozen?, show W.heap[B]? = _ from h]
theorem HB.new (W : World) (t : TypeId) (cs : Array Value) : HB (W.alloc (.cells cs t)) W.heap.size t cs := heap_alloc_new W _
theorem HB.ev (h : HB W B t cs) {X : Nat → Prop} (hb : Ev W W' X) (hX : ¬ X B) : HB W' B t cs := (hb.block B h.lt hX).trans h
theorem HB.below (h : HB W B t cs) {n : Nat} (hb : Below n W W') (hlt : B < n) : HB W' B t cs := (hb.block B hlt).trans h
theorem HB.alloc (h : HB W B t cs) (o : Obj) : HB (W.alloc o) B t cs := h.below ((Below.refl W.heap.size W).alloc (Nat.le_refl _) o) h.lt
theorem HB.set (h : HB W B t cs) (j : Nat) (v : Value) : HB (W.setCell ⟨B, j, none⟩ v) B t (cs.setIfInBounds j v) := by
  obtain ⟨hlt, hk⟩ := Array.getElem?_eq_some_iff.1 h
  show (W.heap.modify B _)[B]? = _
  rw [Array.getElem?_eq_getElem (by rw [Array.size_modify]; exact hlt), Array.getElem_modify_self, hk]
  rfl
theorem HB.other (h : HB W B t cs) {B' : Nat} (hne : B ≠ B') (j : Nat) (u : Value) : HB (W.setCell ⟨B', j, none⟩ u) B t cs := (Below.heap_setCell W ⟨B', j, none⟩ u B hne).trans h
end
/-! ### What changes -/
theorem Ev.rf (w : World) (X : Nat → Prop) : Ev w w X := ⟨rfl, rfl, rfl, Nat.le_refl _, fun _ _ _ => rfl⟩
theorem Ev.mono {w w' : World} {X Y : Nat → Prop} (h : Ev w w' X) (hXY : ∀ b, b < w.heap.size → X b → Y b) : Ev w w' Y := ⟨h.os, h.tape, h.output, h.size, fun k hk hY => h.block k hk (fun hx => hY (hXY k hk hx))⟩
theorem Ev.st {w w' : World} {X : Nat → Prop} (h : Ev w w' X) (b j : Nat) (u : Value) (hb : X b ∨ w.heap.size ≤ b) : Ev w (w'.setCell ⟨b, j, none⟩ u) X :=
  ⟨h.os, h.tape, h.output, by simpa [World.setCell] using h.size, fun k hk hX => (Below.heap_setCell w' ⟨b, j, none⟩ u k (fun e => by
    have e : k = b := e
    subst e
    rcases hb with hb | hb
    · exact hX hb
    · omega)).trans (h.block k hk hX)⟩
theorem Ev.low {w w' : World} {X : Nat → Prop} (h : Ev w w' X) (hX : ∀ b, ¬ X b) : Below w.heap.size w w' := ⟨h.os, h.tape, h.output, h.size, fun k hk => h.block k hk (hX k)⟩
theorem low_ev {w w' : World} (h : Below w.heap.size w w') (X : Nat → Prop) : Ev w w' X := ⟨h.os, h.tape, h.output, h.size, fun k hk _ => h.block k hk⟩
/-! ### Typed cells and rows -/
def Cl (W : World) (A : Nat → Prop) (t : Ty) (x : t.T) (u : Value) : Prop := ∃ v, TyV t x v ∧ RelP W A v u
def Rw1 (W : World) (A : Nat → Prop) {B : Type} (f : B → Value → Prop) : (τ : List Ty) → RowT1 B τ → List Value → Prop
  | [], x, us => ∃ u, us = [u] ∧ f x u
  | t :: ts, x, us => ∃ u r, us = u :: r ∧ f (Prod.fst x) u ∧ Rw1 W A (Cl W A t) ts (Prod.snd x) r
def Rw (W : World) (A : Nat → Prop) : (τ : List Ty) → RowT τ → List Value → Prop
  | [], _, us => us = []
  | t :: ts, x, us => Rw1 W A (Cl W A t) ts x us
section
variable {w w' : World} {A A' : Nat → Prop}
theorem rw1_of {B : Type} {f : B → Value → Prop} {R : B → V → Prop} (hf : ∀ x v u, R x v → RelP w A v u → f x u) : ∀ (τ : List Ty) (x : RowT1 B τ) (row : List V) (us : List Value), RowV1 R τ x row → All2 (RelP w A) row us → Rw1 w A f τ x us
  | [], x, row, us, h, ha => by
    obtain ⟨v, rfl, hv⟩ := rowV1_nil.1 h
    match us, ha with
    | [u], ha => exact ⟨u, rfl, hf _ _ _ hv ha.1⟩
  | t :: ts, x, row, us, h, ha => by
    obtain ⟨v, r, rfl, hv, hr⟩ := rowV1_cons.1 h
    match us, ha with
    | u :: us, ha => exact ⟨u, us, rfl, hf _ _ _ hv ha.1, rw1_of (fun x v u h1 h2 => ⟨v, h1, h2⟩) ts _ r us hr ha.2⟩
theorem rw_of {τ : List Ty} {x : RowT τ} {row : List V} {us : List Value} (h : RowV τ x row) (ha : All2 (RelP w A) row us) : Rw w A τ x us := by
  cases τ with
  | nil =>
    have := rowV_nil.1 h
    subst this
    match us, ha with
    | [], _ => rfl
  | cons t ts => exact rw1_of (fun x v u h1 h2 => ⟨v, h1, h2⟩) ts x row us (rowV_cons.1 h) ha
theorem rw1_to {B : Type} {f : B → Value → Prop} {R : B → V → Prop} (hf : ∀ x u, f x u → ∃ v, R x v ∧ RelP w A v u) : ∀ (τ : List Ty) (x : RowT1 B τ) (us : List Value), Rw1 w A f τ x us → ∃ row, RowV1 R τ x row ∧ All2 (RelP w A) row us
  | [], x, us, h => by
    obtain ⟨u, rfl, hu⟩ := h
    obtain ⟨v, h1, h2⟩ := hf _ _ hu
    exact ⟨[v], rowV1_nil.2 ⟨v, rfl, h1⟩, h2, trivial⟩
  | t :: ts, x, us, h => by
    obtain ⟨u, r, rfl, hu, hr⟩ := h
    obtain ⟨v, h1, h2⟩ := hf _ _ hu
    obtain ⟨row, h3, h4⟩ := rw1_to (fun x u h => h) ts _ r hr
    exact ⟨v :: row, rowV1_cons.2 ⟨v, row, rfl, h1, h3⟩, h2, h4⟩
theorem rw_to {τ : List Ty} {x : RowT τ} {us : List Value} (h : Rw w A τ x us) : ∃ row, RowV τ x row ∧ All2 (RelP w A) row us := by
  cases τ with
  | nil =>
    have h : us = [] := h
    subst h
    exact ⟨[], rowV_nil.2 rfl, trivial⟩
  | cons t ts =>
    obtain ⟨row, h1, h2⟩ := rw1_to (R := TyV t) (fun x u h => h) ts x us h
    exact ⟨row, rowV_cons.2 h1, h2⟩
theorem Rw.len {τ : List Ty} {x : RowT τ} {us : List Value} (h : Rw w A τ x us) : us.length = τ.length := by
  obtain ⟨row, h1, h2⟩ := rw_to h
  rw [← h2.len, rowV_len h1]
theorem Rw.one {τ : List Ty} {x : RowT τ} {us : List Value} (h : Rw w A τ x us) : ∀ u ∈ us, u.oneCell' = true := fun u hu => by
  obtain ⟨row, h1, h2⟩ := rw_to h
  obtain ⟨j, hj⟩ := List.mem_iff_getElem?.1 hu
  obtain ⟨v, _, h3⟩ := h2.getB j u hj
  exact h3.oneCell
theorem Cl.fr {t : Ty} {x : t.T} {u : Value} (h : Cl w A t x u) (hw : Agree A w w') (hs : w.heap.size ≤ w'.heap.size) (hA : ∀ b, b < w.heap.size → A' b → A b) : Cl w' A' t x u := by
  obtain ⟨v, h1, h2⟩ := h
  exact ⟨v, h1, h2.frame hw hs hA⟩
theorem Rw.fr {τ : List Ty} {x : RowT τ} {us : List Value} (h : Rw w A τ x us) (hw : Agree A w w') (hs : w.heap.size ≤ w'.heap.size) (hA : ∀ b, b < w.heap.size → A' b → A b) : Rw w' A' τ x us := by
  obtain ⟨row, h1, h2⟩ := rw_to h
  exact rw_of h1 (h2.mono fun a b h => h.frame hw hs hA)
theorem Cl.ev {t : Ty} {x : t.T} {u : Value} (h : Cl w A t x u) {X : Nat → Prop} (hw : Ev w w' X) (hX : ∀ b, b < w.heap.size → X b → A b) (hA : ∀ b, b < w.heap.size → A' b → A b) : Cl w' A' t x u :=
  h.fr (fun b hb hn => hw.block b hb (fun hx => hn (hX b hb hx))) hw.size hA
theorem Rw.ev {τ : List Ty} {x : RowT τ} {us : List Value} (h : Rw w A τ x us) {X : Nat → Prop} (hw : Ev w w' X) (hX : ∀ b, b < w.heap.size → X b → A b) (hA : ∀ b, b < w.heap.size → A' b → A b) : Rw w' A' τ x us :=
  h.fr (fun b hb hn => hw.block b hb (fun hx => hn (hX b hb hx))) hw.size hA
theorem Cl.int {k : IntKind} {n : Int} : Cl w A (.int k) n (.int k n) := ⟨_, tyV_int.2 rfl, .int _ _⟩
theorem Cl.bool {n : Bool} : Cl w A .bool n (.bool n) := ⟨_, tyV_bool.2 rfl, .bool _⟩
theorem cl_int {k : IntKind} {n : Int} {u : Value} (h : Cl w A (.int k) n u) : u = .int k n := by
  obtain ⟨v, h1, h2⟩ := h
  have := tyV_int.1 h1
  subst this
  cases h2; rfl
theorem cl_bool {n : Bool} {u : Value} (h : Cl w A .bool n u) : u = .bool n := by
  obtain ⟨v, h1, h2⟩ := h
  have := tyV_bool.1 h1
  subst this
  cases h2; rfl
end
/-! ### Rows, cell by cell -/
def cvC : (t : Ty) → t.T → List Value → Value × List Value
  | .int k, n, ps => (.int k n, ps)
  | .bool, b, ps => (.bool b, ps)
  | .str, b, ps => (.string b, ps)
  | .sl _, _, ps => (ps.headD undef, ps.tail)
def cvC1 {B : Type} (c : B → List Value → Value × List Value) : (τ : List Ty) → RowT1 B τ → List Value → List Value
  | [], x, ps => [(c x ps).1]
  | t :: ts, x, ps => (c (Prod.fst x) ps).1 :: cvC1 (cvC t) ts (Prod.snd x) (c (Prod.fst x) ps).2
def rwC : (τ : List Ty) → RowT τ → List Value → List Value
  | [], _, _ => []
  | t :: ts, x, ps => cvC1 (cvC t) ts x ps
def cvP (w : World) (A : Nat → Prop) : (t : Ty) → t.T → List Value → (List Value → Prop) → Prop
  | .sl σ, x, ps, K => ∃ p r, ps = p :: r ∧ Cl w A (.sl σ) x p ∧ K r
  | .int _, _, ps, K => K ps
  | .bool, _, ps, K => K ps
  | .str, _, ps, K => K ps
def cvP1 (w : World) (A : Nat → Prop) {B : Type} (g : B → List Value → (List Value → Prop) → Prop) : (τ : List Ty) → RowT1 B τ → List Value → Prop
  | [], x, ps => g x ps (fun r => r = [])
  | t :: ts, x, ps => g (Prod.fst x) ps (cvP1 w A (cvP w A t) ts (Prod.snd x))
def rwP (w : World) (A : Nat → Prop) : (τ : List Ty) → RowT τ → List Value → Prop
  | [], _, ps => ps = []
  | t :: ts, x, ps => cvP1 w A (cvP w A t) ts x ps
section
variable {w : World} {A : Nat → Prop}
theorem cv_to (t : Ty) (x : t.T) (u : Value) (h : Cl w A t x u) : ∃ q : List Value, (∀ (r : List Value) (K : List Value → Prop), K r → cvP w A t x (q ++ r) K) ∧ ∀ r, cvC t x (q ++ r) = (u, r) := by
  cases t with
  | int k => obtain rfl := cl_int h; exact ⟨[], fun r K h => h, fun r => rfl⟩
  | bool => obtain rfl := cl_bool h; exact ⟨[], fun r K h => h, fun r => rfl⟩
  | str =>
    obtain ⟨v, h1, h2⟩ := h
    have := tyV_str.1 h1
    subst this
    cases h2
    exact ⟨[], fun r K h => h, fun r => rfl⟩
  | sl σ => exact ⟨[u], fun r K hk => ⟨u, r, rfl, h, hk⟩, fun r => rfl⟩
theorem cv_of (t : Ty) (x : t.T) (ps : List Value) (K : List Value → Prop) (h : cvP w A t x ps K) : K (cvC t x ps).2 ∧ Cl w A t x (cvC t x ps).1 := by
  cases t with
  | int k => exact ⟨h, Cl.int⟩
  | bool => exact ⟨h, Cl.bool⟩
  | str => exact ⟨h, ⟨_, tyV_str.2 rfl, .str _⟩⟩
  | sl σ => obtain ⟨p, r, rfl, h1, h2⟩ := h; exact ⟨h2, h1⟩
theorem cv1_to : ∀ (τ : List Ty) {B : Type} {f : B → Value → Prop} {g : B → List Value → (List Value → Prop) → Prop} {c : B → List Value → Value × List Value} (hf : ∀ (x : B) (u : Value), f x u → ∃ q : List Value, (∀ (r : List Value) (K : List Value → Prop), K r → g x (q ++ r) K) ∧ ∀ r, c x (q ++ r) = (u, r)) (x : RowT1 B τ) (us : List Value),
    Rw1 w A f τ x us → ∃ ps, cvP1 w A g τ x ps ∧ us = cvC1 c τ x ps
  | [], B, f, g, c, hf, x, us, h => by
    obtain ⟨u, rfl, hu⟩ := h
    obtain ⟨q, h1, h2⟩ := hf x u hu
    refine ⟨q ++ [], h1 _ _ rfl, ?_⟩
    show [u] = [(c x (q ++ [])).1]
    rw [h2]
  | t :: ts, B, f, g, c, hf, x, us, h => by
    obtain ⟨u, r, rfl, hu, hr⟩ := h
    obtain ⟨q, h1, h2⟩ := hf _ u hu
    obtain ⟨ps, h3, h4⟩ := cv1_to ts (cv_to t) _ r hr
    refine ⟨q ++ ps, h1 _ _ h3, ?_⟩
    show u :: r = (c (Prod.fst x) (q ++ ps)).1 :: cvC1 (cvC t) ts (Prod.snd x) (c (Prod.fst x) (q ++ ps)).2
    rw [h2, h4]
theorem cv1_of : ∀ (τ : List Ty) {B : Type} {f : B → Value → Prop} {g : B → List Value → (List Value → Prop) → Prop} {c : B → List Value → Value × List Value} (hf : ∀ (x : B) (ps : List Value) (K : List Value → Prop), g x ps K → K (c x ps).2 ∧ f x (c x ps).1) (x : RowT1 B τ) (ps : List Value),
    cvP1 w A g τ x ps → Rw1 w A f τ x (cvC1 c τ x ps)
  | [], B, f, g, c, hf, x, ps, h => ⟨_, rfl, (hf x ps _ h).2⟩
  | t :: ts, B, f, g, c, hf, x, ps, h => ⟨_, _, rfl, (hf _ ps _ h).2, cv1_of ts (cv_of t) _ _ (hf _ ps _ h).1⟩
theorem Rw.to {τ : List Ty} {x : RowT τ} {us : List Value} (h : Rw w A τ x us) : ∃ ps, rwP w A τ x ps ∧ us = rwC τ x ps := by
  cases τ with
  | nil => exact ⟨[], rfl, h⟩
  | cons t ts => exact cv1_to ts (cv_to t) x us h
theorem Rw.of {τ : List Ty} {x : RowT τ} {ps : List Value} (h : rwP w A τ x ps) : Rw w A τ x (rwC τ x ps) := by
  cases τ with
  | nil => rfl
  | cons t ts => exact cv1_of ts (cv_of t) x ps h
end
/-! ### Slices that are only read -/
def Sl (W : World) (A X : Nat → Prop) (τ : List Ty) (xs : List (RowT τ)) (u : Value) : Prop := ∃ rows, RowsV τ xs rows ∧ SlAt W A X rows u
section
variable {w w' : World} {A A' X X' : Nat → Prop} {τ : List Ty} {xs : List (RowT τ)} {u : Value}
theorem cl_sl : Cl w A (.sl τ) xs u ↔ Sl w A A τ xs u := by
  constructor
  · rintro ⟨v, h1, h2⟩
    rcases tyV_sl.1 h1 with ⟨e, rfl⟩ | ⟨rows, rfl, h3⟩
    · cases h2
      have e : xs = [] := e
      subst e
      exact ⟨[], trivial, .inl ⟨⟨_, rfl⟩, rfl⟩⟩
    · exact ⟨rows, h3, relP_sl.1 h2⟩
  · rintro ⟨rows, h1, h2⟩
    exact ⟨_, tyV_sl.2 (.inr ⟨rows, rfl, h1⟩), relP_sl.2 h2⟩
theorem Sl.fr (h : Sl w A X τ xs u) (hw : Agree A w w') (hwX : Agree X w w') (hs : w.heap.size ≤ w'.heap.size) (hA : ∀ b, b < w.heap.size → A' b → A b) (hX : ∀ b, b < w.heap.size → X' b → X b) : Sl w' A' X' τ xs u := by
  obtain ⟨rows, h1, h2⟩ := h
  exact ⟨rows, h1, h2.frame hw hwX hs hA hX⟩
theorem Sl.low (h : Sl w A X τ xs u) (hb : Below w.heap.size w w') : Sl w' A X τ xs u := h.fr (fun b hb' _ => hb.block b hb') (fun b hb' _ => hb.block b hb') hb.size (fun _ _ h => h) (fun _ _ h => h)
theorem Sl.form (h : Sl w A X τ xs u) : ∃ a c, u = .slice a (xs.length : Nat) c := by
  obtain ⟨rows, h1, h2⟩ := h
  have hl : xs.length = rows.length := h1.len
  rcases h2 with ⟨⟨a, rfl⟩, rfl⟩ | ⟨b, off, cap, es, f, rfl, _⟩
  · rw [hl]; exact ⟨_, _, rfl⟩
  · rw [hl]; exact ⟨_, _, rfl⟩
theorem Sl.get (h : Sl w A X τ xs u) {i : Nat} {x : RowT τ} (hx : xs[i]? = some x) : ∃ b off c us, u = .slice (some ⟨b, off, none⟩) (xs.length : Nat) c ∧ b < w.heap.size ∧ ¬ X b ∧ Rw w A τ x us ∧ us.length = τ.length ∧ ∀ (j : Nat) (v : Value), us[j]? = some v → w.cell? ⟨b, off + i * τ.length + j, none⟩ = some v := by
  obtain ⟨rows, h1, h2⟩ := h
  have hl : xs.length = rows.length := h1.len
  obtain ⟨row, hr, hrv⟩ := All2.get h1 i x hx
  rcases h2 with ⟨⟨a, rfl⟩, rfl⟩ | ⟨b, off, cap, es, f, rfl, hcap, hb, hes, hc, hrel⟩
  · simp at hr
  · have hne : rows ≠ [] := fun e => by rw [e] at hr; simp at hr
    have hlr := rowV_len hrv
    have he : es = τ.length := by rw [← hes row (List.mem_of_getElem? hr), hlr]
    subst he
    let us := (List.range row.length).map (f i)
    have hus : ∀ (j : Nat) (v : V), row[j]? = some v → us[j]? = some (f i j) := fun j v hv => by
      have := (List.getElem?_eq_some_iff.1 hv).1
      simp [us, this]
    have ha : All2 (RelP w A) row us := by
      have key : ∀ (row : List V) (us : List Value), row.length = us.length → (∀ (j : Nat) (v : V) (q : Value), row[j]? = some v → us[j]? = some q → RelP w A v q) → All2 (RelP w A) row us := by
        intro row
        induction row with
        | nil => intro us h _; cases us with
          | nil => trivial
          | cons _ _ => simp at h
        | cons a row ih => intro us h hr; cases us with
          | nil => simp at h
          | cons q us => exact ⟨hr 0 a q rfl rfl, ih us (by simpa using h) (fun j v q h1 h2 => hr (j + 1) v q (by simpa using h1) (by simpa using h2))⟩
      refine key row us (by simp [us]) (fun j v q hv hq => ?_)
      rw [hus j v hv] at hq
      cases hq
      exact hrel i row hr j v hv
    refine ⟨b, off, cap, us, by rw [hl], (hb hne).1, (hb hne).2, rw_of hrv ha, by simp [us, hlr], fun j v hv => ?_⟩
    have hj : j < row.length := by
      have := (List.getElem?_eq_some_iff.1 hv).1
      simpa [us] using this
    have hv2 := hus j _ (List.getElem?_eq_getElem hj)
    rw [hv] at hv2
    cases hv2
    exact hc i row hr j _ (List.getElem?_eq_getElem hj)
theorem Sl.nil (a : Option Addr) : Sl w A X τ [] (.slice a 0 0) := ⟨[], trivial, .inl ⟨⟨a, rfl⟩, rfl⟩⟩
end
/-! ### Arguments -/
def Ag (W : World) (A : Nat → Prop) (k : AK) (x : k.T) (u : Value) : Prop := ∃ v, ArgV k x v ∧ Rel ⟨W, A, noH, noB⟩ v u
def Ags1 (W : World) (A : Nat → Prop) {B : Type} (f : B → Value → Prop) : (ks : List AK) → ArgT.ArgT1 B ks → List Value → Prop
  | [], x, us => ∃ u, us = [u] ∧ f x u
  | k :: ks, x, us => ∃ u r, us = u :: r ∧ f (Prod.fst x) u ∧ Ags1 W A (Ag W A k) ks (Prod.snd x) r
def Ags (W : World) (A : Nat → Prop) : (ks : List AK) → ArgT ks → List Value → Prop
  | [], _, us => us = []
  | k :: ks, x, us => Ags1 W A (Ag W A k) ks x us
section
variable {w w' : World} {A A' : Nat → Prop}
theorem Ag.c {t : Ty} {x : t.T} {u : Value} (h : Cl w A t x u) : Ag w A (.c t) x u := by
  obtain ⟨v, h1, h2⟩ := h
  have h2 : RelP (⟨w, A, noH, noB⟩ : Env).w (⟨w, A, noH, noB⟩ : Env).A v u := h2
  exact ⟨v, h1, (RelA.of_relP h2).rel⟩
theorem Ag.int {k : IntKind} {n : Int} : Ag w A (.c (.int k)) n (.int k n) := Ag.c Cl.int
theorem Ag.bool {n : Bool} : Ag w A (.c .bool) n (.bool n) := Ag.c Cl.bool
theorem Ag.g {τ : List Ty} {x : RowT τ} {us : Array Value} (h : Rw w A τ x us.toList) : Ag w A (.g τ) x (.agg us) := by
  obtain ⟨row, h1, h2⟩ := rw_to h
  refine ⟨.agg row, ⟨row, rfl, h1⟩, ⟨us, rfl, by rw [h2.len]; simp, fun i v hv => ?_⟩⟩
  obtain ⟨u, h3, h4⟩ := h2.get i v hv
  exact ⟨u, by simpa using h3, h4⟩
theorem Ag.rd {τ : List Ty} {xs : List (RowT τ)} {u : Value} (h : Sl w A (fun _ => False) τ xs u) : Ag w A (.rd τ) xs u := by
  obtain ⟨rows, h1, h2⟩ := h
  refine ⟨.rd rows, ⟨rows, rfl, h1⟩, ?_⟩
  show SlAt w A (⟨w, A, noH, noB⟩ : Env).M rows u
  exact h2.frame (Agree.refl _ _) (Agree.refl _ _) (Nat.le_refl _) (fun _ _ h => h) (fun b _ h => by obtain ⟨o, ob, h1, _⟩ := h; cases h1)
theorem Ag.rdc {τ : List Ty} {xs : List (RowT τ)} {u : Value} (h : Cl w A (.sl τ) xs u) : Ag w A (.rd τ) xs u := by
  have h := cl_sl.1 h
  exact Ag.rd (h.fr (Agree.refl _ _) (Agree.refl _ _) (Nat.le_refl _) (fun _ _ h => h) (fun b _ h => h.elim))
theorem Ags.one {k : AK} {x : k.T} {u : Value} (h : Ag w A k x u) : Ags w A [k] x [u] := ⟨u, rfl, h⟩
theorem Ags.two {k k1 : AK} {x : k.T} {x1 : k1.T} {u u1 : Value} (h : Ag w A k x u) (h1 : Ag w A k1 x1 u1) : Ags w A [k, k1] (x, x1) [u, u1] := ⟨u, [u1], rfl, h, u1, rfl, h1⟩
theorem Ags.three {k k1 k2 : AK} {x : k.T} {x1 : k1.T} {x2 : k2.T} {u u1 u2 : Value} (h : Ag w A k x u) (h1 : Ag w A k1 x1 u1) (h2 : Ag w A k2 x2 u2) : Ags w A [k, k1, k2] (x, x1, x2) [u, u1, u2] := ⟨u, _, rfl, h, u1, _, rfl, h1, u2, rfl, h2⟩
theorem ags1_to {B : Type} {f : B → Value → Prop} {R : B → V → Prop} (hf : ∀ x u, f x u → ∃ v, R x v ∧ Rel ⟨w, A, noH, noB⟩ v u) : ∀ (ks : List AK) (x : ArgT.ArgT1 B ks) (us : List Value), Ags1 w A f ks x us → ∃ vs, ArgsV1 R ks x vs ∧ All2 (Rel ⟨w, A, noH, noB⟩) vs us
  | [], x, us, h => by
    obtain ⟨u, rfl, hu⟩ := h
    obtain ⟨v, h1, h2⟩ := hf _ _ hu
    exact ⟨[v], ⟨v, rfl, h1⟩, h2, trivial⟩
  | k :: ks, x, us, h => by
    obtain ⟨u, r, rfl, hu, hr⟩ := h
    obtain ⟨v, h1, h2⟩ := hf _ _ hu
    obtain ⟨row, h3, h4⟩ := ags1_to (fun x u h => h) ks _ r hr
    exact ⟨v :: row, ⟨v, row, rfl, h1, h3⟩, h2, h4⟩
theorem ags_to : ∀ {ks : List AK} {x : ArgT ks} {us : List Value}, Ags w A ks x us → ∃ vs, ArgsV ks x vs ∧ All2 (Rel ⟨w, A, noH, noB⟩) vs us
  | [], x, us, h => by
    have h : us = [] := h
    subst h
    exact ⟨[], rfl, trivial⟩
  | k :: ks, x, us, h => ags1_to (fun x u h => h) ks x us h
theorem ags1_of {B : Type} {f : B → Value → Prop} {R : B → V → Prop} (hf : ∀ x v u, R x v → Rel ⟨w, A, noH, noB⟩ v u → f x u) : ∀ (ks : List AK) (x : ArgT.ArgT1 B ks) (vs : List V) (us : List Value), ArgsV1 R ks x vs → All2 (Rel ⟨w, A, noH, noB⟩) vs us → Ags1 w A f ks x us
  | [], x, vs, us, h, ha => by
    obtain ⟨v, rfl, hv⟩ := h
    match us, ha with
    | [u], ha => exact ⟨u, rfl, hf _ _ _ hv ha.1⟩
  | k :: ks, x, vs, us, h, ha => by
    obtain ⟨v, r, rfl, hv, hr⟩ := h
    match us, ha with
    | u :: us, ha => exact ⟨u, us, rfl, hf _ _ _ hv ha.1, ags1_of (fun x v u h1 h2 => ⟨v, h1, h2⟩) ks _ r us hr ha.2⟩
theorem ags_of : ∀ {ks : List AK} {x : ArgT ks} {vs : List V} {us : List Value}, ArgsV ks x vs → All2 (Rel ⟨w, A, noH, noB⟩) vs us → Ags w A ks x us
  | [], x, vs, us, h, ha => by
    have h : vs = [] := h
    subst h
    match us, ha with
    | [], _ => rfl
  | k :: ks, x, vs, us, h, ha => ags1_of (fun x v u h1 h2 => ⟨v, h1, h2⟩) ks x vs us h ha
theorem ag_g {τ : List Ty} {x : RowT τ} {u : Value} (h : Ag w A (.g τ) x u) : ∃ us : Array Value, u = .agg us ∧ Rw w A τ x us.toList := by
  obtain ⟨v, ⟨row, rfl, h1⟩, us, rfl, hs, hc⟩ := h
  refine ⟨us, rfl, rw_of h1 ?_⟩
  have key : ∀ (row : List V) (us : List Value), row.length = us.length → (∀ (j : Nat) (v : V) (q : Value), row[j]? = some v → us[j]? = some q → RelP w A v q) → All2 (RelP w A) row us := by
    intro row
    induction row with
    | nil => intro us h _; cases us with
      | nil => trivial
      | cons _ _ => simp at h
    | cons a row ih => intro us h hr; cases us with
      | nil => simp at h
      | cons q us => exact ⟨hr 0 a q rfl rfl, ih us (by simpa using h) (fun j v q h1 h2 => hr (j + 1) v q (by simpa using h1) (by simpa using h2))⟩
  refine key row us.toList (by simpa using hs.symm) (fun j v q hv hq => ?_)
  obtain ⟨q', h3, h4⟩ := hc j v hv
  rw [Array.getElem?_toList, h3] at hq
  cases hq
  exact h4
end
/-! ### Lists of the call's own -/
def OwnT (W : World) (A : Nat → Prop) (n0 : Nat) (ty : TypeId) (es : Nat) (τ : List Ty) (xs : List (RowT τ)) (u : Value) : Prop :=
  (u = .slice none 0 0 ∧ xs = []) ∨ ∃ g cap cur, u = .slice (some ⟨g, 0, none⟩) (xs.length : Nat) cap ∧ n0 ≤ g ∧ HB W g ty cur ∧ cur.size = cap * es ∧ xs.length ≤ cap ∧ cap ≤ maxLen ∧
    ∀ (i : Nat) (x : RowT τ), xs[i]? = some x → ∃ us, Rw W A τ x us ∧ us.length = es ∧ ∀ (j : Nat) (v : Value), us[j]? = some v → cur[i * es + j]? = some v
section
variable {w w' : World} {A A' : Nat → Prop} {n0 es : Nat} {ty : TypeId} {τ : List Ty} {xs : List (RowT τ)} {u : Value}
theorem OwnT.lt (h : OwnT w A n0 ty es τ xs u) {g : Nat} (hg : u.ownBlock = some g) : n0 ≤ g ∧ g < w.heap.size := by
  rcases h with ⟨rfl, _⟩ | ⟨g', cap, cur, rfl, h1, h2, _⟩
  · cases hg
  · cases hg; exact ⟨h1, h2.lt⟩
theorem OwnT.one (h : OwnT w A n0 ty es τ xs u) : u.oneCell' = true := by
  rcases h with ⟨rfl, _⟩ | ⟨g', cap, cur, rfl, _⟩ <;> rfl
theorem OwnT.form (h : OwnT w A n0 ty es τ xs u) : ∃ a c, u = .slice a (xs.length : Nat) c := by
  rcases h with ⟨rfl, rfl⟩ | ⟨g', cap, cur, rfl, _⟩ <;> exact ⟨_, _, rfl⟩
theorem OwnT.ev (h : OwnT w A n0 ty es τ xs u) {X : Nat → Prop} (hw : Ev w w' X) (hX : ∀ b, b < w.heap.size → X b → A b) (hA : ∀ b, b < w.heap.size → A' b → A b) (hg : ∀ g, u.ownBlock = some g → ¬ X g) : OwnT w' A' n0 ty es τ xs u := by
  rcases h with h | ⟨g, cap, cur, rfl, h1, h2, h3, h4, h5, h6⟩
  · exact .inl h
  · refine .inr ⟨g, cap, cur, rfl, h1, h2.ev hw (hg g rfl), h3, h4, h5, fun i x hx => ?_⟩
    obtain ⟨us, e1, e2, e3⟩ := h6 i x hx
    exact ⟨us, e1.ev hw hX hA, e2, e3⟩
theorem OwnT.mono (h : OwnT w A n0 ty es τ xs u) {n1 : Nat} (hn : n1 ≤ n0) : OwnT w A n1 ty es τ xs u := by
  rcases h with h | ⟨g, cap, cur, rfl, h1, h2⟩
  · exact .inl h
  · exact .inr ⟨g, cap, cur, rfl, Nat.le_trans hn h1, h2⟩
theorem OwnT.sl (h : OwnT w A n0 ty es τ xs u) (hes : es = τ.length) {X : Nat → Prop} (hX : ∀ g, u.ownBlock = some g → ¬ X g) : Sl w A X τ xs u := by
  rcases h with ⟨rfl, rfl⟩ | ⟨g, cap, cur, rfl, h1, h2, h3, h4, h5, h6⟩
  · exact Sl.nil none
  · subst hes
    have key : ∀ (l : List (RowT τ)) (k : Nat), (∀ (i : Nat) (x : RowT τ), l[i]? = some x → ∃ us, Rw w A τ x us ∧ us.length = τ.length ∧ ∀ (j : Nat) (v : Value), us[j]? = some v → cur[(k + i) * τ.length + j]? = some v) →
        ∃ rows, RowsV τ l rows ∧ (∀ row ∈ rows, row.length = τ.length) ∧ ∀ (i : Nat) (row : List V), rows[i]? = some row → ∀ (j : Nat) (x : V), row[j]? = some x → ∃ q, cur[(k + i) * τ.length + j]? = some q ∧ RelP w A x q := by
      intro l
      induction l with
      | nil => intro k _; exact ⟨[], trivial, fun r h => (by cases h), fun i row h => by simp at h⟩
      | cons x l ih =>
        intro k hl
        obtain ⟨us, e1, e2, e3⟩ := hl 0 x rfl
        obtain ⟨row, r1, r2⟩ := rw_to e1
        obtain ⟨rows, r3, r4, r5⟩ := ih (k + 1) (fun i y hy => by
          obtain ⟨us, e1, e2, e3⟩ := hl (i + 1) y (by simpa using hy)
          refine ⟨us, e1, e2, fun j v hv => ?_⟩
          rw [show k + 1 + i = k + (i + 1) by omega]
          exact e3 j v hv)
        refine ⟨row :: rows, ⟨r1, r3⟩, fun r hr => ?_, fun i rr hi j y hy => ?_⟩
        · rcases List.mem_cons.1 hr with rfl | hr
          · rw [rowV_len r1]
          · exact r4 r hr
        · cases i with
          | zero =>
            simp at hi
            subst hi
            obtain ⟨q, q1, q2⟩ := r2.get j y hy
            exact ⟨q, e3 j q q1, q2⟩
          | succ i =>
            obtain ⟨q, q1, q2⟩ := r5 i rr (by simpa using hi) j y hy
            exact ⟨q, by rw [show k + (i + 1) = k + 1 + i by omega]; exact q1, q2⟩
    obtain ⟨rows, r1, r2, r3⟩ := key xs 0 (fun i x hx => by simpa using h6 i x hx)
    have hl : xs.length = rows.length := r1.len
    refine ⟨rows, r1, .inr ⟨g, 0, cap, τ.length, fun i j => (cur[i * τ.length + j]?).getD undef, by rw [hl], by omega, fun _ => ⟨h2.lt, hX g rfl⟩, r2, fun i row hi j x hx => ?_, fun i row hi j x hx => ?_⟩⟩
    · obtain ⟨q, q1, q2⟩ := r3 i row hi j x hx
      rw [Nat.zero_add] at q1
      show w.cell? ⟨g, 0 + i * τ.length + j, none⟩ = some ((cur[i * τ.length + j]?).getD undef)
      rw [h2.cell, Nat.zero_add, q1]; rfl
    · obtain ⟨q, q1, q2⟩ := r3 i row hi j x hx
      rw [Nat.zero_add] at q1
      show RelP w A x ((cur[i * τ.length + j]?).getD undef)
      rw [q1]; exact q2
theorem OwnT.cl (h : OwnT w A n0 ty es τ xs u) (hes : es = τ.length) (hA : ∀ g, u.ownBlock = some g → ¬ A g) : Cl w A (.sl τ) xs u := cl_sl.2 (h.sl hes hA)
theorem OwnT.row (h : OwnT w A n0 ty es τ xs u) : ∃ cs, w.ownsRow n0 ty es u xs.length cs ∧ ∀ (i : Nat) (x : RowT τ), xs[i]? = some x → ∃ us, Rw w A τ x us ∧ us.length = es ∧ ∀ (j : Nat) (v : Value), us[j]? = some v → cs[i * es + j]? = some v := by
  rcases h with ⟨rfl, rfl⟩ | ⟨g, cap, cur, rfl, h1, h2, h3, h4, h5, h6⟩
  · exact ⟨[], World.ownsRow_nil w n0 ty es, fun i x h => by simp at h⟩
  · have hle : xs.length * es ≤ cur.size := by rw [h3]; exact Nat.mul_le_mul_right _ h4
    refine ⟨cur.toList.take (xs.length * es), ⟨by rw [List.length_take, Array.length_toList]; exact Nat.min_eq_left hle, .inr ⟨g, cap, cur, rfl, h1, h2, h4, h5, h3, rfl⟩⟩, fun i x hx => ?_⟩
    obtain ⟨us, e1, e2, e3⟩ := h6 i x hx
    refine ⟨us, e1, e2, fun j v hv => ?_⟩
    have hj : j < es := by rw [← e2]; exact (List.getElem?_eq_some_iff.1 hv).1
    have hi : i < xs.length := (List.getElem?_eq_some_iff.1 hx).1
    have hb : i * es + j < xs.length * es := by
      have h7 : (i + 1) * es ≤ xs.length * es := Nat.mul_le_mul_right _ hi
      rw [Nat.succ_mul] at h7; omega
    rw [List.getElem?_take, if_pos hb, Array.getElem?_toList]
    exact e3 j v hv
theorem OwnT.of_row {cs : List Value} (h : w.ownsRow n0 ty es u xs.length cs) (hc : ∀ (i : Nat) (x : RowT τ), xs[i]? = some x → ∃ us, Rw w A τ x us ∧ us.length = es ∧ ∀ (j : Nat) (v : Value), us[j]? = some v → cs[i * es + j]? = some v) : OwnT w A n0 ty es τ xs u := by
  obtain ⟨h0, h1⟩ := h
  rcases h1 with ⟨rfl, h2⟩ | ⟨g, cap, cur, rfl, h2, h3, h4, h5, h6, h7⟩
  · exact .inl ⟨rfl, List.length_eq_zero_iff.1 h2⟩
  · refine .inr ⟨g, cap, cur, rfl, h2, h3, h6, h4, h5, fun i x hx => ?_⟩
    obtain ⟨us, e1, e2, e3⟩ := hc i x hx
    refine ⟨us, e1, e2, fun j v hv => ?_⟩
    have := e3 j v hv
    rw [← h7, List.getElem?_take] at this
    split at this
    · simpa using this
    · cases this
theorem OwnT.app {P : Program} {t : TypeId} {i0 : TypeInfo} {z : Value} {bytes : Nat} (ht : P.underlying t = some (.slice ty)) (hi : P.info? ty = some i0) (hz : i0.zero = some z) (hsize : i0.size = es) (hby : i0.bytes = bytes) (hzs : z.cells.size = es) (hsz : 0 < es)
    (h : OwnT w A n0 ty es τ xs u) {x : RowT τ} {us : List Value} (hx : Rw w A τ x us) (hl : us.length = es) {bx off c : Nat} (hb : ∀ (j : Nat) (v : Value), us[j]? = some v → w.cell? ⟨bx, off + j, none⟩ = some v)
    (hm : xs.length + 1 ≤ maxLen) (hbytes : (xs.length + 1) * bytes ≤ 140737488355328) (hn : n0 ≤ w.heap.size) (hA : ∀ g, u.ownBlock = some g → A g) :
    ∃ g cap w', (Builtin.append_ #[t, t] t #[u, .slice (some ⟨bx, off, none⟩) 1 c]).run P w = .ok (.slice (some ⟨g, 0, none⟩) (xs.length + 1) cap) w' ∧ (∀ A' : Nat → Prop, (∀ b, b < w.heap.size → A' b → A b) → OwnT w' A' n0 ty es τ (xs ++ [x]) (.slice (some ⟨g, 0, none⟩) (xs.length + 1) cap)) ∧
      Ev w w' (fun b => u.ownBlock = some b) ∧ (u.ownBlock = some g ∨ g = w.heap.size) := by
  obtain ⟨cs, h1, h2⟩ := h.row
  obtain ⟨g, cap, w', hr, hown, hgrow, hat, hlt⟩ := run_append_lies (P := P) w t t n0 ty i0 z es bytes ht hi hz hsize hby hzs hsz u xs.length cs h1 ⟨bx, off, none⟩ 1 c us (by omega) (fun j v hv => by rw [Addr.add_mid]; exact hb j v hv) hx.one (by omega) hm hbytes hn w.heap.size rfl
  have hev : Ev w w' (fun b => u.ownBlock = some b) := ⟨hgrow.os, hgrow.tape, hgrow.output, hgrow.size, fun k hk hne => hgrow.block k hk (fun e => hne e.symm)⟩
  refine ⟨g, cap, w', hr, fun A' hAA => ?_, hev, hat⟩
  have hown' : w'.ownsRow n0 ty es (.slice (some ⟨g, 0, none⟩) (xs.length + 1) cap) (xs ++ [x]).length (cs ++ us) := by simpa using hown
  have hfin := OwnT.of_row (A := A') hown' (fun i y hy => ?_)
  · exact hfin
  · have hcl : cs.length = xs.length * es := h1.1
    by_cases hi : i < xs.length
    · rw [List.getElem?_append_left hi] at hy
      obtain ⟨us', e1, e2, e3⟩ := h2 i y hy
      refine ⟨us', e1.ev hev (fun b _ hb => hA b hb) hAA, e2, fun j v hv => ?_⟩
      have := e3 j v hv
      rw [List.getElem?_append_left (List.getElem?_eq_some_iff.1 this).1]
      exact this
    · have hie : i = xs.length := by
        have := (List.getElem?_eq_some_iff.1 hy).1
        simp at this; omega
      subst hie
      simp at hy
      subst hy
      refine ⟨us, hx.ev hev (fun b _ hb => hA b hb) hAA, hl, fun j v hv => ?_⟩
      rw [List.getElem?_append_right (by omega), hcl, show xs.length * es + j - xs.length * es = j by omega]
      exact hv
end
/-! ### Results -/
def Rs (W : World) (A : Nat → Prop) (n0 : Nat) : (k : RK) → k.T → Value → Prop
  | .v t, x, u => Cl W A t x u
  | .g τ, x, u => ∃ us : Array Value, u = .agg us ∧ Rw W A τ x us.toList
  | .o ty es τ, l, u => OwnT W A n0 ty es τ l u ∧ ∀ g, u.ownBlock = some g → A g
def Rss1 (W : World) (A : Nat → Prop) (n0 : Nat) {B : Type} (f : B → Value → Prop) : (ks : List RK) → ResT.ResT1 B ks → List Value → Prop
  | [], x, us => ∃ u, us = [u] ∧ f x u
  | k :: ks, x, us => ∃ u r, us = u :: r ∧ f (Prod.fst x) u ∧ Rss1 W A n0 (Rs W A n0 k) ks (Prod.snd x) r
def Rss (W : World) (A : Nat → Prop) (n0 : Nat) : (ks : List RK) → ResT ks → List Value → Prop
  | [], _, us => us = []
  | k :: ks, x, us => Rss1 W A n0 (Rs W A n0 k) ks x us
section
variable {w w' : World} {A A' : Nat → Prop} {rds : List RD} {us : List Value} {β' : Nat → Option Nat}
theorem own_of {n0 : Nat} {H : Nat → Option Ob} {k : Nat} {ty es : Nat} {rows : List (List V)} (hob : H k = some ⟨ty, es, false, rows⟩) (obs : ObsOK ⟨w', A', H, β'⟩) (hn : ∀ b, β' k = some b → n0 ≤ b) {q : Value} (hq : RefAt ⟨w', A', H, β'⟩ ⟨ty, es, false, rows⟩ (β' k) rows.length q) :
    (∀ g, q.ownBlock = some g → A' g) ∧ ∀ (σ : List Ty) (xs : List (RowT σ)), RowsV σ xs rows → OwnT w' A' n0 ty es σ xs q := by
  have hok := obs.ok k _ hob
  simp only at hok
  have h1 := hq.2 rfl
  cases hb : β' k with
  | none =>
    rw [hb] at hok h1
    have h1 : q = .slice none 0 0 := h1
    have hok : rows = [] := hok
    subst h1; subst hok
    refine ⟨(fun g hg => by cases hg), fun σ xs hx => .inl ⟨rfl, ?_⟩⟩
    exact List.length_eq_zero_iff.1 (All2.len hx)
  | some b =>
    rw [hb] at hok h1
    obtain ⟨cap, cur, rfl, h2, h3, h4, h5⟩ := h1
    obtain ⟨ha, cur', h6, h7, h8, h9⟩ := hok
    simp only at h4 h6
    rw [h4] at h6
    cases h6
    refine ⟨(fun g hg => by cases hg; exact ha), fun σ xs hx => .inr ⟨b, cap, cur, by rw [show xs.length = rows.length from All2.len hx], hn b hb, h4, h5, by rw [show xs.length = rows.length from All2.len hx]; exact h2, h3, fun i x hxi => ?_⟩⟩
    obtain ⟨row, hr, hrv⟩ := All2.get hx i x hxi
    have h10 := h9 i row hr
    have key : ∀ (row : List V) (m : Nat), (∀ (j : Nat) (x : V), row[j]? = some x → ∃ v, cur[m + j]? = some v ∧ v.oneCell' = true ∧ Rel1 ⟨w', A', H, β'⟩ x v ∧ (false = false → RelP w' A' x v)) → ∃ us, All2 (RelP w' A') row us ∧ ∀ (j : Nat) (v : Value), us[j]? = some v → cur[m + j]? = some v := by
      intro row
      induction row with
      | nil => intro m _; exact ⟨[], trivial, fun j v h => by simp at h⟩
      | cons a row ih =>
        intro m hr
        obtain ⟨v, e1, _, _, e4⟩ := hr 0 a rfl
        obtain ⟨us, e5, e6⟩ := ih (m + 1) (fun j x hj => by
          obtain ⟨v, e1, e2⟩ := hr (j + 1) x (by simpa using hj)
          exact ⟨v, by rw [show m + 1 + j = m + (j + 1) by omega]; exact e1, e2⟩)
        refine ⟨v :: us, ⟨e4 rfl, e5⟩, fun j q hq => ?_⟩
        cases j with
        | zero => simp at hq; subst hq; exact e1
        | succ j => rw [show m + (j + 1) = m + 1 + j by omega]; exact e6 j q (by simpa using hq)
    obtain ⟨us, e1, e2⟩ := key row (i * es) h10
    have he : row.length = es := h7 row (List.mem_of_getElem? hr)
    exact ⟨us, rw_of hrv e1, by rw [← e1.len, he], e2⟩
theorem rs_of (h : PostR w A rds w' us β' A') {k : Nat} {rk : RK} {x : rk.T} {rd : RD} (hk : rds[k]? = some rd) (hv : ResV rk x rd) : ∃ u, us[k]? = some u ∧ Rs w' A' w.heap.size rk x u := by
  obtain ⟨u, hu, hr⟩ := h.rel k rd hk
  refine ⟨u, hu, ?_⟩
  cases rk with
  | v t =>
    obtain ⟨y, rfl, hy⟩ := hv
    refine ⟨y, hy, ?_⟩
    cases t with
    | int k => have := tyV_int.1 hy; subst this; exact hr
    | bool => have := tyV_bool.1 hy; subst this; exact hr
    | str => have := tyV_str.1 hy; subst this; exact hr
    | sl cs => rcases tyV_sl.1 hy with ⟨_, rfl⟩ | ⟨rows, rfl, _⟩ <;> exact hr
  | g τ =>
    obtain ⟨row, rfl, hy⟩ := hv
    have hr : Rel ⟨w', A', noH, noB⟩ (.agg row) u := hr
    exact ag_g ⟨.agg row, ⟨row, rfl, hy⟩, hr⟩
  | o ty es τ =>
    obtain ⟨rows, rfl, hy⟩ := hv
    have hob : rdH rds k = some ⟨ty, es, false, rows⟩ := by simp [rdH, hk, RD.ob]
    have h1 := own_of (n0 := w.heap.size) hob h.obs (fun b hb => h.own k _ b hob hb) (q := u) (hr _ hob)
    exact ⟨h1.2 τ x hy, h1.1⟩
theorem rss1_of (h : PostR w A rds w' us β' A') : ∀ (ks : List RK) {B : Type} (f : B → Value → Prop) (R : B → RD → Prop) (x : ResT.ResT1 B ks) (m : Nat), (∀ (x : B) (rd : RD) (k : Nat), rds[k]? = some rd → R x rd → ∃ u, us[k]? = some u ∧ f x u) → RessV1 R ks x (rds.drop m) → Rss1 w' A' w.heap.size f ks x (us.drop m)
  | [], B, f, R, x, m, hf, hr => by
    obtain ⟨rd, h1, h2⟩ := hr
    have hk : rds[m]? = some rd := by
      have := congrArg (fun l => l[0]?) h1
      simpa using this
    obtain ⟨u, h3, h4⟩ := hf x rd m hk h2
    refine ⟨u, ?_, h4⟩
    have hl : (us.drop m).length = 1 := by
      have := congrArg List.length h1
      rw [List.length_drop] at this ⊢
      rw [h.len]; simpa using this
    match hus : us.drop m, hl with
    | [v], _ =>
      have : us[m]? = some v := by
        have := congrArg (fun l => l[0]?) hus
        simpa using this
      rw [h3] at this
      cases this; rfl
  | k :: ks, B, f, R, x, m, hf, hr => by
    obtain ⟨rd, r, h1, h2, h3⟩ := hr
    have hk : rds[m]? = some rd := by
      have := congrArg (fun l => l[0]?) h1
      simpa using this
    have hr : r = rds.drop (m + 1) := by
      rw [← List.tail_drop, h1]; rfl
    subst hr
    obtain ⟨u, h4, h5⟩ := hf _ rd m hk h2
    refine ⟨u, us.drop (m + 1), ?_, h5, rss1_of h ks _ (ResV k) _ (m + 1) (fun x rd j hj hv => rs_of h hj hv) h3⟩
    have hm : m < us.length := (List.getElem?_eq_some_iff.1 h4).1
    rw [List.drop_eq_getElem_cons hm]
    rw [List.getElem?_eq_getElem hm] at h4
    cases h4; rfl
theorem rss_of (h : PostR w A rds w' us β' A') {ks : List RK} {x : ResT ks} (hr : RessV ks x rds) : Rss w' A' w.heap.size ks x us := by
  cases ks with
  | nil =>
    have hr : rds = [] := hr
    subst hr
    exact List.length_eq_zero_iff.1 h.len
  | cons k ks => exact rss1_of h ks _ (ResV k) x 0 (fun x rd j hj hv => rs_of h hj hv) hr
end
/-! ### Calls -/
theorem Hw.call {P : Program} {e : Ent} (h : e.Ok P) (a : ArgT e.ad) (hp : e.pre a = true) {w : World} {A : Nat → Prop} (hA : ∀ b, A b → b < w.heap.size) {us : Array Value} (ha : Ags w A e.ad a us.toList) :
    Calls P e.g us w fun en w' => ∃ us' A', en = .returned (packV us') ∧ Rss w' A' w.heap.size e.rk (e.fn a) us' ∧ (∀ b, A b → A' b) ∧ (∀ b, A' b → b < w'.heap.size) ∧ Below w.heap.size w w' := by
  obtain ⟨vs, h1, h2⟩ := ags_to ha
  refine ((h a hp vs h1).2 w A us hA (by have := h2.len; simpa using this.symm) (fun i x hx => ?_)).mono fun en w' h3 => ?_
  · obtain ⟨u, e1, e2⟩ := h2.get i x hx
    exact ⟨u, by simpa using e1, e2⟩
  · obtain ⟨rds, us', β', A', h4, rfl, h5⟩ := h3
    exact ⟨us', A', rfl, rss_of h5 h4, fun b hb => h5.a0 b (hA b hb) hb, h5.obs.lt, Ev.low h5.ev (fun _ h => h)⟩
theorem OwnT.lent {w : World} {A : Nat → Prop} {n0 es : Nat} {ty : TypeId} {τ : List Ty} {xs : List (RowT τ)} {u : Value} (h : OwnT w A n0 ty es τ xs u) (hes : es = τ.length) (hA : ∀ b, A b → b < w.heap.size) (hg : ∀ g, u.ownBlock = some g → A g) :
    ∃ rows, RowsV τ xs rows ∧ ObsOK ⟨w, A, lentH [⟨ty, es, false, rows⟩], fun _ => u.ownBlock⟩ ∧ Rel ⟨w, A, lentH [⟨ty, es, false, rows⟩], fun _ => u.ownBlock⟩ (.ref 500 rows.length) u := by
  have onl : ∀ (rows : List (List V)) o ob, lentH [⟨ty, es, false, rows⟩] o = some ob → o = 500 ∧ ob = ⟨ty, es, false, rows⟩ := fun rows o ob ho => by
    unfold lentH at ho
    by_cases h5 : 500 ≤ o
    · rw [if_pos h5] at ho
      obtain ⟨k, rfl⟩ : ∃ k, o = 500 + k := ⟨o - 500, by omega⟩
      rw [show 500 + k - 500 = k by omega] at ho
      cases k with
      | zero => exact ⟨rfl, by simpa using ho.symm⟩
      | succ k => simp at ho
    · rw [if_neg h5] at ho; cases ho
  rcases h with ⟨rfl, rfl⟩ | ⟨g, cap, cur, rfl, h1, h2, h3, h4, h5, h6⟩
  · refine ⟨[], trivial, ⟨fun o ob ho => ?_, fun o o' ob ob' b h1 h2 _ _ => by rw [(onl _ _ _ h1).1, (onl _ _ _ h2).1], hA⟩, fun ob ho => ?_⟩
    · obtain ⟨_, rfl⟩ := onl _ _ _ ho; rfl
    · obtain ⟨_, rfl⟩ := onl [] 500 ob ho
      exact ⟨Nat.le_refl _, fun _ => rfl⟩
  · subst hes
    have key : ∀ (l : List (RowT τ)) (k : Nat), (∀ (i : Nat) (x : RowT τ), l[i]? = some x → ∃ us, Rw w A τ x us ∧ us.length = τ.length ∧ ∀ (j : Nat) (v : Value), us[j]? = some v → cur[(k + i) * τ.length + j]? = some v) →
        ∃ rows, RowsV τ l rows ∧ (∀ row ∈ rows, row.length = τ.length) ∧ ∀ (i : Nat) (row : List V), rows[i]? = some row → ∀ (j : Nat) (x : V), row[j]? = some x → ∃ q, cur[(k + i) * τ.length + j]? = some q ∧ RelP w A x q := by
      intro l
      induction l with
      | nil => intro k _; exact ⟨[], trivial, fun r h => (by cases h), fun i row h => by simp at h⟩
      | cons x l ih =>
        intro k hl
        obtain ⟨us, e1, e2, e3⟩ := hl 0 x rfl
        obtain ⟨row, r1, r2⟩ := rw_to e1
        obtain ⟨rows, r3, r4, r5⟩ := ih (k + 1) (fun i y hy => by
          obtain ⟨us, e1, e2, e3⟩ := hl (i + 1) y (by simpa using hy)
          refine ⟨us, e1, e2, fun j v hv => ?_⟩
          rw [show k + 1 + i = k + (i + 1) by omega]
          exact e3 j v hv)
        refine ⟨row :: rows, ⟨r1, r3⟩, fun r hr => ?_, fun i rr hi j y hy => ?_⟩
        · rcases List.mem_cons.1 hr with rfl | hr
          · rw [rowV_len r1]
          · exact r4 r hr
        · cases i with
          | zero =>
            simp at hi
            subst hi
            obtain ⟨q, q1, q2⟩ := r2.get j y hy
            exact ⟨q, e3 j q q1, q2⟩
          | succ i =>
            obtain ⟨q, q1, q2⟩ := r5 i rr (by simpa using hi) j y hy
            exact ⟨q, by rw [show k + (i + 1) = k + 1 + i by omega]; exact q1, q2⟩
    obtain ⟨rows, r1, r2, r3⟩ := key xs 0 (fun i x hx => by simpa using h6 i x hx)
    have hl : xs.length = rows.length := r1.len
    refine ⟨rows, r1, ⟨fun o ob ho => ?_, fun o o' ob ob' b h1 h2 _ _ => by rw [(onl _ _ _ h1).1, (onl _ _ _ h2).1], hA⟩, fun ob ho => ?_⟩
    · obtain ⟨_, rfl⟩ := onl _ _ _ ho
      refine ⟨hg g rfl, cur, h2, r2, ?_, fun i row hi j x hx => ?_⟩
      · show rows.length * τ.length ≤ cur.size
        rw [h3, ← hl]; exact Nat.mul_le_mul_right _ h4
      · obtain ⟨q, q1, q2⟩ := r3 i row hi j x hx
        rw [Nat.zero_add] at q1
        exact ⟨q, q1, q2.oneCell, Rel1.of_relP q2, fun _ => q2⟩
    · obtain ⟨_, rfl⟩ := onl rows 500 ob ho
      refine ⟨Nat.le_refl _, fun _ => ⟨cap, cur, by rw [hl], by rw [← hl]; exact h4, h5, h2, h3⟩⟩
abbrev xs_len {α : Type} (l : List α) : Nat := l.length
theorem Hw.callL {P : Program} {e : EntL} (h : e.Ok P) (h2 : e.two = false) (hmv : e.mv = false) (hes : e.es = e.τ.length) (l : List (RowT e.τ)) (a : ArgT e.ad) (hp : e.pre l [] a = true) {w : World} {A : Nat → Prop} (hA : ∀ b, A b → b < w.heap.size) {n0 : Nat} {u : Value} (hu : OwnT w A n0 e.ty e.es e.τ l u) (hg : ∀ g, u.ownBlock = some g → A g)
    {us : List Value} (ha : ∃ vs, ArgsV e.ad a vs ∧ ∀ H β, All2 (Rel ⟨w, A, H, β⟩) vs us) :
    Calls P e.g (u :: us).toArray w fun en w' => ∃ us' A' β', en = .returned (packV us') ∧ (∃ rds, RessV e.rk (e.fn l [] a).1 rds ∧ us'.length = rds.length ∧ ∀ (k : Nat) (rd : RD), rds[k]? = some rd → ∃ q, us'[k]? = some q ∧ RelA ⟨w', A', rdH rds, β'⟩ (rd.val k) q) ∧ OwnT w' A' n0 e.ty e.es e.τ (e.fn l [] a).2 u ∧ (∀ b, A b → A' b) ∧ (∀ b, A' b → b < w'.heap.size) ∧ Ev w w' (fun b => u.ownBlock = some b) := by
  obtain ⟨rows, h3, h4, h5⟩ := hu.lent hes hA hg
  obtain ⟨vs, h6, h7⟩ := ha
  unfold EntL.Ok at h
  rw [if_neg (by rw [h2]; simp)] at h
  have hf := h l a hp rows vs h3 h6
  refine (hf.2 w A (fun _ => u.ownBlock) (u :: us).toArray h4 (by have := (h7 noH noB).len; simp [this]) (fun i x hx => ?_)).mono fun en w' hh => ?_
  · cases i with
    | zero => simp at hx; subst hx; exact ⟨u, rfl, h5⟩
    | succ i =>
      obtain ⟨q, q1, q2⟩ := (h7 (lentH [⟨e.ty, e.es, false, rows⟩]) (fun _ => u.ownBlock)).get i x (by simpa using hx)
      exact ⟨q, by simpa using q1, q2⟩
  · obtain ⟨rds, outs, us', β', A', hPd, rfl, hp⟩ := hh
    obtain ⟨k1, k2⟩ := hPd
    rw [if_neg (by rw [h2]; simp), if_neg (by rw [hmv]; simp)] at k2
    obtain ⟨rows', rfl, k3, k4⟩ := k2
    have ho : outO [⟨e.ty, e.es, false, rows⟩] [some rows'] 0 = some ⟨e.ty, e.es, false, rows'⟩ := rfl
    have hkp := hp.keep 0 _ _ rfl ho
    have hob : postH [⟨e.ty, e.es, false, rows⟩] rds [some rows'] 500 = some ⟨e.ty, e.es, false, rows'⟩ := by simp [postH, ho]
    refine ⟨us', A', β', rfl, ⟨rds, k1, hp.len, fun k rd hk => ?_⟩, ?_, fun b hb => hp.a0 b (hA b hb) hb, hp.obs.lt, hp.ev.mono fun b _ hb => ?_⟩
    · obtain ⟨q, q1, q2⟩ := hp.rel k rd hk
      refine ⟨q, q1, ?_⟩
      have hk5 : k < 500 := Nat.lt_of_lt_of_le (List.getElem?_eq_some_iff.1 hk).1 hp.small
      have key : ∀ (x : V) (q : Value), Rel1 ⟨w', A', postH [⟨e.ty, e.es, false, rows⟩] rds [some rows'], β'⟩ x q → (∀ o n, x = .ref o n → o < 500) → (∀ o n i j, x ≠ .ptr o n i j) → (∀ r, x ≠ .rd r) → (∀ r j, x ≠ .cp r j) → Rel1 ⟨w', A', rdH rds, β'⟩ x q := fun x q hx h1 h2 h3 h4 => by
        cases x with
        | ref o n =>
          intro ob hob
          have := h1 o n rfl
          exact hx ob (by simp only [postH, if_neg (show ¬ 500 ≤ o by omega)]; exact hob)
        | ptr o n i j => exact (h2 o n i j rfl).elim
        | rd r => exact (h3 r rfl).elim
        | cp r j => exact (h4 r j rfl).elim
        | _ => exact hx
      have hok := hf.1 rds _ ⟨k1, by rw [if_neg (by rw [h2]; simp), if_neg (by rw [hmv]; simp)]; exact ⟨rows', rfl, k3, k4⟩⟩ rd (List.mem_of_getElem? hk)
      cases rd with
      | v x =>
        cases x with
        | agg cs => exact q2
        | int _ _ => exact q2
        | bool _ => exact q2
        | str _ => exact q2
        | nil => exact q2
        | sl _ => exact q2
        | raw _ => exact q2
        | _ => simp [RD.ok, V.pure] at hok
      | o ty es rows2 =>
        intro ob hob2
        exact q2 ob (by simp only [postH, if_neg (show ¬ 500 ≤ k by omega)]; exact hob2)
    · have hlen : xs_len (e.fn l [] a).2 = rows'.length := All2.len k3
      have hl0 : xs_len l = rows.length := All2.len h3
      rcases hu with ⟨rfl, rfl⟩ | ⟨g, cap, cur, rfl, g1, g2, g3, g4, g5, g6⟩
      · left
        refine ⟨rfl, ?_⟩
        have h8 : rows.length = 0 := hl0.symm
        exact List.length_eq_zero_iff.1 (hlen.trans (k4.trans h8))
      · have hbeta : β' 500 = some g := by have := hkp.2.1; exact this
        obtain ⟨cur', c1, c2⟩ := hkp.2.2 g cur rfl g2
        have hq : RefAt ⟨w', A', postH [⟨e.ty, e.es, false, rows⟩] rds [some rows'], β'⟩ ⟨e.ty, e.es, false, rows'⟩ (β' 500) rows'.length (.slice (some ⟨g, 0, none⟩) (l.length : Nat) cap) := by
          refine ⟨Nat.le_refl _, fun _ => ?_⟩
          rw [hbeta]
          have h9 : l.length = rows.length := hl0
          exact ⟨cap, cur', by rw [k4, h9], by rw [k4, ← h9]; exact g4, g5, c1, by rw [c2]; exact g3⟩
        exact (own_of (n0 := n0) hob hp.obs (fun b hb => by rw [hbeta] at hb; cases hb; exact g1) hq).2 _ _ k3
    · obtain ⟨i, ob, hi, hb⟩ := hb
      exact hb
end Go.AL

