/-
  THE CLOSED RUN, FIRST PART: a tree for the names; values whose blocks are names; how they stand for the machine's values and world. No program in sight. By an AI agent.
-/
import Derived.WalkKit
import Derived.Deep.MidRow
import Derived.ArgAppend
import Derived.MapFrom
import Derived.Laws.MakeOwn
import Derived.Great.BuildSlice
import Derived.Test.YtbhnmholmpdmeaaGreatAlSound
namespace Go.CX
set_option linter.unusedVariables false
set_option linter.unusedSimpArgs false
set_option linter.unusedSectionVars false

inductive Tr (α : Type) where
  | leaf : Tr α
  | node (l : Tr α) (v : Option α) (r : Tr α) : Tr α

def Tr.get {α : Type} : Tr α → Nat → Option α
  | .leaf, _ => none
  | .node l v r, n => bif Nat.beq n 0 then v else bif Nat.beq (n % 2) 1 then l.get (n / 2) else r.get (n / 2 - 1)

def Tr.ins {α : Type} : Nat → Tr α → Nat → Option α → Tr α
  | 0, t, _, v => match t with
    | .leaf => .node .leaf v .leaf
    | .node l _ r => .node l v r
  | k + 1, t, n, v => match t with
    | .leaf => bif Nat.beq n 0 then .node .leaf v .leaf else bif Nat.beq (n % 2) 1 then .node (ins k .leaf (n / 2) v) none .leaf else .node .leaf none (ins k .leaf (n / 2 - 1) v)
    | .node l u r => bif Nat.beq n 0 then .node l v r else bif Nat.beq (n % 2) 1 then .node (ins k l (n / 2) v) u r else .node l u (ins k r (n / 2 - 1) v)

def Tr.put {α : Type} (t : Tr α) (n : Nat) (v : Option α) : Tr α := t.ins n n v

theorem beq_cases (n m : Nat) : (Nat.beq n m = true ∧ n = m) ∨ (Nat.beq n m = false ∧ n ≠ m) := by
  by_cases h : n = m
  · exact .inl ⟨Nat.beq_eq.symm ▸ h, h⟩
  · refine .inr ⟨?_, h⟩
    cases hb : Nat.beq n m with
    | false => rfl
    | true => exact absurd (Nat.eq_of_beq_eq_true hb) h

theorem Tr.get_leaf {α : Type} (n : Nat) : (Tr.leaf : Tr α).get n = none := rfl

theorem Tr.get_node {α : Type} (l : Tr α) (v : Option α) (r : Tr α) (n : Nat) :
    (Tr.node l v r).get n = if n = 0 then v else if n % 2 = 1 then l.get (n / 2) else r.get (n / 2 - 1) := by
  rcases beq_cases n 0 with ⟨h, e⟩ | ⟨h, e⟩ <;> rcases beq_cases (n % 2) 1 with ⟨h2, e2⟩ | ⟨h2, e2⟩ <;> simp [Tr.get, h, h2, e, e2]

theorem Tr.get_ins {α : Type} : ∀ (k : Nat) (t : Tr α) (n : Nat) (v : Option α) (m : Nat), n ≤ k → (t.ins k n v).get m = if m = n then v else t.get m := by
  intro k
  induction k with
  | zero =>
    intro t n v m hn
    have : n = 0 := by omega
    subst this
    cases t with
    | leaf => simp only [Tr.ins, Tr.get_node, Tr.get_leaf]; by_cases h : m = 0 <;> simp [h]
    | node l u r => simp only [Tr.ins, Tr.get_node]; by_cases h : m = 0 <;> simp [h]
  | succ k ih =>
    intro t n v m hn
    have main : ∀ (l r : Tr α) (u : Option α), (bif Nat.beq n 0 then Tr.node l v r else bif Nat.beq (n % 2) 1 then .node (l.ins k (n / 2) v) u r else .node l u (r.ins k (n / 2 - 1) v)).get m
        = if m = n then v else (Tr.node l u r).get m := by
      intro l r u
      rcases beq_cases n 0 with ⟨h, e⟩ | ⟨h, e⟩
      · simp only [h, cond_true, Tr.get_node]
        subst e
        by_cases hm : m = 0 <;> simp [hm]
      · rcases beq_cases (n % 2) 1 with ⟨h2, e2⟩ | ⟨h2, e2⟩
        · simp only [h, h2, cond_true, cond_false, Tr.get_node, ih _ _ _ _ (show n / 2 ≤ k by omega)]
          by_cases hm : m = n
          · subst hm; simp [e, e2]
          · by_cases hm0 : m = 0
            · simp [hm0, hm]; intro h0; omega
            · by_cases hm2 : m % 2 = 1
              · simp only [hm0, hm, hm2, if_false, if_true]
                rw [if_neg (by omega)]
              · simp [hm0, hm, hm2]
        · simp only [h, h2, cond_true, cond_false, Tr.get_node, ih _ _ _ _ (show n / 2 - 1 ≤ k by omega)]
          by_cases hm : m = n
          · subst hm; simp [e, e2]
          · by_cases hm0 : m = 0
            · simp [hm0, hm]; intro h0; omega
            · by_cases hm2 : m % 2 = 1
              · simp [hm0, hm, hm2]
              · simp only [hm0, hm, hm2, if_false]
                rw [if_neg (by omega)]
    cases t with
    | leaf =>
      have := main .leaf .leaf none
      simp only [Tr.ins]
      rw [this]
      have : (Tr.node Tr.leaf none Tr.leaf : Tr α).get m = Tr.leaf.get m := by simp [Tr.get_node, Tr.get_leaf]
      rw [this]
    | node l u r => exact main l r u

theorem Tr.get_put {α : Type} (t : Tr α) (n : Nat) (v : Option α) (m : Nat) : (t.put n v).get m = if m = n then v else t.get m := Tr.get_ins n t n v m (Nat.le_refl n)

/-! ### Values -/
structure Nm where
  b : Nat
  d : Nat
  es : Nat
  tot : Nat
abbrev Be := Nat → Option Nm

def atomC : Value → Bool
  | .bool _ | .int _ _ | .string _ | .pointer none | .slice none _ _ | .map none | .chan none | .nilFunc | .nilIface => true
  | _ => false

inductive VR (β : Be) : Value → Value → Prop
  | same (v : Value) (h : atomC v = true) : VR β v v
  | ptr {i o : Nat} {m : Nm} (hb : β i = some m) : VR β (.pointer (some ⟨i, o, none⟩)) (.pointer (some ⟨m.b, o + m.d, none⟩))
  | sl {i o len c c' : Nat} {m : Nm} (hb : β i = some m) (hc : (c % 2 = 0 ∧ c' = c / 2) ∨ (c % 2 = 1 ∧ c / 2 ≤ c' ∧ o + m.d + c' * m.es = m.tot)) :
      VR β (.slice (some ⟨i, o, none⟩) len c) (.slice (some ⟨m.b, o + m.d, none⟩) len c')
  | sl0 {i o b' o' c : Nat} (hc : c / 2 = 0) : VR β (.slice (some ⟨i, o, none⟩) 0 c) (.slice (some ⟨b', o', none⟩) 0 0)
  | map {r : Nat} {m : Nm} (hb : β r = some m) : VR β (.map (some r)) (.map (some m.b))
  | fn (f : Fn) (A B A' B' : Array Value) (hA : A.size = A'.size) (hB : B.size = B'.size) (h1 : ∀ (i : Nat) (v v' : Value), A[i]? = some v → A'[i]? = some v' → VR β v v')
      (h2 : ∀ (i : Nat) (v v' : Value), B[i]? = some v → B'[i]? = some v' → VR β v v') : VR β (.func f A B) (.func f A' B')
  | agg (A A' : Array Value) (hA : A.size = A'.size) (h1 : ∀ (i : Nat) (v v' : Value), A[i]? = some v → A'[i]? = some v' → VR β v v') : VR β (.agg A) (.agg A')
  | tup (A A' : Array Value) (hA : A.size = A'.size) (h1 : ∀ (i : Nat) (v v' : Value), A[i]? = some v → A'[i]? = some v' → VR β v v') : VR β (.tuple A) (.tuple A')

def Sub (β β' : Be) : Prop := ∀ i m, β i = some m → β' i = some m
theorem Sub.refl (β : Be) : Sub β β := fun _ _ h => h
theorem Sub.trans {a b c : Be} (h : Sub a b) (h' : Sub b c) : Sub a c := fun i m hm => h' i m (h i m hm)

theorem VR.mono {β β' : Be} (hs : Sub β β') {v v' : Value} (h : VR β v v') : VR β' v v' := by
  induction h with
  | same v h => exact .same v h
  | ptr hb => exact .ptr (hs _ _ hb)
  | sl hb hc => exact .sl (hs _ _ hb) hc
  | sl0 hc => exact .sl0 hc
  | map hb => exact .map (hs _ _ hb)
  | fn f A B A' B' hA hB _ _ i1 i2 => exact .fn f A B A' B' hA hB i1 i2
  | agg A A' hA _ i1 => exact .agg A A' hA i1
  | tup A A' hA _ i1 => exact .tup A A' hA i1

def VL (β : Be) (l l' : List Value) : Prop := l.length = l'.length ∧ ∀ (i : Nat) (v v' : Value), l[i]? = some v → l'[i]? = some v' → VR β v v'
theorem VL.mono {β β' : Be} (hs : Sub β β') {l l' : List Value} (h : VL β l l') : VL β' l l' := ⟨h.1, fun i v v' a b => (h.2 i v v' a b).mono hs⟩
theorem VL.get {β : Be} {l l' : List Value} (h : VL β l l') {i : Nat} {v : Value} (hv : l[i]? = some v) : ∃ v', l'[i]? = some v' ∧ VR β v v' := by
  have hlt := (List.getElem?_eq_some_iff.1 hv).1
  have hl' : i < l'.length := by rw [← h.1]; exact hlt
  exact ⟨l'[i], List.getElem?_eq_getElem hl', h.2 i v _ hv (List.getElem?_eq_getElem hl')⟩
theorem VL.nil {β : Be} : VL β [] [] := ⟨rfl, fun i v v' h => by simp at h⟩
theorem VL.cons {β : Be} {x y : Value} {l l' : List Value} (h : VR β x y) (hl : VL β l l') : VL β (x :: l) (y :: l') := by
  refine ⟨by simp [hl.1], fun i v v' h1 h2 => ?_⟩
  cases i with
  | zero => simp at h1 h2; subst h1; subst h2; exact h
  | succ i => exact hl.2 i v v' (by simpa using h1) (by simpa using h2)
theorem VL.uncons {β : Be} {x y : Value} {l l' : List Value} (h : VL β (x :: l) (y :: l')) : VR β x y ∧ VL β l l' :=
  ⟨h.2 0 x y rfl rfl, ⟨by simpa using h.1, fun i v v' h1 h2 => h.2 (i + 1) v v' (by simpa using h1) (by simpa using h2)⟩⟩
theorem VL.append {β : Be} {l l' k k' : List Value} (h : VL β l l') (hk : VL β k k') : VL β (l ++ k) (l' ++ k') := by
  induction l generalizing l' with
  | nil => cases l' with
    | nil => simpa using hk
    | cons _ _ => simp [VL] at h
  | cons x l ih => cases l' with
    | nil => simp [VL] at h
    | cons y l' => obtain ⟨h1, h2⟩ := h.uncons; exact .cons h1 (ih h2)
theorem VL.take {β : Be} {l l' : List Value} (h : VL β l l') (n : Nat) : VL β (l.take n) (l'.take n) := by
  refine ⟨by simp [h.1], fun i v v' h1 h2 => ?_⟩
  rw [List.getElem?_take] at h1 h2
  split at h1 <;> simp_all
  exact h.2 i v v' h1 h2
theorem VL.drop {β : Be} {l l' : List Value} (h : VL β l l') (n : Nat) : VL β (l.drop n) (l'.drop n) := by
  refine ⟨by simp [h.1], fun i v v' h1 h2 => ?_⟩
  rw [List.getElem?_drop] at h1 h2
  exact h.2 _ v v' h1 h2
theorem VL.same {β : Be} : ∀ {l : List Value}, l.all atomC = true → VL β l l
  | [], _ => .nil
  | x :: l, h => by simp only [List.all_cons, Bool.and_eq_true] at h; exact .cons (.same x h.1) (VL.same h.2)

theorem VR.one {β : Be} {v v' : Value} (h : VR β v v') : v'.oneCell' = v.oneCell' := by cases h <;> rfl
theorem VR.cells {β : Be} {v v' : Value} (h : VR β v v') : VL β v.cells.toList v'.cells.toList := by
  have one : ∀ {x y : Value}, VR β x y → VL β [x] [y] := fun h => .cons h .nil
  cases h with
  | same v h => cases v <;> first | exact one (.same _ h) | (simp [atomC] at h; done)
  | agg A A' hA h1 => exact ⟨by simpa [Value.cells] using hA, fun i v v' a b => h1 i v v' (by simpa [Value.cells] using a) (by simpa [Value.cells] using b)⟩
  | ptr hb => exact one (.ptr hb)
  | sl hb hc => exact one (.sl hb hc)
  | sl0 hc => exact one (.sl0 hc)
  | map hb => exact one (.map hb)
  | fn f A B A' B' hA hB h1 h2 => exact one (.fn f A B A' B' hA hB h1 h2)
  | tup A A' hA h1 => exact one (.tup A A' hA h1)
theorem VR.ofCells {β : Be} {l l' : List Value} (h : VL β l l') : VR β (.agg l.toArray) (.agg l'.toArray) :=
  .agg _ _ (by simpa using h.1) fun i v v' a b => h.2 i v v' (by simpa using a) (by simpa using b)
theorem VR.aggL {β : Be} {A : Array Value} {v' : Value} (h : VR β (.agg A) v') : ∃ A', v' = .agg A' ∧ VL β A.toList A'.toList := by
  cases h with
  | same _ h => simp [atomC] at h
  | agg _ A' hA h1 => exact ⟨A', rfl, by simpa using hA, fun i v v' a b => h1 i v v' (by simpa using a) (by simpa using b)⟩

def cln : Value → Bool
  | .agg A => A.toList.all atomC
  | v => atomC v
theorem cln_eq {β : Be} {v v' : Value} (hc : cln v = true) (h : VR β v v') : v' = v := by
  have one : ∀ {x y : Value}, atomC x = true → VR β x y → y = x := by
    intro x y hx hxy
    cases hxy <;> first | rfl | (simp [atomC] at hx; done)
  cases v with
  | agg A =>
    obtain ⟨A', rfl, h1, h2⟩ := h.aggL
    have hc' : A.toList.all atomC = true := hc
    congr 1
    apply Array.toList_inj.1
    apply List.ext_getElem?
    intro i
    cases hi : A.toList[i]? with
    | none => rw [List.getElem?_eq_none_iff] at hi ⊢; omega
    | some v =>
      obtain ⟨y, h3, h4⟩ := VL.get ⟨h1, h2⟩ hi
      rw [h3, one (List.all_eq_true.1 hc' v (List.mem_of_getElem? hi)) h4]
  | _ => exact one hc h
theorem VR.cln {β : Be} {v : Value} (hc : CX.cln v = true) : VR β v v := by
  cases v with
  | agg A => have := VR.ofCells (VL.same (β := β) (l := A.toList) hc); simpa using this
  | _ => exact .same _ hc

/-! ### The heap -/
inductive AO where
  | row (cs : List Value) (e : TypeId)
  | mp (es : List MapEntry) (clock : Nat)
structure Hp where
  t : Tr AO
  n : Nat

def szOf (P : Program) (t : TypeId) : Nat := ((P.info? t).map (·.size)).getD 0

def EL (β : Be) : List MapEntry → List MapEntry → Prop
  | [], [] => True
  | x :: l, y :: l' => y.key = x.key ∧ y.born = x.born ∧ cln x.key = true ∧ VR β x.val y.val ∧ EL β l l'
  | _, _ => False
theorem EL.mono {β β' : Be} (hs : Sub β β') : ∀ {l l' : List MapEntry}, EL β l l' → EL β' l l'
  | [], [], _ => trivial
  | _ :: _, _ :: _, ⟨a, b, c, d, e⟩ => ⟨a, b, c, d.mono hs, EL.mono hs e⟩
  | [], _ :: _, h => h.elim
  | _ :: _, [], h => h.elim

def OR (P : Program) (β : Be) (o : AO) (m : Nm) (w : World) : Prop := match o with
  | .row cs e => ∃ cur, w.heap[m.b]? = some (.cells cur e (0, 0)) ∧ cur.size = m.tot ∧ m.es = szOf P e ∧
      ∀ (k : Nat) (v : Value), cs[k]? = some v → ∃ v', cur[m.d + k]? = some v' ∧ v'.oneCell' = true ∧ VR β v v'
  | .mp es clock => ∃ es', w.heap[m.b]? = some (.map es' clock) ∧ EL β es es'.toList

theorem OR.mono {P : Program} {β β' : Be} (hs : Sub β β') {o : AO} {m : Nm} {w w' : World} (hw : w'.heap[m.b]? = w.heap[m.b]?) (h : OR P β o m w) : OR P β' o m w' := by
  cases o with
  | row cs e =>
    obtain ⟨cur, h1, h2, h3, h4⟩ := h
    exact ⟨cur, by rw [hw]; exact h1, h2, h3, fun k v hv => let ⟨v', a, b, c⟩ := h4 k v hv; ⟨v', a, b, c.mono hs⟩⟩
  | mp es clock =>
    obtain ⟨es', h1, h2⟩ := h
    exact ⟨es', by rw [hw]; exact h1, h2.mono hs⟩

structure WR (P : Program) (w0 : World) (β : Be) (h : Hp) (w : World) : Prop where
  os : w.os = w0.os
  out : w.output = w0.output
  tape : w.tape = w0.tape
  size : w0.heap.size ≤ w.heap.size
  old : ∀ b, b < w0.heap.size → w.heap[b]? = w0.heap[b]?
  dom : ∀ i m, β i = some m → w0.heap.size ≤ m.b ∧ m.b < w.heap.size
  ok : ∀ i o m, h.t.get i = some o → β i = some m → OR P β o m w
  inj : ∀ i j o o' m m', h.t.get i = some o → h.t.get j = some o' → β i = some m → β j = some m' → m.b = m'.b → i = j

structure Post (P : Program) (w0 : World) (β : Be) (h : Hp) (w : World) (β' : Be) (h' : Hp) (w' : World) : Prop where
  wr : WR P w0 β' h' w'
  sub : Sub β β'
  out : ∀ i, (i < h.n ∨ h'.n ≤ i) → β' i = β i
  le : h.n ≤ h'.n
  fr : ∀ b, b < w.heap.size → (∀ i o m, h.t.get i = some o → β i = some m → m.b ≠ b) → w'.heap[b]? = w.heap[b]?
  fresh : ∀ i o m, h'.t.get i = some o → β' i = some m → m.b < w.heap.size → ∃ j o' m', h.t.get j = some o' ∧ β j = some m' ∧ m'.b = m.b
  sz : w.heap.size ≤ w'.heap.size

theorem Post.refl {P : Program} {w0 : World} {β : Be} {h : Hp} {w : World} (W : WR P w0 β h w) : Post P w0 β h w β h w :=
  ⟨W, Sub.refl β, fun _ _ => rfl, Nat.le_refl _, fun _ _ _ => rfl, fun i o m h1 h2 _ => ⟨i, o, m, h1, h2, rfl⟩, Nat.le_refl _⟩

theorem Post.trans {P : Program} {w0 : World} {β β1 β2 : Be} {h h1 h2 : Hp} {w w1 w2 : World} (a : Post P w0 β h w β1 h1 w1) (b : Post P w0 β1 h1 w1 β2 h2 w2) : Post P w0 β h w β2 h2 w2 where
  wr := b.wr
  sub := a.sub.trans b.sub
  out i hi := by
    have h1 := a.le
    have h2 := b.le
    rw [b.out i (by omega), a.out i (by omega)]
  le := Nat.le_trans a.le b.le
  fr x hx hn := by
    rw [b.fr x (Nat.lt_of_lt_of_le hx a.sz) (fun i o m hi hm hmb => ?_), a.fr x hx hn]
    obtain ⟨j, o', m', q1, q2, q3⟩ := a.fresh i o m hi hm (by omega)
    exact hn j o' m' q1 q2 (by omega)
  fresh i o m hi hm hlt := by
    obtain ⟨j, o', m', q1, q2, q3⟩ := b.fresh i o m hi hm (Nat.lt_of_lt_of_le hlt a.sz)
    obtain ⟨k, o2, m2, r1, r2, r3⟩ := a.fresh j o' m' q1 q2 (by omega)
    exact ⟨k, o2, m2, r1, r2, by omega⟩
  sz := Nat.le_trans a.sz b.sz

def Be.set (β : Be) (i : Nat) (m : Nm) : Be := fun j => if j = i then some m else β j
theorem Be.sub_set {β : Be} {i : Nat} {m : Nm} (h : β i = none) : Sub β (β.set i m) := fun j m' hj => by
  unfold Be.set
  by_cases e : j = i
  · subst e; rw [h] at hj; cases hj
  · rw [if_neg e]; exact hj
theorem Be.set_same {β : Be} {i : Nat} {m : Nm} : β.set i m i = some m := by simp [Be.set]

section
variable {P : Program} {w0 : World} {β : Be} {h : Hp} {w : World}

theorem WR.drew (W : WR P w0 β h w) (k : Nat) : WR P w0 β h { w with drawn := k } :=
  ⟨W.os, W.out, W.tape, W.size, W.old, W.dom, fun i o m h1 h2 => (W.ok i o m h1 h2).mono (Sub.refl β) rfl, W.inj⟩

theorem WR.new (W : WR P w0 β h w) (hn : β h.n = none) {w' : World} {o : AO} {m : Nm} (hos : w'.os = w.os) (hout : w'.output = w.output) (htp : w'.tape = w.tape)
    (hold : ∀ b, b < w.heap.size → w'.heap[b]? = w.heap[b]?) (hb : w.heap.size ≤ m.b) (hb' : m.b < w'.heap.size) (ho : OR P (β.set h.n m) o m w') :
    Post P w0 β h w (β.set h.n m) ⟨h.t.put h.n (some o), h.n + 1⟩ w' := by
  have hs : Sub β (β.set h.n m) := Be.sub_set hn
  have hsz : w.heap.size ≤ w'.heap.size := by omega
  have hget : ∀ i o', (h.t.put h.n (some o)).get i = some o' → (i = h.n ∧ o' = o) ∨ (i ≠ h.n ∧ h.t.get i = some o') := by
    intro i o' hi
    rw [Tr.get_put] at hi
    by_cases e : i = h.n
    · rw [if_pos e] at hi; cases hi; exact .inl ⟨e, rfl⟩
    · rw [if_neg e] at hi; exact .inr ⟨e, hi⟩
  have hbe : ∀ i m', i ≠ h.n → β.set h.n m i = some m' → β i = some m' := by
    intro i m' e hi
    simpa [Be.set, e] using hi
  refine ⟨⟨by rw [hos, W.os], by rw [hout, W.out], by rw [htp, W.tape], Nat.le_trans W.size hsz, fun b hb => ?_, fun i m' hi => ?_, fun i o' m' hi hm => ?_, fun i j o1 o2 m1 m2 h1 h2 h3 h4 h5 => ?_⟩,
    hs, fun i hi => ?_, by show h.n ≤ h.n + 1; omega, fun b hb _ => hold b hb, fun i o' m' hi hm hlt => ?_, hsz⟩
  · rw [hold b (Nat.lt_of_lt_of_le hb W.size), W.old b hb]
  · by_cases e : i = h.n
    · subst e; rw [Be.set_same] at hi; cases hi
      exact ⟨Nat.le_trans W.size hb, hb'⟩
    · have := W.dom i m' (hbe i m' e hi)
      omega
  · rcases hget i o' hi with ⟨e, e2⟩ | ⟨e, e2⟩
    · subst e; subst e2; rw [Be.set_same] at hm; cases hm; exact ho
    · have h1 := hbe i m' e hm
      exact (W.ok i o' m' e2 h1).mono hs (hold _ (W.dom i m' h1).2)
  · rcases hget i o1 h1 with ⟨e, _⟩ | ⟨e, e2⟩ <;> rcases hget j o2 h2 with ⟨f, _⟩ | ⟨f, f2⟩
    · rw [e, f]
    · have q := W.dom j m2 (hbe j m2 f h4)
      rw [e, Be.set_same] at h3; cases h3
      omega
    · have q := W.dom i m1 (hbe i m1 e h3)
      rw [f, Be.set_same] at h4; cases h4
      omega
    · exact W.inj i j o1 o2 m1 m2 e2 f2 (hbe i m1 e h3) (hbe j m2 f h4) h5
  · have : i ≠ h.n := by
      rcases hi with hi | hi
      · omega
      · simp only at hi; omega
    simp [Be.set, this]
  · rcases hget i o' hi with ⟨e, _⟩ | ⟨e, e2⟩
    · subst e; rw [Be.set_same] at hm; cases hm; omega
    · exact ⟨i, o', m', e2, hbe i m' e hm, rfl⟩

theorem WR.upd (W : WR P w0 β h w) {i : Nat} {o o' : AO} {m : Nm} (hi : h.t.get i = some o) (hm : β i = some m) {w' : World} (hos : w'.os = w.os) (hout : w'.output = w.output) (htp : w'.tape = w.tape)
    (hold : ∀ b, b ≠ m.b → w'.heap[b]? = w.heap[b]?) (hsz : w'.heap.size = w.heap.size) (ho : OR P β o' m w') :
    Post P w0 β h w β ⟨h.t.put i (some o'), h.n⟩ w' := by
  have hget : ∀ j x, (h.t.put i (some o')).get j = some x → (j = i ∧ x = o') ∨ (j ≠ i ∧ h.t.get j = some x) := by
    intro j x hj
    rw [Tr.get_put] at hj
    by_cases e : j = i
    · rw [if_pos e] at hj; cases hj; exact .inl ⟨e, rfl⟩
    · rw [if_neg e] at hj; exact .inr ⟨e, hj⟩
  have hlive : ∀ j x, (h.t.put i (some o')).get j = some x → ∃ y, h.t.get j = some y := by
    intro j x hj
    rcases hget j x hj with ⟨e, _⟩ | ⟨_, e⟩
    · subst e; exact ⟨o, hi⟩
    · exact ⟨x, e⟩
  have hmd := W.dom i m hm
  refine ⟨⟨by rw [hos, W.os], by rw [hout, W.out], by rw [htp, W.tape], by rw [hsz]; exact W.size, fun b hb => ?_, fun j m' hj => by rw [hsz]; exact W.dom j m' hj, fun j x m' hj hm' => ?_, fun j k o1 o2 m1 m2 h1 h2 h3 h4 h5 => ?_⟩,
    Sub.refl β, fun _ _ => rfl, Nat.le_refl _, fun b hb hn => ?_, fun j x m' hj hm' _ => ?_, by omega⟩
  · rw [hold b (by omega), W.old b hb]
  · rcases hget j x hj with ⟨e, e2⟩ | ⟨e, e2⟩
    · subst e; subst e2; rw [hm] at hm'; cases hm'; exact ho
    · refine (W.ok j x m' e2 hm').mono (Sub.refl β) (hold _ fun hb => e ?_)
      exact W.inj j i x o m' m e2 hi hm' hm hb
  · obtain ⟨y1, q1⟩ := hlive j o1 h1
    obtain ⟨y2, q2⟩ := hlive k o2 h2
    exact W.inj j k y1 y2 m1 m2 q1 q2 h3 h4 h5
  · exact hold b fun e => hn i o m hi hm e.symm
  · obtain ⟨y1, q1⟩ := hlive j x hj
    exact ⟨j, y1, m', q1, hm', rfl⟩

theorem WR.rename (W : WR P w0 β h w) (hn : β h.n = none) {i : Nat} {o o' : AO} {m m' : Nm} (hi : h.t.get i = some o) (hm : β i = some m) (hbm : m'.b = m.b) {w' : World} (hos : w'.os = w.os) (hout : w'.output = w.output) (htp : w'.tape = w.tape)
    (hold : ∀ b, b ≠ m.b → w'.heap[b]? = w.heap[b]?) (hsz : w'.heap.size = w.heap.size) (ho : OR P (β.set h.n m') o' m' w') :
    Post P w0 β h w (β.set h.n m') ⟨(h.t.put i none).put h.n (some o'), h.n + 1⟩ w' := by
  have hs : Sub β (β.set h.n m') := Be.sub_set hn
  have hget : ∀ j x, ((h.t.put i none).put h.n (some o')).get j = some x → (j = h.n ∧ x = o') ∨ (j ≠ h.n ∧ j ≠ i ∧ h.t.get j = some x) := by
    intro j x hj
    rw [Tr.get_put, Tr.get_put] at hj
    by_cases e : j = h.n
    · rw [if_pos e] at hj; cases hj; exact .inl ⟨e, rfl⟩
    · rw [if_neg e] at hj
      by_cases e' : j = i
      · rw [if_pos e'] at hj; cases hj
      · rw [if_neg e'] at hj; exact .inr ⟨e, e', hj⟩
  have hbe : ∀ j x, j ≠ h.n → β.set h.n m' j = some x → β j = some x := by
    intro j x e hj
    simpa [Be.set, e] using hj
  have hmd := W.dom i m hm
  refine ⟨⟨by rw [hos, W.os], by rw [hout, W.out], by rw [htp, W.tape], by rw [hsz]; exact W.size, fun b hb => ?_, fun j x hj => ?_, fun j x y hj hy => ?_, fun j k o1 o2 m1 m2 h1 h2 h3 h4 h5 => ?_⟩,
    hs, fun j hj => ?_, by show h.n ≤ h.n + 1; omega, fun b hb hnb => ?_, fun j x y hj hy _ => ?_, by omega⟩
  · rw [hold b (by omega), W.old b hb]
  · rw [hsz]
    by_cases e : j = h.n
    · subst e; rw [Be.set_same] at hj; cases hj; rw [hbm]; exact hmd
    · exact W.dom j x (hbe j x e hj)
  · rcases hget j x hj with ⟨e, e2⟩ | ⟨e, e', e2⟩
    · subst e; subst e2; rw [Be.set_same] at hy; cases hy; exact ho
    · have q := hbe j y e hy
      refine (W.ok j x y e2 q).mono hs (hold _ fun hb => e' ?_)
      exact W.inj j i x o y m e2 hi q hm hb
  · rcases hget j o1 h1 with ⟨e, _⟩ | ⟨e, e', e2⟩ <;> rcases hget k o2 h2 with ⟨f, _⟩ | ⟨f, f', f2⟩
    · rw [e, f]
    · rw [e, Be.set_same] at h3; cases h3
      exact absurd (W.inj k i o2 o m2 m f2 hi (hbe k m2 f h4) hm (by omega)) f'
    · rw [f, Be.set_same] at h4; cases h4
      exact absurd (W.inj j i o1 o m1 m e2 hi (hbe j m1 e h3) hm (by omega)) e'
    · exact W.inj j k o1 o2 m1 m2 e2 f2 (hbe j m1 e h3) (hbe k m2 f h4) h5
  · have : j ≠ h.n := by
      rcases hj with hj | hj
      · omega
      · simp only at hj; omega
    simp [Be.set, this]
  · exact hold b fun e => hnb i o m hi hm e.symm
  · rcases hget j x hj with ⟨e, _⟩ | ⟨e, e', e2⟩
    · subst e; rw [Be.set_same] at hy; cases hy; exact ⟨i, o, m, hi, hm, hbm.symm⟩
    · exact ⟨j, x, y, e2, hbe j y e hy, rfl⟩

theorem WR.weak {h' : Hp} (W : WR P w0 β h w) (ht : ∀ i o, h'.t.get i = some o → h.t.get i = some o) : WR P w0 β h' w :=
  ⟨W.os, W.out, W.tape, W.size, W.old, W.dom, fun i o m hi hm => W.ok i o m (ht i o hi) hm, fun i j o o' m m' h1 h2 => W.inj i j o o' m m' (ht i o h1) (ht j o' h2)⟩
end
end Go.CX
/-
  THE CLOSED RUN, SECOND PART: what runs without memory; loads, stores, new objects. By an AI agent.
-/
namespace Go.CX
set_option linter.unusedVariables false
set_option linter.unusedSimpArgs false
set_option linter.unusedSectionVars false

def prun {α : Type} (P : Program) : Sem α → Option α
  | .pure a => some a
  | .program k => prun P (k P)
  | _ => none

theorem prun_run {α : Type} {P : Program} {m : Sem α} {a : α} (h : prun P m = some a) (w : World) : m.run P w = .ok a w := by
  induction m with
  | pure b => simp only [prun, Option.some.injEq] at h; subst h; rfl
  | program k ih => exact ih P h
  | _ => simp [prun] at h

theorem prun_bind {α β : Type} {P : Program} (m : Sem α) (f : α → Sem β) : prun P (m >>= f) = (prun P m).bind fun a => prun P (f a) := by
  show prun P (m.bind f) = _
  induction m with
  | pure b => rfl
  | program k ih => exact ih P
  | _ => rfl

section
variable {P : Program} {w0 : World} {β : Be} {h : Hp} {w : World}

/-! ### Reading -/
def rangeOf (cs : List Value) (o n : Nat) : Option (List Value) := bif Nat.beq ((cs.drop o).take n).length n then some ((cs.drop o).take n) else none

theorem rangeOf_some {cs l : List Value} {o n : Nat} (h : rangeOf cs o n = some l) : l.length = n ∧ ∀ j v, l[j]? = some v → cs[o + j]? = some v := by
  unfold rangeOf at h
  rcases beq_cases ((cs.drop o).take n).length n with ⟨h1, h2⟩ | ⟨h1, h2⟩
  · rw [h1] at h
    simp only [cond_true, Option.some.injEq] at h
    subst h
    refine ⟨h2, fun j v hv => ?_⟩
    rw [List.getElem?_take] at hv
    split at hv
    · rwa [List.getElem?_drop] at hv
    · cases hv
  · rw [h1] at h; cases h

theorem OR.range {cs : List Value} {e : TypeId} {m : Nm} (ho : OR P β (.row cs e) m w) {o n : Nat} {l : List Value} (hl : rangeOf cs o n = some l) :
    ∃ l', VL β l l' ∧ w.rangeAt m.b (o + m.d) l' ∧ l'.length = n ∧ ∀ v ∈ l', v.oneCell' = true := by
  obtain ⟨cur, h1, h2, h3, h4⟩ := ho
  obtain ⟨h5, h6⟩ := rangeOf_some hl
  have key : ∀ j v, l[j]? = some v → ∃ v', cur[m.d + (o + j)]? = some v' ∧ v'.oneCell' = true ∧ VR β v v' := fun j v hv => h4 (o + j) v (h6 j v hv)
  refine ⟨(cur.toList.drop (m.d + o)).take n, ⟨?_, fun j v v' hv hv' => ?_⟩, fun j v hv => ?_, ?_, fun v hv => ?_⟩
  · by_cases h0 : n = 0
    · subst h0; simp [List.length_eq_zero_iff.1 h5]
    · obtain ⟨v', q, _⟩ := key (n - 1) l[n - 1] (List.getElem?_eq_getElem (by omega))
      have := (Array.getElem?_eq_some_iff.1 q).1
      simp; omega
  · obtain ⟨v2, q1, _, q3⟩ := key j v hv
    rw [List.getElem?_take] at hv'
    split at hv'
    · rw [List.getElem?_drop, Array.getElem?_toList, Nat.add_assoc, q1] at hv'
      cases hv'; exact q3
    · cases hv'
  · rw [List.getElem?_take] at hv
    split at hv
    · rw [List.getElem?_drop, Array.getElem?_toList] at hv
      simp only [World.cell?, h1]
      rw [show o + m.d + j = m.d + o + j by omega]
      simpa using hv
    · cases hv
  · by_cases h0 : n = 0
    · subst h0; simp
    · obtain ⟨v', q, _⟩ := key (n - 1) l[n - 1] (List.getElem?_eq_getElem (by omega))
      have := (Array.getElem?_eq_some_iff.1 q).1
      simp; omega
  · obtain ⟨j, hj⟩ := List.getElem?_of_mem hv
    rw [List.getElem?_take] at hj
    split at hj
    · rename_i hjn
      rw [List.getElem?_drop, Array.getElem?_toList] at hj
      obtain ⟨v2, q1, q2, _⟩ := key j l[j] (List.getElem?_eq_getElem (by omega))
      rw [Nat.add_assoc, q1] at hj
      cases hj; exact q2
    · cases hj

def row? (h : Hp) (i : Nat) : Option (List Value × TypeId) := match h.t.get i with
  | some (.row cs e) => some (cs, e)
  | _ => none
theorem row?_some {i : Nat} {cs : List Value} {e : TypeId} (hr : row? h i = some (cs, e)) : h.t.get i = some (.row cs e) := by
  unfold row? at hr
  split at hr
  · rename_i heq; cases hr; exact heq
  · cases hr

def aload (P : Program) (h : Hp) (t : TypeId) (x : Value) : Option Value := match x with
  | .pointer (some ⟨i, o, none⟩) => match row? h i, P.underlying t, P.info? t with
    | some (cs, _), some d, some ti => bif d.isRow then (rangeOf cs o ti.size).map (fun l => .agg l.toArray) else cs[o]?
    | _, _, _ => none
  | _ => none

theorem aload_ok (W : WR P w0 β h w) {t : TypeId} {x u v : Value} (hx : VR β x u) (hl : aload P h t x = some v) : ∃ v', (Instr.loadAt t u).run P w = .ok v' w ∧ VR β v v' := by
  unfold aload at hl
  split at hl <;> try (cases hl; done)
  rename_i i o
  split at hl <;> try (cases hl; done)
  rename_i cs e d ti hr hu hi
  cases hx with
  | same _ hc => simp [atomC] at hc
  | ptr hb =>
    rename_i m
    have ho := W.ok i _ m (row?_some hr) hb
    cases hd : d.isRow with
    | true =>
      rw [hd] at hl
      simp only [cond_true, Option.map_eq_some_iff] at hl
      obtain ⟨l, hl, rfl⟩ := hl
      obtain ⟨l', h1, h2, h3, _⟩ := ho.range hl
      exact ⟨.agg l'.toArray, run_loadAt_mid w m.b (o + m.d) t l' d h2 hu hd (by simp [hi, h3]), VR.ofCells h1⟩
    | false =>
      rw [hd] at hl
      simp only [cond_false] at hl
      obtain ⟨cur, h1, h2, h3, h4⟩ := ho
      obtain ⟨v', q1, q2, q3⟩ := h4 o v hl
      refine ⟨v', ?_, q3⟩
      have hcell : w.cell? ⟨m.b, o + m.d, none⟩ = some v' := by
        simp only [World.cell?, h1]
        rw [Nat.add_comm o m.d]
        simpa using q1
      have hagg : (isAgg t).run P w = .ok false w := by
        unfold isAgg
        rw [Sem.run_bind, run_underlying hu w]
        cases d <;> simp_all
      simp [Instr.loadAt, Instr.sureAddr, loadVar, Sem.run_bind, hagg, hcell]

/-! ### Writing -/
def putAt (cs : List Value) (o : Nat) (l : List Value) : List Value := cs.take o ++ (l ++ cs.drop (o + l.length))

theorem putAt_get {cs l : List Value} {o : Nat} (ho : o + l.length ≤ cs.length) (k : Nat) : (putAt cs o l)[k]? = if o ≤ k ∧ k < o + l.length then l[k - o]? else cs[k]? := by
  unfold putAt
  have hm : (cs.take o).length = o := by simp; omega
  by_cases c1 : k < o
  · rw [List.getElem?_append_left (by omega), List.getElem?_take, if_pos c1, if_neg (by omega)]
  · rw [List.getElem?_append_right (by omega), hm]
    by_cases c2 : k < o + l.length
    · rw [List.getElem?_append_left (by omega), if_pos ⟨by omega, c2⟩]
    · rw [List.getElem?_append_right (by omega), List.getElem?_drop, if_neg (by omega)]
      congr 1; omega

theorem WR.storeCells (W : WR P w0 β h w) {i : Nat} {cs : List Value} {e : TypeId} {m : Nm} (hi : h.t.get i = some (.row cs e)) (hm : β i = some m) {o : Nat} {l l' : List Value}
    (ho : o + l.length ≤ cs.length) (hl : VL β l l') (h1 : l.all (·.oneCell') = true) :
    ∃ w', (Go.storeCells ⟨m.b, o + m.d, none⟩ l').run P w = .ok () w' ∧ Post P w0 β h w β ⟨h.t.put i (some (.row (putAt cs o l) e)), h.n⟩ w' := by
  obtain ⟨cur, g1, g2, g3, g4⟩ := W.ok i _ m hi hm
  cases l with
  | nil =>
    have hl' : l' = [] := List.length_eq_zero_iff.1 hl.1.symm
    subst hl'
    refine ⟨w, rfl, W.upd hi hm rfl rfl rfl (fun _ _ => rfl) rfl ⟨cur, g1, g2, g3, fun k v hv => ?_⟩⟩
    rw [putAt_get ho, if_neg (by simp)] at hv
    exact g4 k v hv
  | cons x r =>
  generalize hL : x :: r = l at *
  have hpos : 0 < l.length := by rw [← hL]; simp
  have hfit : o + m.d + 0 + l'.length ≤ cur.size := by
    obtain ⟨v', q, _⟩ := g4 (o + l.length - 1) cs[o + l.length - 1] (List.getElem?_eq_getElem (by omega))
    have := (Array.getElem?_eq_some_iff.1 q).1
    rw [← hl.1]; omega
  have hone : ∀ v ∈ l', v.oneCell' = true := by
    intro v hv
    obtain ⟨j, hj⟩ := List.getElem?_of_mem hv
    have hjl : j < l.length := by rw [hl.1]; exact (List.getElem?_eq_some_iff.1 hj).1
    rw [(hl.2 j l[j] v (List.getElem?_eq_getElem hjl) hj).one]
    exact List.all_eq_true.1 h1 _ (List.getElem_mem hjl)
  have hst := run_storeCells_at (P := P) m.b (o + m.d) e l' 0 cur w g1 hfit hone
  generalize hcur : (cur.toList.take (o + m.d + 0) ++ l' ++ cur.toList.drop (o + m.d + 0 + l'.length)).toArray = cur' at hst
  have hget : ∀ k, cur'[k]? = if o + m.d ≤ k ∧ k < o + m.d + l.length then l'[k - (o + m.d)]? else cur[k]? := by
    intro k
    have := putAt_get (cs := cur.toList) (l := l') (o := o + m.d) (by simpa using hfit) k
    rw [← hcur, List.getElem?_toArray, Nat.add_zero, List.append_assoc]
    unfold putAt at this
    rw [this, hl.1]
    simp
  have hsz : cur'.size = cur.size := by
    rw [← hcur]
    simp
    omega
  refine ⟨_, hst, W.upd hi hm (setRow_os _ _ _) (setRow_output _ _ _) (setRow_tape _ _ _) (fun b hb => setRow_other w m.b b _ hb) (setRow_size _ _ _) ⟨cur', setRow_heap w m.b cur cur' e _ g1, by omega, g3, fun k v hv => ?_⟩⟩
  rw [putAt_get ho] at hv
  rw [hget]
  by_cases c : o ≤ k ∧ k < o + l.length
  · rw [if_pos c] at hv
    rw [if_pos (by omega)]
    obtain ⟨v', q1, q2⟩ := hl.get hv
    exact ⟨v', by rw [show m.d + k - (o + m.d) = k - o by omega]; exact q1, hone v' (List.mem_of_getElem? q1), q2⟩
  · rw [if_neg c] at hv
    rw [if_neg (by omega)]
    exact g4 k v hv

def rowPut (h : Hp) (i o : Nat) (l : List Value) : Option Hp := match row? h i with
  | some (cs, e) => bif Nat.ble (o + l.length) cs.length && l.all (·.oneCell') then some ⟨h.t.put i (some (.row (putAt cs o l) e)), h.n⟩ else none
  | none => none

theorem rowPut_ok (W : WR P w0 β h w) {i o : Nat} {l l' : List Value} {h' : Hp} {m : Nm} (hm : β i = some m) (hl : VL β l l') (hp : rowPut h i o l = some h') :
    ∃ w', (Go.storeCells ⟨m.b, o + m.d, none⟩ l').run P w = .ok () w' ∧ Post P w0 β h w β h' w' := by
  unfold rowPut at hp
  split at hp <;> try (cases hp; done)
  rename_i cs e hr
  cases hc : Nat.ble (o + l.length) cs.length && l.all (·.oneCell') with
  | false => rw [hc] at hp; cases hp
  | true =>
    rw [hc] at hp
    simp only [cond_true, Option.some.injEq] at hp
    subst hp
    simp only [Bool.and_eq_true] at hc
    exact W.storeCells (row?_some hr) hm (Nat.le_of_ble_eq_true hc.1) hl hc.2

def astore (P : Program) (h : Hp) (t : TypeId) (x v : Value) : Option Hp := match x with
  | .pointer (some ⟨i, o, none⟩) => match P.info? t with
    | some ti => bif Nat.beq v.cells.size ti.size then rowPut h i o v.cells.toList else none
    | none => none
  | _ => none

theorem astore_ok (W : WR P w0 β h w) {t : TypeId} {x u v y : Value} {h' : Hp} (hx : VR β x u) (hv : VR β v y) (hl : astore P h t x v = some h') :
    ∃ w', (Instr.storeAt t u y).run P w = .ok () w' ∧ Post P w0 β h w β h' w' := by
  unfold astore at hl
  split at hl <;> try (cases hl; done)
  rename_i i o
  split at hl <;> try (cases hl; done)
  rename_i ti hi
  rcases beq_cases v.cells.size ti.size with ⟨h1, h2⟩ | ⟨h1, h2⟩
  · rw [h1] at hl
    simp only [cond_true] at hl
    cases hx with
    | same _ hc => simp [atomC] at hc
    | ptr hb =>
      obtain ⟨w', q1, q2⟩ := rowPut_ok W hb hv.cells hl
      have hys : y.cells.size = ti.size := by have := hv.cells.1; simp at this; omega
      exact ⟨w', by simp [Instr.storeAt, Instr.sureAddr, storeVar, sizeOf, typeInfo, hi, hys, q1], q2⟩
  · rw [h1] at hl; cases hl

/-! ### New objects -/
def zeroV (P : Program) (t : TypeId) : Option Value := match P.info? t with
  | some i => match i.zero with
    | some v => bif cln v && Nat.beq v.cells.size i.size then some v else none
    | none => none
  | none => none
theorem zeroV_some {t : TypeId} {z : Value} (hz : zeroV P t = some z) : ∃ i, P.info? t = some i ∧ i.zero = some z ∧ cln z = true ∧ z.cells.size = i.size := by
  unfold zeroV at hz
  split at hz <;> try (cases hz; done)
  rename_i i hi
  split at hz <;> try (cases hz; done)
  rename_i v hv
  cases hc : cln v && Nat.beq v.cells.size i.size with
  | false => rw [hc] at hz; cases hz
  | true =>
    rw [hc] at hz
    simp only [cond_true, Option.some.injEq] at hz
    subst hz
    simp only [Bool.and_eq_true] at hc
    exact ⟨i, hi, hv, hc.1, Nat.eq_of_beq_eq_true hc.2⟩

theorem cln_one {v : Value} (hc : cln v = true) : ∀ x ∈ v.cells.toList, x.oneCell' = true := by
  have one : ∀ {x : Value}, atomC x = true → x.oneCell' = true := by intro x hx; cases x <;> first | rfl | (simp [atomC] at hx; done)
  intro x hx
  cases v with
  | agg A => exact one (List.all_eq_true.1 (show A.toList.all atomC = true from hc) x (by simpa [Value.cells] using hx))
  | _ => simp only [Value.cells, List.mem_singleton] at hx; subst hx; exact one hc

theorem VL.one {l l' : List Value} (hl : VL β l l') (h1 : l.all (·.oneCell') = true) : ∀ v ∈ l', v.oneCell' = true := by
  intro v hv
  obtain ⟨j, hj⟩ := List.getElem?_of_mem hv
  have hjl : j < l.length := by rw [hl.1]; exact (List.getElem?_eq_some_iff.1 hj).1
  rw [(hl.2 j l[j] v (List.getElem?_eq_getElem hjl) hj).one]
  exact List.all_eq_true.1 h1 _ (List.getElem_mem hjl)

def NewAt (P : Program) (β : Be) (n : Nat) (w : World) (r : Result Value) (v : Value) (o : AO) : Prop :=
  ∃ v' w' m, r = .ok v' w' ∧ VR (β.set n m) v v' ∧ w'.os = w.os ∧ w'.output = w.output ∧ w'.tape = w.tape ∧ (∀ b, b < w.heap.size → w'.heap[b]? = w.heap[b]?) ∧ w.heap.size ≤ m.b ∧ m.b < w'.heap.size ∧ OR P (β.set n m) o m w'

theorem ptr_new {β : Be} {i nb es tot : Nat} : VR (β.set i ⟨nb, 0, es, tot⟩) (.pointer (some ⟨i, 0, none⟩)) (.pointer (some ⟨nb, 0, none⟩)) := by
  have := VR.ptr (β := β.set i ⟨nb, 0, es, tot⟩) (o := 0) Be.set_same
  simpa using this

theorem or_row (hn : β h.n = none) {n : Nat} (hb : β n = none) {e : TypeId} {cs : List Value} {cur : Array Value} (hc : VL β cs (cur.toList.take cs.length)) (h1 : ∀ v ∈ cur.toList.take cs.length, v.oneCell' = true) {nb : Nat} {w' : World}
    (hb' : w'.heap[nb]? = some (.cells cur e (0, 0))) : OR P (β.set n ⟨nb, 0, szOf P e, cur.size⟩) (.row cs e) ⟨nb, 0, szOf P e, cur.size⟩ w' := by
  refine ⟨cur, hb', rfl, rfl, fun k v hv => ?_⟩
  obtain ⟨v', q1, q2⟩ := hc.get hv
  refine ⟨v', ?_, h1 v' (List.mem_of_getElem? q1), q2.mono (Be.sub_set hb)⟩
  rw [List.getElem?_take] at q1
  split at q1
  · simpa using q1
  · cases q1

theorem new_row {n : Nat} (hb : β n = none) {e : TypeId} {cs : List Value} {cur : Array Value} (hc : VL β cs cur.toList) (h1 : ∀ v ∈ cur.toList, v.oneCell' = true) {v v' : Value}
    (hv : VR (β.set n ⟨w.heap.size, 0, szOf P e, cur.size⟩) v v') : NewAt P β n w (.ok v' (w.alloc (.cells cur e))) v (.row cs e) := by
  have ht : cur.toList.take cs.length = cur.toList := by rw [hc.1]; exact List.take_length
  refine ⟨v', _, ⟨w.heap.size, 0, szOf P e, cur.size⟩, rfl, hv, rfl, rfl, rfl, fun b hb => heap_alloc_old w _ hb, Nat.le_refl _, ?_, ?_⟩
  · show w.heap.size < (w.heap.push _).size
    simp
  · exact or_row (h := ⟨.leaf, n⟩) hb hb (by rw [ht]; exact hc) (by rw [ht]; exact h1) (heap_alloc_new w _)

def nalloc (P : Program) (t : TypeId) (n : Nat) : Option (Value × AO) := match zeroV P t with
  | some z => some (.pointer (some ⟨n, 0, none⟩), .row z.cells.toList t)
  | none => none
theorem nalloc_ok {n : Nat} (hb : β n = none) {t : TypeId} {v : Value} {o : AO} (ha : nalloc P t n = some (v, o)) : NewAt P β n w ((Instr.alloc t true (.tuple #[])).run P w) v o := by
  unfold nalloc at ha
  split at ha <;> try (cases ha; done)
  rename_i z hz
  cases ha
  obtain ⟨i, hi, hzv, hzc, hzs⟩ := zeroV_some hz
  have hr : (Instr.alloc t true (.tuple #[])).run P w = .ok (.pointer (some ⟨w.heap.size, 0, none⟩)) (w.alloc (.cells z.cells t)) := by simp [Instr.alloc, zeroValue, typeInfo, hi, hzv, newVar, newRow]
  rw [hr]
  exact new_row hb (VR.cln hzc).cells (cln_one hzc) ptr_new

def nbox (t : TypeId) (x : Value) (n : Nat) : Option (Value × AO) := bif x.cells.toList.all (·.oneCell') then some (.pointer (some ⟨n, 0, none⟩), .row x.cells.toList t) else none
theorem nbox_ok {n : Nat} (hb : β n = none) {t : TypeId} {x u v : Value} {o : AO} (hx : VR β x u) (ha : nbox t x n = some (v, o)) : NewAt P β n w ((Instr.box t u).run P w) v o := by
  unfold nbox at ha
  cases hc : x.cells.toList.all (·.oneCell') with
  | false => rw [hc] at ha; cases ha
  | true =>
    rw [hc] at ha
    cases ha
    have hr : (Instr.box t u).run P w = .ok (.pointer (some ⟨w.heap.size, 0, none⟩)) (w.alloc (.cells u.cells t)) := by simp [Instr.box, newVar, newRow]
    rw [hr]
    exact new_row hb hx.cells (hx.cells.one hc) ptr_new
end
end Go.CX
/-
  THE CLOSED RUN, THIRD PART: operations that leave the memory as it is. By an AI agent.
-/
namespace Go.CX
set_option linter.unusedVariables false
set_option linter.unusedSimpArgs false
set_option linter.unusedSectionVars false

theorem run_sizeOf' {P : Program} {t : TypeId} {ti : TypeInfo} (hi : P.info? t = some ti) (w : World) : (sizeOf t).run P w = .ok ti.size w := by simp [sizeOf, typeInfo, hi]

section
variable {P : Program} {w0 : World} {β : Be} {h : Hp} {w : World}

def sizeO (P : Program) (t : TypeId) : Option Nat := (P.info? t).map (·.size)
theorem sizeO_some {t : TypeId} {n : Nat} (hs : sizeO P t = some n) : ∃ ti, P.info? t = some ti ∧ ti.size = n := by
  unfold sizeO at hs
  cases hi : P.info? t with
  | none => rw [hi] at hs; cases hs
  | some ti => rw [hi] at hs; exact ⟨ti, rfl, by simpa using hs⟩

def apart (P : Program) (t : TypeId) (A : List Value) (off : Nat) : Option Value := match P.underlying t, sizeO P t with
  | some d, some n => bif d.isRow then some (.agg ((A.drop off).take n).toArray) else A[off]?
  | _, _ => none
theorem apart_ok {t : TypeId} {A A' : Array Value} {off : Nat} {v : Value} (hA : VL β A.toList A'.toList) (ha : apart P t A.toList off = some v) (w : World) :
    ∃ v', (part t A' off).run P w = .ok v' w ∧ VR β v v' := by
  unfold apart at ha
  split at ha <;> try (cases ha; done)
  rename_i d n hu hs
  obtain ⟨ti, hi, rfl⟩ := sizeO_some hs
  have hagg : (isAgg t).run P w = .ok d.isRow w := by
    unfold isAgg
    rw [Sem.run_bind, run_underlying hu w]
    cases d <;> rfl
  cases hd : d.isRow with
  | true =>
    rw [hd] at ha hagg
    simp only [cond_true, Option.some.injEq] at ha
    subst ha
    refine ⟨.agg (A'.extract off (off + ti.size)), by simp [part, hagg, sizeOf, typeInfo, hi], ?_⟩
    have := VR.ofCells ((hA.drop off).take ti.size)
    have e : A'.extract off (off + ti.size) = ((A'.toList.drop off).take ti.size).toArray := by
      apply Array.toList_inj.1
      simp [Array.toList_extract, List.extract]
    rw [e]; exact this
  | false =>
    rw [hd] at ha hagg
    simp only [cond_false] at ha
    obtain ⟨v', q1, q2⟩ := hA.get ha
    exact ⟨v', by simp [part, hagg, show A'[off]? = some v' by simpa using q1], q2⟩

def afield (P : Program) (t : TypeId) (x : Value) (f : Nat) : Option Value := match P.underlying t, x with
  | some (.struct fs), .agg A => match fs[f]? with
    | some fd => apart P fd.type A.toList fd.offset
    | none => none
  | _, _ => none
theorem afield_ok {t : TypeId} {x u v : Value} {f : Nat} (hx : VR β x u) (ha : afield P t x f = some v) (w : World) : ∃ v', (Instr.field t u f).run P w = .ok v' w ∧ VR β v v' := by
  unfold afield at ha
  split at ha <;> try (cases ha; done)
  rename_i fs A hu
  split at ha <;> try (cases ha; done)
  rename_i fd hf
  obtain ⟨A', rfl, hA⟩ := hx.aggL
  obtain ⟨v', q1, q2⟩ := apart_ok hA ha w
  exact ⟨v', by simp [Instr.field, run_underlying hu, hf, asAgg, q1], q2⟩

def aextract (x : Value) (i : Nat) : Option Value := match x with
  | .tuple A => A.toList[i]?
  | _ => none
theorem aextract_ok {x u v : Value} {i : Nat} (hx : VR β x u) (ha : aextract x i = some v) (w : World) : ∃ v', (Instr.extract u i).run P w = .ok v' w ∧ VR β v v' := by
  unfold aextract at ha
  split at ha <;> try (cases ha; done)
  rename_i A
  cases hx with
  | same _ hc => simp [atomC] at hc
  | tup _ A' hA h1 =>
    have hv : VL β A.toList A'.toList := ⟨by simpa using hA, fun i v v' a b => h1 i v v' (by simpa using a) (by simpa using b)⟩
    obtain ⟨v', q1, q2⟩ := hv.get ha
    exact ⟨v', by simp [Instr.extract, show A'[i]? = some v' by simpa using q1], q2⟩

def afieldAddr (P : Program) (t : TypeId) (x : Value) (f : Nat) : Option Value := match P.underlying t, x with
  | some (.struct fs), .pointer (some ⟨i, o, none⟩) => match fs[f]? with
    | some fd => match sizeO P fd.type with
      | some (_ + 1) => some (.pointer (some ⟨i, o + fd.offset, none⟩))
      | _ => none
    | none => none
  | _, _ => none
theorem afieldAddr_ok {t : TypeId} {x u v : Value} {f : Nat} (hx : VR β x u) (ha : afieldAddr P t x f = some v) (w : World) : ∃ v', (Instr.fieldAt t u f).run P w = .ok v' w ∧ VR β v v' := by
  unfold afieldAddr at ha
  split at ha <;> try (cases ha; done)
  rename_i fs i o hu
  split at ha <;> try (cases ha; done)
  rename_i fd hf
  split at ha <;> try (cases ha; done)
  rename_i n hs
  cases ha
  obtain ⟨ti, hi, hn⟩ := sizeO_some hs
  cases hx with
  | same _ hc => simp [atomC] at hc
  | ptr hb =>
    rename_i m
    refine ⟨.pointer (some ⟨m.b, o + fd.offset + m.d, none⟩), ?_, .ptr hb⟩
    simp [Instr.fieldAt, run_underlying hu, hf, Instr.sureAddr, fieldPlace, sizeOf, typeInfo, hi, hn, Addr.add_lit]

def aindexAddr (P : Program) (t : TypeId) (x ix : Value) : Option Value := match ix with
  | .int k n => match P.underlying t, x with
    | some (.slice e), .slice (some ⟨i, o, none⟩) len _ => match sizeO P e with
      | some sz => bif decide (0 ≤ n) && decide (n < len) then some (.pointer (some ⟨i, o + n.toNat * sz, none⟩)) else none
      | none => none
    | some (.array len e), .pointer (some ⟨i, o, none⟩) => match sizeO P e with
      | some sz => bif decide (0 ≤ n) && decide (n < len) then some (.pointer (some ⟨i, o + n.toNat * sz, none⟩)) else none
      | none => none
    | _, _ => none
  | _ => none
theorem aindexAddr_ok {t : TypeId} {x u ix y v : Value} (hx : VR β x u) (hy : VR β ix y) (ha : aindexAddr P t x ix = some v) (w : World) : ∃ v', (Instr.indexAt t u y).run P w = .ok v' w ∧ VR β v v' := by
  unfold aindexAddr at ha
  split at ha <;> try (cases ha; done)
  rename_i k n
  have hy' : y = .int k n := cln_eq (v := .int k n) rfl hy
  subst hy'
  split at ha <;> try (cases ha; done)
  · rename_i e i o len c hu
    split at ha <;> try (cases ha; done)
    rename_i sz hs
    obtain ⟨ti, hi, rfl⟩ := sizeO_some hs
    cases hc : decide (0 ≤ n) && decide (n < (len : Int)) with
    | false => rw [hc] at ha; cases ha
    | true =>
      rw [hc] at ha
      cases ha
      simp only [Bool.and_eq_true, decide_eq_true_eq] at hc
      cases hx with
      | same _ hc' => simp [atomC] at hc'
      | sl0 hl => simp at hc; omega
      | sl hb hl =>
        rename_i c' m
        refine ⟨.pointer (some ⟨m.b, o + n.toNat * ti.size + m.d, none⟩), ?_, .ptr hb⟩
        simp [Instr.indexAt, asIntOf, run_underlying hu, hc, sizeOf, typeInfo, hi, Addr.add_lit]
  · rename_i len e i o hu
    split at ha <;> try (cases ha; done)
    rename_i sz hs
    obtain ⟨ti, hi, rfl⟩ := sizeO_some hs
    cases hc : decide (0 ≤ n) && decide (n < (len : Int)) with
    | false => rw [hc] at ha; cases ha
    | true =>
      rw [hc] at ha
      cases ha
      simp only [Bool.and_eq_true, decide_eq_true_eq] at hc
      cases hx with
      | same _ hc' => simp [atomC] at hc'
      | ptr hb =>
        rename_i m
        refine ⟨.pointer (some ⟨m.b, o + n.toNat * ti.size + m.d, none⟩), ?_, .ptr hb⟩
        simp [Instr.indexAt, asIntOf, run_underlying hu, hc, Instr.sureAddr, sizeOf, typeInfo, hi, Addr.add_lit]

def aindex (P : Program) (t : TypeId) (x ix : Value) : Option Value := match ix with
  | .int k n => match P.underlying t, x with
    | some (.array len e), .agg A => match sizeO P e with
      | some sz => bif decide (0 ≤ n) && decide (n < len) then apart P e A.toList (n.toNat * sz) else none
      | none => none
    | _, _ => none
  | _ => none
theorem aindex_ok {t : TypeId} {x u ix y v : Value} (hx : VR β x u) (hy : VR β ix y) (ha : aindex P t x ix = some v) (w : World) : ∃ v', (Instr.index t u y).run P w = .ok v' w ∧ VR β v v' := by
  unfold aindex at ha
  split at ha <;> try (cases ha; done)
  rename_i k n
  have hy' : y = .int k n := cln_eq (v := .int k n) rfl hy
  subst hy'
  split at ha <;> try (cases ha; done)
  rename_i len e A hu
  split at ha <;> try (cases ha; done)
  rename_i sz hs
  obtain ⟨ti, hi, rfl⟩ := sizeO_some hs
  cases hc : decide (0 ≤ n) && decide (n < (len : Int)) with
  | false => rw [hc] at ha; cases ha
  | true =>
    rw [hc] at ha
    simp only [cond_true] at ha
    simp only [Bool.and_eq_true, decide_eq_true_eq] at hc
    obtain ⟨A', rfl, hA⟩ := hx.aggL
    obtain ⟨v', q1, q2⟩ := apart_ok hA ha w
    exact ⟨v', by simp [Instr.index, asIntOf, run_underlying hu, hc, sizeOf, typeInfo, hi, q1], q2⟩

/-! ### Build -/
theorem fold_ok {off : Nat} : ∀ (l l' : List Value) (k : Nat) (C C' : Array Value), VL β l l' → VL β C.toList C'.toList →
    VL β ((l.zipIdx k).foldl (fun cs (c, j) => cs.setIfInBounds (off + j) c) C).toList ((l'.zipIdx k).foldl (fun cs (c, j) => cs.setIfInBounds (off + j) c) C').toList
  | [], [], _, _, _, _, hC => hC
  | x :: l, y :: l', k, C, C', hl, hC => by
    obtain ⟨h1, h2⟩ := hl.uncons
    simp only [List.zipIdx_cons, List.foldl_cons]
    refine fold_ok l l' (k + 1) _ _ h2 ⟨by simpa using hC.1, fun i v v' a b => ?_⟩
    simp only [Array.toList_setIfInBounds] at a b
    by_cases e : off + k = i
    · subst e
      rw [List.getElem?_set_self'] at a b
      cases ha : C.toList[off + k]? with
      | none => rw [ha] at a; cases a
      | some p =>
        cases hb : C'.toList[off + k]? with
        | none => rw [hb] at b; cases b
        | some q => rw [ha] at a; rw [hb] at b; simp at a b; subst a; subst b; exact h1
    · rw [List.getElem?_set_ne e] at a b
      exact hC.2 i v v' a b
  | [], _ :: _, _, _, _, hl, _ => by simp [VL] at hl
  | _ :: _, [], _, _, _, hl, _ => by simp [VL] at hl

def VP (β : Be) : List (Nat × Value) → List (Nat × Value) → Prop
  | [], [] => True
  | (i, v) :: l, (i', v') :: l' => i = i' ∧ VR β v v' ∧ VP β l l'
  | _, _ => False

theorem fill_ok {place : Nat → Option (Nat × Nat)} : ∀ (ps ps' : List (Nat × Value)) (C C' cs : Array Value), VP β ps ps' → VL β C.toList C'.toList → Instr.fill place C ps = some cs →
    ∃ cs', Instr.fill place C' ps' = some cs' ∧ VL β cs.toList cs'.toList
  | [], [], C, C', cs, _, hC, hf => by simp only [Instr.fill, Option.some.injEq] at hf ⊢; subst hf; exact ⟨C', rfl, hC⟩
  | (i, v) :: ps, (i', v') :: ps', C, C', cs, hp, hC, hf => by
    obtain ⟨rfl, hv, hp⟩ := hp
    simp only [Instr.fill] at hf ⊢
    cases hpl : place i with
    | none => rw [hpl] at hf; cases hf
    | some q =>
      obtain ⟨off, size⟩ := q
      rw [hpl] at hf
      simp only at hf ⊢
      have e1 : v'.cells.size = v.cells.size := by have := hv.cells.1; simp at this; omega
      have e2 : C'.size = C.size := by have := hC.1; simp at this; omega
      rw [e1, e2]
      split at hf
      · cases hf
      · rename_i hne
        rw [if_neg hne]
        refine fill_ok ps ps' _ _ cs hp ?_ hf
        rw [← Array.foldl_toList, ← Array.foldl_toList, Array.toList_zipIdx, Array.toList_zipIdx]
        exact fold_ok _ _ 0 C C' hv.cells hC
  | [], _ :: _, _, _, _, hp, _, _ => hp.elim
  | _ :: _, [], _, _, _, hp, _, _ => hp.elim

def abuild (P : Program) (t : TypeId) (ps : List (Nat × Value)) : Option Value := match zeroV P t with
  | some z => match P.underlying t with
    | some (.struct fs) => match prun P (fs.mapM fun f => do pure (f.offset, ← sizeOf f.type)) with
      | some places => (Instr.fill (places[·]?) z.cells ps).map .agg
      | none => none
    | some (.array _ e) => match sizeO P e with
      | some size => (Instr.fill (fun i => some (i * size, size)) z.cells ps).map .agg
      | none => none
    | _ => none
  | none => none
theorem agg_of {A A' : Array Value} (hA : VL β A.toList A'.toList) : VR β (.agg A) (.agg A') := by have := VR.ofCells hA; simpa using this
theorem abuild_ok {t : TypeId} {ps : List (Nat × Value)} {cps : Array (Nat × Value)} {v : Value} (hp : VP β ps cps.toList) (ha : abuild P t ps = some v) (w : World) : ∃ v', (Instr.build t cps).run P w = .ok v' w ∧ VR β v v' := by
  unfold abuild at ha
  split at ha <;> try (cases ha; done)
  rename_i z hz
  obtain ⟨ti, hi, hzv, hzc, hzs⟩ := zeroV_some hz
  split at ha <;> try (cases ha; done)
  · rename_i fs hu
    split at ha <;> try (cases ha; done)
    rename_i places hpl
    simp only [Option.map_eq_some_iff] at ha
    obtain ⟨cs, hcs, rfl⟩ := ha
    obtain ⟨cs', q1, q2⟩ := fill_ok ps cps.toList z.cells z.cells cs hp (VR.cln hzc).cells hcs
    have hr := prun_run hpl w
    refine ⟨.agg cs', ?_, agg_of q2⟩
    simp only [Instr.build, zeroValue, typeInfo, Sem.run_bind, run_program, Result.andThen_ok, hi, Sem.run_pure, hzv, run_underlying hu, hr, q1]
  · rename_i n e hu
    split at ha <;> try (cases ha; done)
    rename_i size hs
    obtain ⟨te, he, rfl⟩ := sizeO_some hs
    simp only [Option.map_eq_some_iff] at ha
    obtain ⟨cs, hcs, rfl⟩ := ha
    obtain ⟨cs', q1, q2⟩ := fill_ok ps cps.toList z.cells z.cells cs hp (VR.cln hzc).cells hcs
    refine ⟨.agg cs', ?_, agg_of q2⟩
    simp [Instr.build, zeroValue, typeInfo, hi, hzv, run_underlying hu, sizeOf, he, q1]
end
end Go.CX
/-
  THE CLOSED RUN, FOURTH PART: slicing, scalars, comparisons with nil, new slices and maps. By an AI agent.
-/
namespace Go.CX
set_option linter.unusedVariables false
set_option linter.unusedSimpArgs false
set_option linter.unusedSectionVars false

section
variable {P : Program} {w0 : World} {β : Be} {h : Hp} {w : World}

/-! ### Slicing -/
def bnd (v : Option Value) (y dflt : Nat) : Option Nat := match v with
  | none => some dflt
  | some (.int _ i) => bif decide (0 ≤ i) && decide (i ≤ y) then some i.toNat else none
  | some _ => none

theorem run_bound {k : IntKind} {i : Int} {y : Nat} (h0 : 0 ≤ i) (h1 : i ≤ y) (code : BoundsCode) (w : World) : (Instr.sliceBound (.int k i) y code).run P w = .ok i.toNat w := by
  simp [Instr.sliceBound, asIntOf, h0, h1]

def elemIs (h : Hp) (i : Nat) (e : TypeId) : Bool := match row? h i with
  | some (_, e') => Nat.beq e' e
  | none => false

def aslice (P : Program) (h : Hp) (t : TypeId) (x : Value) (lo hi mx : Option Value) : Option Value := match P.underlying t, x with
  | some (.slice e), .slice (some ⟨i, o, none⟩) len c => match sizeO P e with
    | some sz => match mx with
      | none => match bnd hi (c / 2) len with
        | some hh => match bnd lo hh 0 with
          | some l => bif Nat.ble len (c / 2) then bif Nat.beq (c % 2) 1 then bif elemIs h i e then some (.slice (some ⟨i, o + l * sz, none⟩) (hh - l) (2 * (c / 2 - l) + 1)) else none
              else some (.slice (some (bif Nat.beq (c / 2) l then ⟨i, o, none⟩ else ⟨i, o + l * sz, none⟩)) (hh - l) (2 * (c / 2 - l))) else none
          | none => none
        | none => none
      | some mv => match bnd (some mv) (c / 2) 0, hi with
        | some m, some hv => match bnd (some hv) m 0 with
          | some hh => match bnd lo hh 0 with
            | some l => some (.slice (some (bif Nat.beq m l then ⟨i, o, none⟩ else ⟨i, o + l * sz, none⟩)) (hh - l) (2 * (m - l)))
            | none => none
          | none => none
        | _, _ => none
    | none => none
  | some (.array n e), .pointer (some ⟨i, o, none⟩) => match sizeO P e, mx with
    | some sz, none => match bnd hi n n with
      | some hh => match bnd lo hh 0 with
        | some l => some (.slice (some (bif Nat.beq n l then ⟨i, o, none⟩ else ⟨i, o + l * sz, none⟩)) (hh - l) (2 * (n - l)))
        | none => none
      | none => none
    | _, _ => none
  | _, _ => none

def OV (β : Be) : Option Value → Option Value → Prop
  | none, none => True
  | some v, some v' => VR β v v'
  | _, _ => False

theorem bnd_ok {v v' : Option Value} {y d n : Nat} (hv : OV β v v') (hb : bnd v y d = some n) :
    v' = v ∧ ((v = none ∧ n = d) ∨ ∃ k i, v = some (.int k i) ∧ 0 ≤ i ∧ i ≤ y ∧ n = i.toNat) := by
  unfold bnd at hb
  split at hb
  · cases v' with
    | none => simp at hb; exact ⟨rfl, .inl ⟨rfl, hb.symm⟩⟩
    | some _ => exact hv.elim
  · rename_i k i
    cases v' with
    | none => exact hv.elim
    | some u =>
      have hu : u = .int k i := cln_eq (v := .int k i) rfl hv
      subst hu
      cases hc : decide (0 ≤ i) && decide (i ≤ (y : Int)) with
      | false => rw [hc] at hb; cases hb
      | true =>
        rw [hc] at hb
        simp only [cond_true, Option.some.injEq] at hb
        simp only [Bool.and_eq_true, decide_eq_true_eq] at hc
        exact ⟨rfl, .inr ⟨k, i, rfl, hc.1, hc.2, hb.symm⟩⟩
  · cases hb

theorem run_sliceBounds {lo hi mx : Option Value} {isS : Bool} {len cap L H M : Nat} (hm : (mx = none ∧ M = cap) ∨ ∃ k i, mx = some (.int k i) ∧ 0 ≤ i ∧ i ≤ (cap : Int) ∧ M = i.toNat)
    (hh : (hi = none ∧ mx = none ∧ H = len) ∨ ∃ k i, hi = some (.int k i) ∧ 0 ≤ i ∧ i ≤ (M : Int) ∧ H = i.toNat) (hl : (lo = none ∧ L = 0) ∨ ∃ k i, lo = some (.int k i) ∧ 0 ≤ i ∧ i ≤ (H : Int) ∧ L = i.toNat) (w : World) :
    (Instr.sliceBounds isS len cap lo hi mx).run P w = .ok (L, H, M) w := by
  rcases hm with ⟨rfl, rfl⟩ | ⟨k1, i1, rfl, a1, b1, rfl⟩ <;> rcases hh with ⟨rfl, h0, rfl⟩ | ⟨k2, i2, rfl, a2, b2, rfl⟩ <;> rcases hl with ⟨rfl, rfl⟩ | ⟨k3, i3, rfl, a3, b3, rfl⟩ <;>
    first
    | (cases h0; done)
    | simp only [Instr.sliceBounds, Sem.run_bind, Sem.run_pure, Result.andThen_ok, run_bound, *]

theorem run_slice_slice {t e : TypeId} {ti : TypeInfo} (hu : P.underlying t = some (.slice e)) (hi : P.info? e = some ti) {a : Addr} {len cap L H M : Nat} {lo hi' mx : Option Value}
    (hb : (Instr.sliceBounds true len cap lo hi' mx).run P w = .ok (L, H, M) w) : (Instr.sliceAt t (.slice (some a) len cap) lo hi' mx).run P w = .ok (.slice (some (if M = L then a else a.add (L * ti.size))) (H - L) (M - L)) w := by
  simp only [Instr.sliceAt, Instr.slice, Sem.run_bind, run_underlying hu, Result.andThen_ok, hb, run_sizeOf' hi, Sem.run_pure]
  split <;> rfl

theorem elemIs_ok (W : WR P w0 β h w) {i : Nat} {e : TypeId} {m : Nm} (he : elemIs h i e = true) (hm : β i = some m) : m.es = szOf P e := by
  unfold elemIs at he
  split at he
  · rename_i cs e' hr
    obtain ⟨cur, _, _, h3, _⟩ := W.ok i _ m (row?_some hr) hm
    rw [h3, Nat.eq_of_beq_eq_true he]
  · cases he

theorem aslice_ok (W : WR P w0 β h w) {t : TypeId} {x u v : Value} {lo hi mx lo' hi' mx' : Option Value} (hx : VR β x u) (hlo : OV β lo lo') (hhi : OV β hi hi') (hmx : OV β mx mx') (ha : aslice P h t x lo hi mx = some v) :
    ∃ v', (Instr.sliceAt t u lo' hi' mx').run P w = .ok v' w ∧ VR β v v' := by
  unfold aslice at ha
  split at ha <;> try (cases ha; done)
  · rename_i e i o len c hu
    split at ha <;> try (cases ha; done)
    rename_i sz hs
    obtain ⟨ti, hti, rfl⟩ := sizeO_some hs
    split at ha
    · cases mx' with
      | some _ => exact hmx.elim
      | none =>
      split at ha <;> try (cases ha; done)
      rename_i H hH
      split at ha <;> try (cases ha; done)
      rename_i L hL
      obtain ⟨e1, bh⟩ := bnd_ok hhi hH
      obtain ⟨e2, bl⟩ := bnd_ok hlo hL
      rw [e1, e2]
      cases hle : Nat.ble len (c / 2) with
      | false => rw [hle] at ha; cases ha
      | true =>
      rw [hle] at ha
      simp only [cond_true] at ha
      have hle := Nat.le_of_ble_eq_true hle
      have hHc : H ≤ c / 2 := by
        rcases bh with ⟨_, r⟩ | ⟨k, j, _, h0, h1, r⟩ <;> omega
      have hLH : L ≤ H := by
        rcases bl with ⟨_, r⟩ | ⟨k, j, _, h0, h1, r⟩ <;> omega
      have conc : ∀ (a : Addr) (c' : Nat), c / 2 ≤ c' → (Instr.sliceAt t (.slice (some a) len c') lo hi none).run P w = .ok (.slice (some (if c' = L then a else a.add (L * ti.size))) (H - L) (c' - L)) w := by
        intro a c' hc
        refine run_slice_slice hu hti (run_sliceBounds (.inl ⟨rfl, rfl⟩) ?_ bl w)
        rcases bh with ⟨r1, r2⟩ | ⟨k, j, r, h0, h1, r2⟩
        · exact .inl ⟨r1, rfl, r2⟩
        · exact .inr ⟨k, j, r, h0, by omega, r2⟩
      rcases beq_cases (c % 2) 1 with ⟨c3, c1⟩ | ⟨c3, c1⟩
      · rw [c3] at ha
        cases hel : elemIs h i e with
        | false => rw [hel] at ha; cases ha
        | true =>
        rw [hel] at ha
        simp only [cond_true, Option.some.injEq] at ha
        subst ha
        cases hx with
        | same _ hc => simp [atomC] at hc
        | sl0 hl =>
          rename_i b' o'
          have hH0 : H = 0 := by omega
          have hL0 : L = 0 := by omega
          subst hH0; subst hL0
          refine ⟨_, conc _ 0 (by omega), ?_⟩
          simp only [Nat.zero_mul, Nat.add_zero, Nat.sub_zero, if_true]
          exact .sl0 (by omega)
        | sl hb hl =>
          rename_i c' m
          rcases hl with ⟨hl, _⟩ | ⟨_, hl, ht⟩
          · omega
          refine ⟨_, conc _ c' (by omega), ?_⟩
          by_cases hcl : c' = L
          · rw [if_pos hcl]
            have e1 : H - L = 0 := by omega
            have e3 : c' - L = 0 := by omega
            rw [e1, e3]
            exact .sl0 (by omega)
          · rw [if_neg hcl, Addr.add_lit]
            rw [show o + m.d + L * ti.size = o + L * ti.size + m.d by omega]
            refine .sl hb (.inr ⟨by omega, by omega, ?_⟩)
            have hLc : L ≤ c' := by omega
            rw [Nat.sub_mul]
            have h2 : L * m.es ≤ c' * m.es := Nat.mul_le_mul_right _ hLc
            have h3 : m.es = ti.size := by rw [elemIs_ok W hel hb]; simp [szOf, hti]
            rw [h3] at h2 ht ⊢
            omega
      · rw [c3] at ha
        simp only [cond_false, Option.some.injEq] at ha
        subst ha
        cases hx with
        | same _ hc => simp [atomC] at hc
        | sl0 hl =>
          rename_i b' o'
          have hH0 : H = 0 := by omega
          have hL0 : L = 0 := by omega
          subst hH0; subst hL0
          refine ⟨_, conc _ 0 (by omega), ?_⟩
          rw [hl]
          simp only [Nat.zero_mul, Nat.add_zero, Nat.sub_zero, if_true]
          exact .sl0 (by omega)
        | sl hb hl =>
          rename_i c' m
          have hcc : c' = c / 2 := by omega
          refine ⟨_, conc _ c' (by omega), ?_⟩
          rw [← hcc]
          rcases beq_cases c' L with ⟨q1, q2⟩ | ⟨q1, q2⟩
          · rw [q1, if_pos q2]
            exact .sl hb (.inl ⟨by omega, by omega⟩)
          · rw [q1, if_neg q2, Addr.add_lit]
            simp only [cond_false]
            rw [show o + m.d + L * ti.size = o + L * ti.size + m.d by omega]
            exact .sl hb (.inl ⟨by omega, by omega⟩)
    · rename_i mv
      cases mx' with
      | none => exact hmx.elim
      | some mv' =>
      split at ha <;> try (cases ha; done)
      rename_i M hv hM
      split at ha <;> try (cases ha; done)
      rename_i H hH
      split at ha <;> try (cases ha; done)
      rename_i L hL
      cases hi' with
      | none => exact hhi.elim
      | some hv' =>
      obtain ⟨e1, bm⟩ := bnd_ok (v := some mv) (v' := some mv') hmx hM
      obtain ⟨e2, bh⟩ := bnd_ok (v := some hv) (v' := some hv') hhi hH
      obtain ⟨e3, bl⟩ := bnd_ok hlo hL
      rw [e3]
      cases e1; cases e2
      cases ha
      have bm' : ∃ k i, mv = Value.int k i ∧ 0 ≤ i ∧ i ≤ ((c / 2 : Nat) : Int) ∧ M = i.toNat := by
        rcases bm with ⟨h0, _⟩ | ⟨k, j, h0, h1, h2, h3⟩
        · cases h0
        · cases h0; exact ⟨k, j, rfl, h1, h2, h3⟩
      have bh' : ∃ k i, hv = Value.int k i ∧ 0 ≤ i ∧ i ≤ (M : Int) ∧ H = i.toNat := by
        rcases bh with ⟨h0, _⟩ | ⟨k, j, h0, h1, h2, h3⟩
        · cases h0
        · cases h0; exact ⟨k, j, rfl, h1, h2, h3⟩
      obtain ⟨km, im, rfl, m0, m1, mE⟩ := bm'
      obtain ⟨kh, ih, rfl, h0, h1, hE⟩ := bh'
      have hHM : H ≤ M := by clear bl bh bm; omega
      have hMc : M ≤ c / 2 := by clear bl bh bm; omega
      have hLH : L ≤ H := by
        rcases bl with ⟨_, r⟩ | ⟨k, j, _, h0, h1, r⟩ <;> omega
      have conc : ∀ (a : Addr) (c' : Nat), c / 2 ≤ c' → (Instr.sliceAt t (.slice (some a) len c') lo (some (.int kh ih)) (some (.int km im))).run P w = .ok (.slice (some (if M = L then a else a.add (L * ti.size))) (H - L) (M - L)) w := by
        intro a c' hc
        exact run_slice_slice hu hti (run_sliceBounds (.inr ⟨km, im, rfl, m0, by omega, mE⟩) (.inr ⟨kh, ih, rfl, h0, h1, hE⟩) bl w)
      cases hx with
      | same _ hc => simp [atomC] at hc
      | sl0 hl =>
        have hM0 : M = 0 := by clear bl bh bm conc; omega
        have hH0 : H = 0 := by clear bl bh bm conc; omega
        have hL0 : L = 0 := by clear bl bh bm conc; omega
        subst hM0; subst hH0; subst hL0
        refine ⟨_, conc _ 0 (by omega), ?_⟩
        simp only [Nat.zero_mul, Nat.add_zero, Nat.sub_zero, if_true]
        exact .sl0 (by omega)
      | sl hb hl =>
        rename_i c' m
        refine ⟨_, conc _ c' (by rcases hl with h | h <;> omega), ?_⟩
        rcases beq_cases M L with ⟨q1, q2⟩ | ⟨q1, q2⟩
        · rw [q1, if_pos q2]
          exact .sl hb (.inl ⟨by omega, by omega⟩)
        · rw [q1, if_neg q2, Addr.add_lit]
          simp only [cond_false]
          rw [show o + m.d + L * ti.size = o + L * ti.size + m.d by omega]
          exact .sl hb (.inl ⟨by omega, by omega⟩)
  · rename_i n e i o hu
    split at ha <;> try (cases ha; done)
    rename_i sz hs
    obtain ⟨ti, hti, rfl⟩ := sizeO_some hs
    cases mx' with
    | some _ => exact hmx.elim
    | none =>
    split at ha <;> try (cases ha; done)
    rename_i H hH
    split at ha <;> try (cases ha; done)
    rename_i L hL
    obtain ⟨e1, bh⟩ := bnd_ok hhi hH
    obtain ⟨e2, bl⟩ := bnd_ok hlo hL
    rw [e1, e2]
    cases ha
    cases hx with
    | same _ hc => simp [atomC] at hc
    | ptr hb =>
      rename_i m
      have hbnd := run_sliceBounds (P := P) (lo := lo) (hi := hi) (mx := none) (isS := false) (len := n) (cap := n) (L := L) (H := H) (M := n) (.inl ⟨rfl, rfl⟩) (by
        rcases bh with ⟨r1, r2⟩ | ⟨k, j, r, h0, h1, r2⟩
        · exact .inl ⟨r1, rfl, r2⟩
        · exact .inr ⟨k, j, r, h0, h1, r2⟩) bl w
      refine ⟨.slice (some (if n = L then ⟨m.b, o + m.d, none⟩ else (⟨m.b, o + m.d, none⟩ : Addr).add (L * ti.size))) (H - L) (n - L), ?_, ?_⟩
      · simp only [Instr.sliceAt, Sem.run_bind, run_underlying hu, Result.andThen_ok, Instr.sureAddr, Sem.run_pure, hbnd, run_sizeOf' hti]
      · rcases beq_cases n L with ⟨q1, q2⟩ | ⟨q1, q2⟩
        · rw [q1, if_pos q2]
          exact .sl hb (.inl ⟨by omega, by omega⟩)
        · rw [q1, if_neg q2, Addr.add_lit]
          simp only [cond_false]
          rw [show o + m.d + L * ti.size = o + L * ti.size + m.d by omega]
          exact .sl hb (.inl ⟨by omega, by omega⟩)
end
end Go.CX
/-
  THE CLOSED RUN, FIFTH PART: scalars, comparisons with nil, lengths, new slices and maps. By an AI agent.
-/
namespace Go.CX
set_option linter.unusedVariables false
set_option linter.unusedSimpArgs false
set_option linter.unusedSectionVars false

section
variable {P : Program} {w0 : World} {β : Be} {h : Hp} {w : World}

def clnR (r : Option Value) : Option Value := match r with
  | some v => bif cln v then some v else none
  | none => none
theorem clnR_some {r : Option Value} {v : Value} (hr : clnR r = some v) : r = some v ∧ cln v = true := by
  unfold clnR at hr
  split at hr <;> try (cases hr; done)
  rename_i x
  cases hc : cln x with
  | false => rw [hc] at hr; cases hr
  | true => rw [hc] at hr; cases hr; exact ⟨rfl, hc⟩

def nilNe (P : Program) (t : TypeId) (a b : Value) : Bool := match P.underlying t, a, b with
  | some (.pointer _), .pointer none, .pointer (some _) => true
  | some (.pointer _), .pointer (some _), .pointer none => true
  | some (.slice _), .slice none _ _, .slice (some _) _ _ => true
  | some (.slice _), .slice (some _) _ _, .slice none _ _ => true
  | some (.map _ _), .map none, .map (some _) => true
  | some (.map _ _), .map (some _), .map none => true
  | some (.func _ _ _), .nilFunc, .func _ _ _ => true
  | some (.func _ _ _), .func _ _ _, .nilFunc => true
  | _, _, _ => false

theorem run_eql_eq (t : TypeId) (a b : Value) (w : World) (hn : nilNe P t a b = true) : (Op.equal t a b).run P w = .ok false w := by
  unfold nilNe at hn
  unfold Op.equal Op.maxDepth
  show (Op.equalIn (9999 + 1) t a b).run P w = .ok false w
  unfold Op.equalIn
  split at hn <;> try (cases hn; done)
  all_goals (rename_i hu; simp only [Sem.run_bind, run_underlying hu, Result.andThen_ok]; rfl)

theorem nilNe_rel {t : TypeId} {a b a' b' : Value} (ha : VR β a a') (hb : VR β b b') (hn : nilNe P t a b = true) : nilNe P t a' b' = true := by
  unfold nilNe at hn
  split at hn <;> try (cases hn; done)
  all_goals
    rename_i hu
    cases ha <;> cases hb <;> simp_all [nilNe, atomC]

/-! Structs of numbers and Booleans: '==' at open numbers. -/
def flatV : List Value → Option (List AL.V)
  | [] => some []
  | .int k n :: l => match flatV l with
    | some r => some (.int k n :: r)
    | none => none
  | .bool b :: l => match flatV l with
    | some r => some (.bool b :: r)
    | none => none
  | _ => none
theorem flatV_rel {w : World} {A : Nat → Prop} : ∀ {l : List Value} {xs : List AL.V}, flatV l = some xs → AL.PRel w A xs l
  | [], xs, h => by cases h; exact ⟨rfl, fun i x hx => by simp at hx⟩
  | .int k n :: l, xs, h => by
    rw [show flatV (.int k n :: l) = (match flatV l with | some r => some (AL.V.int k n :: r) | none => none) from rfl] at h
    split at h <;> try (cases h; done)
    rename_i r hr
    cases h
    obtain ⟨h1, h2⟩ := flatV_rel (w := w) (A := A) hr
    refine ⟨by simp [h1], fun i x hx => ?_⟩
    cases i with
    | zero => simp at hx; subst hx; exact ⟨_, rfl, .int _ _⟩
    | succ i => exact h2 i x (by simpa using hx)
  | .bool b :: l, xs, h => by
    rw [show flatV (.bool b :: l) = (match flatV l with | some r => some (AL.V.bool b :: r) | none => none) from rfl] at h
    split at h <;> try (cases h; done)
    rename_i r hr
    cases h
    obtain ⟨h1, h2⟩ := flatV_rel (w := w) (A := A) hr
    refine ⟨by simp [h1], fun i x hx => ?_⟩
    cases i with
    | zero => simp at hx; subst hx; exact ⟨_, rfl, .bool _⟩
    | succ i => exact h2 i x (by simpa using hx)
  | .float .. :: l, xs, h | .complex .. :: l, xs, h | .string .. :: l, xs, h | .pointer .. :: l, xs, h | .slice .. :: l, xs, h | .map .. :: l, xs, h | .agg .. :: l, xs, h | .tuple .. :: l, xs, h | .func .. :: l, xs, h | .nilFunc :: l, xs, h | .nilIface :: l, xs, h | .iface .. :: l, xs, h | .chan .. :: l, xs, h => by simp [flatV] at h
def aeqV (P : Program) (op : BinOp) (t : TypeId) (a b : Value) : Option Value := match a, b with
  | .agg A, .agg B => match flatV A.toList, flatV B.toList with
    | some xs, some ys => match AL.eqCs xs ys with
      | some r => bif AL.isRowT P t && decide (AL.eqSh P t = some (xs.filterMap AL.kindV)) then (match op with
        | .eql => some (.bool r)
        | .neq => some (.bool !r)
        | _ => none) else none
      | none => none
    | _, _ => none
  | _, _ => none
theorem aeqV_ok {op : BinOp} {t : TypeId} {X Y : Operand} {a b v : Value} (h : aeqV P op t a b = some v) (w : World) : (do eqGuard op t X Y a b; binOp op t a b : Sem Value).run P w = .ok v w ∧ cln v = true := by
  unfold aeqV at h
  split at h <;> try (cases h; done)
  rename_i A B
  split at h <;> try (cases h; done)
  rename_i xs ys hx hy
  split at h <;> try (cases h; done)
  rename_i r hr
  cases hc : AL.isRowT P t && decide (AL.eqSh P t = some (xs.filterMap AL.kindV)) with
  | false => rw [hc] at h; cases h
  | true =>
    rw [hc] at h
    simp only [cond_true] at h
    simp only [Bool.and_eq_true, decide_eq_true_eq] at hc
    obtain ⟨hrow, hsh⟩ := hc
    unfold AL.eqSh at hsh
    split at hsh <;> try (cases hsh; done)
    rename_i hg
    have hg : P.eqGuardType P.depth t = false := by simpa using hg
    have k2 : (Op.equalIn 10000 t (.agg A) (.agg B)).run P w = .ok r w := by
      have := AL.run_equalN (fun _ => False) w 8 t _ hsh 10000 (by omega) xs ys A.toList B.toList r (flatV_rel hx) (flatV_rel hy) rfl hr w
      simpa [AL.valOf, hrow] using this
    split at h <;> try (cases h; done)
    · cases h
      refine ⟨?_, rfl⟩
      rw [Sem.run_bind, run_eqGuard_agg w _ t X Y A B hg, Result.andThen_ok, run_eql_struct, k2, Result.andThen_ok]
    · cases h
      refine ⟨?_, rfl⟩
      rw [Sem.run_bind, run_eqGuard_agg w _ t X Y A B hg, Result.andThen_ok, run_neq_struct, k2, Result.andThen_ok]

def abin (P : Program) (op : BinOp) (t : TypeId) (X Y : Operand) (a b : Value) : Option Value :=
  bif cln a && cln b then (match aeqV P op t a b with
    | some v => some v
    | none => clnR (prun P (do eqGuard op t X Y a b; binOp op t a b)))
  else bif nilNe P t a b then (match op with
    | .eql => some (.bool false)
    | .neq => some (.bool true)
    | _ => none) else none

theorem abin_ok {op : BinOp} {t : TypeId} {X Y : Operand} {a b a' b' v : Value} (ha : VR β a a') (hb : VR β b b') (hv : abin P op t X Y a b = some v) (w : World) :
    ∃ v', (do eqGuard op t X Y a' b'; binOp op t a' b' : Sem Value).run P w = .ok v' w ∧ VR β v v' := by
  unfold abin at hv
  cases hc : cln a && cln b with
  | true =>
    rw [hc] at hv
    simp only [cond_true] at hv
    simp only [Bool.and_eq_true] at hc
    rw [cln_eq hc.1 ha, cln_eq hc.2 hb]
    split at hv
    · rename_i u hu
      cases hv
      obtain ⟨h1, h2⟩ := aeqV_ok (X := X) (Y := Y) hu w
      exact ⟨_, h1, VR.cln h2⟩
    obtain ⟨h1, h2⟩ := clnR_some hv
    exact ⟨v, prun_run h1 w, VR.cln h2⟩
  | false =>
    rw [hc] at hv
    cases hn : nilNe P t a b with
    | false => rw [hn] at hv; cases hv
    | true =>
      rw [hn] at hv
      simp only [cond_true, cond_false] at hv
      have hn' := nilNe_rel ha hb hn
      have he := run_eql_eq (P := P) t a' b' w hn'
      have hg : (eqGuard op t X Y a' b').run P w = .ok () w := by
        unfold eqGuard
        unfold nilNe at hn'
        split at hn' <;> try (cases hn'; done)
        all_goals (cases op <;> rfl)
      have hbin : ∀ r, (op = .eql ∧ r = false) ∨ (op = .neq ∧ r = true) → (binOp op t a' b').run P w = .ok (.bool r) w := by
        intro r hr
        unfold nilNe at hn'
        split at hn' <;> try (cases hn'; done)
        all_goals
          rcases hr with ⟨rfl, rfl⟩ | ⟨rfl, rfl⟩ <;> simp [binOp, he]
      cases op <;> simp only [Option.some.injEq] at hv <;> try (cases hv; done)
      · subst hv
        exact ⟨.bool false, by rw [Sem.run_bind, hg, Result.andThen_ok, hbin false (.inl ⟨rfl, rfl⟩)], .same _ rfl⟩
      · subst hv
        exact ⟨.bool true, by rw [Sem.run_bind, hg, Result.andThen_ok, hbin true (.inr ⟨rfl, rfl⟩)], .same _ rfl⟩

theorem EL.len {β : Be} : ∀ {l l' : List MapEntry}, EL β l l' → l.length = l'.length
  | [], [], _ => rfl
  | _ :: _, _ :: _, ⟨_, _, _, _, e⟩ => by simp [EL.len e]
  | [], _ :: _, h => h.elim
  | _ :: _, [], h => h.elim

def alen (P : Program) (h : Hp) (t : TypeId) (x : Value) : Option Value := match P.underlying t, x with
  | some (.slice _), .slice _ n _ => some (goInt n)
  | some (.map _ _), .map (some r) => match h.t.get r with
    | some (.mp es _) => some (goInt es.length)
    | _ => none
  | some (.map _ _), .map none => some (goInt 0)
  | _, _ => none
theorem alen_ok (W : WR P w0 β h w) {t ty : TypeId} {x u v : Value} (hx : VR β x u) (ha : alen P h t x = some v) : ∃ v', (Builtin.len_ #[t] ty #[u]).run P w = .ok v' w ∧ VR β v v' := by
  unfold alen at ha
  split at ha <;> try (cases ha; done)
  · rename_i e a n c hu
    cases ha
    have hn : ∃ a' c', u = .slice a' n c' := by cases hx <;> exact ⟨_, _, rfl⟩
    obtain ⟨a', c', rfl⟩ := hn
    exact ⟨goInt n, by simp [Builtin.len_, run_underlying hu], .same _ rfl⟩
  · rename_i r hu
    split at ha <;> try (cases ha; done)
    rename_i es cl hr
    cases ha
    cases hx with
    | same _ hc => simp [atomC] at hc
    | map hb =>
      obtain ⟨es', h1, h2⟩ := W.ok r _ _ hr hb
      exact ⟨goInt es.length, by simp [Builtin.len_, run_underlying hu, MapKept.run_getObj_map h1, show es'.size = es.length by simpa using h2.len.symm], .same _ rfl⟩
  · rename_i hu
    cases ha
    cases hx
    exact ⟨goInt 0, by simp [Builtin.len_, run_underlying hu], .same _ rfl⟩

/-! ### New slices and maps -/
def intO : Value → Option Int
  | .int _ n => some n
  | _ => none
theorem intO_ok {x u : Value} {n : Int} (hx : VR β x u) (hi : intO x = some n) : (∃ k, u = .int k n) := by
  unfold intO at hi
  split at hi <;> try (cases hi; done)
  rename_i k m
  cases hi
  exact ⟨k, cln_eq (v := .int k _) rfl hx⟩

theorem zero_rel {z : Value} (hc : cln z = true) (hs : 1 ≤ z.cells.size) (m : Nat) : VL β ((Array.range m).map (z.cells[· % z.cells.size]!)).toList ((Array.range m).map (z.cells[· % z.cells.size]!)).toList ∧
    ∀ v ∈ ((Array.range m).map (z.cells[· % z.cells.size]!)).toList, v.oneCell' = true := by
  have key : ∀ v ∈ ((Array.range m).map (z.cells[· % z.cells.size]!)).toList, v ∈ z.cells.toList := by
    intro v hv
    simp only [Array.toList_map, List.mem_map] at hv
    obtain ⟨k, _, rfl⟩ := hv
    have hlt : k % z.cells.size < z.cells.size := Nat.mod_lt _ (by omega)
    rw [getElem!_pos z.cells (k % z.cells.size) hlt]
    simp
  have hv := (VR.cln (β := β) hc).cells
  refine ⟨⟨rfl, fun i v v' a b => ?_⟩, fun v hv => cln_one hc v (key v hv)⟩
  rw [a] at b
  cases b
  obtain ⟨j, hj⟩ := List.getElem?_of_mem (key v (List.mem_of_getElem? a))
  exact hv.2 j v v hj hj

def nmakeSlice (P : Program) (t : TypeId) (l c : Value) (n : Nat) : Option (Value × AO) := match P.underlying t, intO l, intO c with
  | some (.slice e), some li, some ci => match zeroV P e, P.info? e with
    | some z, some ti => bif decide (0 ≤ li) && decide (li ≤ ci) && decide (ci ≤ 1048576) && decide (ti.bytes ≤ 65536) && Nat.ble 1 ti.size then
        some (.slice (some ⟨n, 0, none⟩) li.toNat (2 * ci.toNat), .row ((List.range (ci.toNat * ti.size)).map fun k => z.cells[k % z.cells.size]!) e) else none
    | _, _ => none
  | _, _, _ => none

theorem nmakeSlice_ok {n : Nat} (hb : β n = none) {t : TypeId} {l c l' c' v : Value} {o : AO} (hl : VR β l l') (hc : VR β c c') (ha : nmakeSlice P t l c n = some (v, o)) : NewAt P β n w ((Instr.makeSlice t l' c').run P w) v o := by
  unfold nmakeSlice at ha
  split at ha <;> try (cases ha; done)
  rename_i e li ci hu hli hci
  split at ha <;> try (cases ha; done)
  rename_i z ti hz hti
  cases hck : decide (0 ≤ li) && decide (li ≤ ci) && decide (ci ≤ 1048576) && decide (ti.bytes ≤ 65536) && Nat.ble 1 ti.size with
  | false => rw [hck] at ha; cases ha
  | true =>
    rw [hck] at ha
    cases ha
    simp only [Bool.and_eq_true, decide_eq_true_eq] at hck
    obtain ⟨⟨⟨⟨h1, h2⟩, h3⟩, h4⟩, h5⟩ := hck
    have h5 := Nat.le_of_ble_eq_true h5
    obtain ⟨kl, rfl⟩ := intO_ok hl hli
    obtain ⟨kc, rfl⟩ := intO_ok hc hci
    obtain ⟨ti', hi, hzv, hzc, hzs⟩ := zeroV_some hz
    rw [hti] at hi
    cases hi
    obtain ⟨lN, rfl⟩ := Int.eq_ofNat_of_zero_le h1
    obtain ⟨cN, rfl⟩ := Int.eq_ofNat_of_zero_le (by omega : 0 ≤ ci)
    obtain ⟨q1, q2⟩ := zero_rel (β := β) hzc (by omega) (cN * ti.size)
    have hr := run_make (P := P) w t e ti z hu hti hzv kl kc lN cN (by omega) (by omega) (by
      have : ti.bytes * cN ≤ 65536 * 1048576 := Nat.mul_le_mul h4 (by omega)
      have h6 : ((ti.bytes * cN : Nat) : Int) ≤ ((65536 * 1048576 : Nat) : Int) := Int.ofNat_le.2 this
      rw [Int.natCast_mul] at h6
      omega) (by omega)
    unfold madeCells at hr
    simp only [Int.toNat_natCast] at hr
    rw [hr]
    have e1 : ((List.range (cN * ti.size)).map fun k => z.cells[k % z.cells.size]!) = ((Array.range (cN * ti.size)).map (z.cells[· % z.cells.size]!)).toList := by simp
    simp only [Int.toNat_natCast]
    rw [e1]
    refine new_row hb q1 q2 ?_
    have := VR.sl (β := β.set n ⟨w.heap.size, 0, szOf P e, ((Array.range (cN * ti.size)).map (z.cells[· % z.cells.size]!)).size⟩) (o := 0) (len := lN) (c := 2 * cN) (c' := cN) Be.set_same (.inl ⟨by omega, by omega⟩)
    simpa using this

def nmakeMap (n : Nat) : Option (Value × AO) := some (.map (some n), .mp [] 0)
theorem nmakeMap_ok {n : Nat} (hb : β n = none) {t : TypeId} {v : Value} {o : AO} (ha : nmakeMap n = some (v, o)) : NewAt P β n w ((Instr.makeMap t none).run P w) v o := by
  cases ha
  refine ⟨.map (some w.heap.size), w.alloc (.map #[] 0), ⟨w.heap.size, 0, 0, 0⟩, by simp [Instr.makeMap], ?_, rfl, rfl, rfl, fun b hb => heap_alloc_old w _ hb, Nat.le_refl _, by show w.heap.size < (w.heap.push _).size; simp, ?_⟩
  · exact .map (m := ⟨w.heap.size, 0, 0, 0⟩) Be.set_same
  · exact ⟨#[], heap_alloc_new w _, trivial⟩

theorem run_buildSlice0 (w : World) (t e : TypeId) (ie : TypeInfo) (hu : P.underlying t = some (.slice e)) (hie : P.info? e = some ie) :
    (Instr.buildSlice t 0 #[]).run P w = .ok (.slice (some ⟨w.heap.size, 0, none⟩) 0 0) (w.alloc (.cells #[] e)) := by
  have h0 : ∀ f : Nat → Value, Array.map f (Array.range 0) = #[] := fun f => Array.eq_empty_of_size_eq_zero (by simp)
  simp [Instr.buildSlice, run_underlying hu, sizeOf, typeInfo, hie, Instr.fill, newRow, h0]

def nbuildSlice (P : Program) (t : TypeId) (len : Nat) (ps : List (Nat × Value)) (n : Nat) : Option (Value × AO) := match P.underlying t with
  | some (.slice e) => match len, ps with
   | 0, [] => match P.info? e with
    | some _ => some (.slice (some ⟨n, 0, none⟩) 0 0, .row [] e)
    | none => none
   | _, _ => match zeroV P e, P.info? e with
    | some z, some ti => bif Nat.ble (len * ti.size) 65536 && Nat.ble 1 ti.size && Nat.ble 1 len then
        (match Instr.fill (fun i => some (i * ti.size, ti.size)) ((Array.range (len * ti.size)).map (z.cells[· % z.cells.size]!)) ps with
        | some cs => bif cs.toList.all (·.oneCell') then some (.slice (some ⟨n, 0, none⟩) len (2 * len), .row cs.toList e) else none
        | none => none) else none
    | _, _ => none
  | _ => none
theorem nbuildSlice_ok {n : Nat} (hb : β n = none) {t : TypeId} {len : Nat} {ps : List (Nat × Value)} {cps : Array (Nat × Value)} {v : Value} {o : AO} (hp : VP β ps cps.toList) (ha : nbuildSlice P t len ps n = some (v, o)) :
    NewAt P β n w ((Instr.buildSlice t len cps).run P w) v o := by
  unfold nbuildSlice at ha
  split at ha <;> try (cases ha; done)
  rename_i e hu
  split at ha
  · split at ha <;> try (cases ha; done)
    rename_i ti hti
    cases ha
    have hcp : cps = #[] := by
      cases hc : cps.toList with
      | nil => exact Array.toList_inj.1 hc
      | cons q l => rw [hc] at hp; exact hp.elim
    subst hcp
    rw [run_buildSlice0 w t e ti hu hti]
    refine new_row hb .nil (by simp) ?_
    have := VR.sl (β := β.set n ⟨w.heap.size, 0, szOf P e, (#[] : Array Value).size⟩) (o := 0) (len := 0) (c := 0) (c' := 0) Be.set_same (.inl ⟨rfl, rfl⟩)
    simpa using this
  split at ha <;> try (cases ha; done)
  rename_i z ti hz hti
  cases hck : Nat.ble (len * ti.size) 65536 && Nat.ble 1 ti.size && Nat.ble 1 len with
  | false => rw [hck] at ha; cases ha
  | true =>
    rw [hck] at ha
    simp only [cond_true] at ha
    split at ha <;> try (cases ha; done)
    rename_i cs hcs
    cases hone : cs.toList.all (·.oneCell') with
    | false => rw [hone] at ha; cases ha
    | true =>
      rw [hone] at ha
      cases ha
      simp only [Bool.and_eq_true] at hck
      obtain ⟨⟨h1, h2⟩, h3⟩ := hck
      have h1 := Nat.le_of_ble_eq_true h1
      have h2 := Nat.le_of_ble_eq_true h2
      have h3 := Nat.le_of_ble_eq_true h3
      obtain ⟨ti', hi, hzv, hzc, hzs⟩ := zeroV_some hz
      rw [hti] at hi
      cases hi
      have hz2 := (zero_rel (β := β) hzc (by omega) (len * ti.size)).1
      obtain ⟨cs', q1, q2⟩ := fill_ok ps cps.toList _ _ cs hp hz2 hcs
      have hpos : 0 < len * ti.size := Nat.mul_pos h3 h2
      have hr : (Instr.buildSlice t len cps).run P w = .ok (.slice (some ⟨w.heap.size, 0, none⟩) len len) (w.alloc (.cells cs' e)) := by
        exact run_buildSlice w t e len cps cs' ti z hu hti hzv (by
          have : (65536 : Nat) < 2 ^ 24 := by decide
          omega) (by omega) q1
      rw [hr]
      refine new_row hb q2 (q2.one hone) ?_
      have := VR.sl (β := β.set n ⟨w.heap.size, 0, szOf P e, cs'.size⟩) (o := 0) (len := len) (c := 2 * len) (c' := len) Be.set_same (.inl ⟨by omega, by omega⟩)
      simpa using this
end
end Go.CX
/-
  THE CLOSED RUN, SIXTH PART: maps. By an AI agent.
-/
namespace Go.CX
set_option linter.unusedVariables false
set_option linter.unusedSimpArgs false
set_option linter.unusedSectionVars false

section
variable {P : Program} {w0 : World} {β : Be} {h : Hp} {w : World}

def FR (β : Be) : Option (Nat × Value) → Option (Nat × Value) → Prop
  | none, none => True
  | some (i, v), some (j, v') => j = i ∧ VR β v v'
  | _, _ => False

theorem findNow_rel {d : TypeDesc} {k : Value} : ∀ {l l' : List MapEntry} (i : Nat), EL β l l' →
    (Instr.findNow d k l i = none ∧ Instr.findNow d k l' i = none) ∨ ∃ r r', Instr.findNow d k l i = some r ∧ Instr.findNow d k l' i = some r' ∧ FR β r r'
  | [], [], i, _ => .inr ⟨none, none, rfl, rfl, trivial⟩
  | x :: l, y :: l', i, ⟨a, b, c, e, f⟩ => by
    simp only [Instr.findNow, a]
    cases Instr.sameNow d k x.key with
    | none => exact .inl ⟨rfl, rfl⟩
    | some t => cases t with
      | true => exact .inr ⟨_, _, rfl, rfl, rfl, e⟩
      | false => exact findNow_rel (i + 1) f
  | [], _ :: _, _, h => h.elim
  | _ :: _, [], _, h => h.elim

theorem findAsking_rel {kt : TypeId} {k : Value} : ∀ {l l' : List MapEntry} (i : Nat) {r : Option (Nat × Value)}, EL β l l' → prun P (Instr.findAsking kt k l i) = some r →
    ∃ r', prun P (Instr.findAsking kt k l' i) = some r' ∧ FR β r r'
  | [], [], i, r, _, h => by
    simp only [Instr.findAsking] at h ⊢
    cases h
    exact ⟨none, rfl, trivial⟩
  | x :: l, y :: l', i, r, ⟨a, b, c, e, f⟩, h => by
    simp only [Instr.findAsking, prun_bind, a] at h ⊢
    cases hq : prun P (Op.equal kt k x.key) with
    | none => rw [hq] at h; cases h
    | some t =>
      rw [hq] at h
      simp only [Option.bind_some] at h ⊢
      cases t with
      | true => simp only [if_true] at h ⊢; cases h; exact ⟨_, rfl, rfl, e⟩
      | false => simp only [Bool.false_eq_true, if_false] at h ⊢; exact findAsking_rel (i + 1) f h
  | [], _ :: _, _, _, h, _ => h.elim
  | _ :: _, [], _, _, h, _ => h.elim

theorem findKey_rel {kt : TypeId} {k : Value} {l l' : List MapEntry} {r : Option (Nat × Value)} (hl : EL β l l') (hr : prun P (Instr.findKey kt k l) = some r) : ∃ r', prun P (Instr.findKey kt k l') = some r' ∧ FR β r r' := by
  simp only [Instr.findKey, prun_bind] at hr ⊢
  cases hu : prun P (underlying kt) with
  | none => rw [hu] at hr; cases hr
  | some d =>
    rw [hu] at hr
    simp only [Option.bind_some] at hr ⊢
    rcases findNow_rel (d := d) (k := k) 0 hl with ⟨h1, h2⟩ | ⟨q, q', h1, h2, h3⟩
    · rw [h1] at hr
      rw [h2]
      exact findAsking_rel 0 hl hr
    · rw [h1] at hr
      rw [h2]
      cases hr
      exact ⟨q', rfl, h3⟩

def mpOf (h : Hp) (x : Value) : Option (List MapEntry) := match x with
  | .map none => some []
  | .map (some r) => match h.t.get r with
    | some (.mp es _) => some es
    | _ => none
  | _ => none

def alookup (P : Program) (h : Hp) (t : TypeId) (x k : Value) (ok : Bool) : Option Value := match P.underlying t, mpOf h x with
  | some (.map kt et), some es => bif cln k then (match prun P (Instr.checkKey es.isEmpty 10000 kt k), prun P (Instr.findKey kt k es) with
    | some _, some (some (_, v)) => some (bif ok then .tuple #[v, .bool true] else v)
    | some _, some none => (zeroV P et).map fun z => bif ok then .tuple #[z, .bool false] else z
    | _, _ => none) else none
  | _, _ => none

theorem tup2 {a a' : Value} (ha : VR β a a') (b : Bool) : VR β (.tuple #[a, .bool b]) (.tuple #[a', .bool b]) := by
  refine .tup _ _ rfl fun i v v' h1 h2 => ?_
  rcases i with _ | _ | i
  · simp at h1 h2; subst h1; subst h2; exact ha
  · simp at h1 h2; subst h1; subst h2; exact .same _ rfl
  · simp at h1

theorem mpOf_ok (W : WR P w0 β h w) {x u : Value} {es : List MapEntry} (hx : VR β x u) (hm : mpOf h x = some es) :
    ∃ es' : Array MapEntry, EL β es es'.toList ∧ ((u = .map none ∧ es' = #[]) ∨ ∃ b c, u = .map (some b) ∧ w.heap[b]? = some (.map es' c)) := by
  unfold mpOf at hm
  split at hm
  · cases hm
    cases hx
    exact ⟨#[], trivial, .inl ⟨rfl, rfl⟩⟩
  · rename_i r
    split at hm <;> try (cases hm; done)
    rename_i es0 c hr
    cases hm
    cases hx with
    | same _ hc => simp [atomC] at hc
    | map hb =>
      obtain ⟨es', h1, h2⟩ := W.ok r _ _ hr hb
      exact ⟨es', h2, .inr ⟨_, c, rfl, h1⟩⟩
  · cases hm

theorem isEmpty_of {es : List MapEntry} {es' : Array MapEntry} (h : EL β es es'.toList) : es'.isEmpty = es.isEmpty := by
  have := h.len
  cases es with
  | nil =>
    simp at this
    rw [Array.eq_empty_of_size_eq_zero this.symm]
    rfl
  | cons x l =>
    simp at this
    simp only [List.isEmpty_cons]
    rw [Array.isEmpty_eq_false_iff]
    intro hn
    rw [hn] at this
    simp at this

theorem alookup_ok (W : WR P w0 β h w) {t : TypeId} {x u k k' v : Value} {ok : Bool} (hx : VR β x u) (hk : VR β k k') (ha : alookup P h t x k ok = some v) : ∃ v', (Instr.lookup t u k' ok).run P w = .ok v' w ∧ VR β v v' := by
  unfold alookup at ha
  split at ha <;> try (cases ha; done)
  rename_i kt et es hu hes
  cases hc : cln k with
  | false => rw [hc] at ha; cases ha
  | true =>
    rw [hc] at ha
    simp only [cond_true] at ha
    have hkk := cln_eq hc hk
    subst hkk
    obtain ⟨es', hel, hobj⟩ := mpOf_ok W hx hes
    split at ha <;> try (cases ha; done)
    · rename_i q i v0 hck hfk
      cases ha
      obtain ⟨r', g1, g2⟩ := findKey_rel hel hfk
      cases r' with
      | none => exact g2.elim
      | some p =>
        obtain ⟨j, v1⟩ := p
        obtain ⟨rfl, g3⟩ := g2
        refine ⟨if ok then .tuple #[v1, .bool true] else v1, ?_, ?_⟩
        · have he := isEmpty_of hel
          rcases hobj with ⟨rfl, rfl⟩ | ⟨b, c, rfl, hb⟩
          · simp only [Instr.lookup, Sem.run_bind, run_underlying hu, Result.andThen_ok, Sem.run_pure, he, prun_run hck w, prun_run g1 w]
          · simp only [Instr.lookup, Sem.run_bind, run_underlying hu, Result.andThen_ok, Sem.run_pure, MapKept.run_getObj_map hb, he, prun_run hck w, prun_run g1 w]
        · cases ok
          · exact g3
          · exact tup2 g3 true
    · rename_i q hck hfk
      simp only [Option.map_eq_some_iff] at ha
      obtain ⟨z, hz, rfl⟩ := ha
      obtain ⟨ti, hi, hzv, hzc, _⟩ := zeroV_some hz
      obtain ⟨r', g1, g2⟩ := findKey_rel hel hfk
      cases r' with
      | some p => exact g2.elim
      | none =>
        refine ⟨if ok then .tuple #[z, .bool false] else z, ?_, ?_⟩
        · have he := isEmpty_of hel
          rcases hobj with ⟨rfl, rfl⟩ | ⟨b, c, rfl, hb⟩
          · simp only [Instr.lookup, Sem.run_bind, run_underlying hu, Result.andThen_ok, Sem.run_pure, he, prun_run hck w, prun_run g1 w, zeroValue, typeInfo, run_program, hi, hzv]
          · simp only [Instr.lookup, Sem.run_bind, run_underlying hu, Result.andThen_ok, Sem.run_pure, MapKept.run_getObj_map hb, he, prun_run hck w, prun_run g1 w, zeroValue, typeInfo, run_program, hi, hzv]
        · cases ok
          · exact VR.cln hzc
          · exact tup2 (VR.cln hzc) false

/-! ### Changes of maps -/
theorem EL.set : ∀ {l l' : List MapEntry} (i : Nat) {x y : MapEntry}, EL β l l' → (y.key = x.key ∧ y.born = x.born ∧ cln x.key = true ∧ VR β x.val y.val) → EL β (l.set i x) (l'.set i y)
  | [], [], i, _, _, _, _ => by simp only [List.set_nil]; trivial
  | _ :: _, _ :: _, 0, _, _, ⟨a, b, c, d, e⟩, ⟨p, q, r, s⟩ => ⟨p, q, r, s, e⟩
  | _ :: _, _ :: _, i + 1, _, _, ⟨a, b, c, d, e⟩, h => ⟨a, b, c, d, EL.set i e h⟩
  | [], _ :: _, _, _, _, h, _ => h.elim
  | _ :: _, [], _, _, _, h, _ => h.elim
theorem EL.push : ∀ {l l' : List MapEntry} {x y : MapEntry}, EL β l l' → (y.key = x.key ∧ y.born = x.born ∧ cln x.key = true ∧ VR β x.val y.val) → EL β (l ++ [x]) (l' ++ [y])
  | [], [], _, _, _, ⟨p, q, r, s⟩ => ⟨p, q, r, s, trivial⟩
  | _ :: _, _ :: _, _, _, ⟨a, b, c, d, e⟩, h => ⟨a, b, c, d, EL.push e h⟩
  | [], _ :: _, _, _, h, _ => h.elim
  | _ :: _, [], _, _, h, _ => h.elim
theorem EL.erase : ∀ {l l' : List MapEntry} (i : Nat), EL β l l' → EL β (l.eraseIdx i) (l'.eraseIdx i)
  | [], [], i, _ => by simp only [List.eraseIdx_nil]; trivial
  | _ :: _, _ :: _, 0, ⟨a, b, c, d, e⟩ => e
  | _ :: _, _ :: _, i + 1, ⟨a, b, c, d, e⟩ => ⟨a, b, c, d, EL.erase i e⟩
  | [], _ :: _, _, h => h.elim
  | _ :: _, [], _, h => h.elim
theorem EL.get : ∀ {l l' : List MapEntry} {i : Nat} {x : MapEntry}, EL β l l' → l[i]? = some x → ∃ y, l'[i]? = some y ∧ y.key = x.key ∧ y.born = x.born ∧ cln x.key = true ∧ VR β x.val y.val
  | x :: _, y :: _, 0, _, ⟨a, b, c, d, e⟩, h => by simp at h; subst h; exact ⟨y, rfl, a, b, c, d⟩
  | _ :: _, _ :: _, i + 1, _, ⟨a, b, c, d, e⟩, h => by simpa using EL.get e (by simpa using h)
  | [], [], _, _, _, h => by simp at h
  | [], _ :: _, _, _, h, _ => h.elim
  | _ :: _, [], _, _, h, _ => h.elim

def updMap (P : Program) (kt : TypeId) (es : List MapEntry) (c : Nat) (k v : Value) : Option AO := match prun P (Instr.checkKey false 10000 kt k), prun P (Instr.findKey kt k es) with
  | some _, some (some (i, _)) => match es[i]? with
    | some e0 => match prun P (Instr.keyThatStays e0.key k) with
      | some k2 => bif cln k2 then some (.mp (es.set i ⟨k2, v, e0.born⟩) c) else none
      | none => none
    | none => none
  | some _, some none => some (.mp (es ++ [⟨k, v, c⟩]) (c + 1))
  | _, _ => none

def amapUpd (P : Program) (h : Hp) (t : TypeId) (x k v : Value) : Option Hp := match P.underlying t, x with
  | some (.map kt _), .map (some r) => match h.t.get r with
    | some (.mp es c) => bif cln k then (match updMap P kt es c k v with
      | some o => some ⟨h.t.put r (some o), h.n⟩
      | none => none) else none
    | _ => none
  | _, _ => none

theorem WR.setMap (W : WR P w0 β h w) {r : Nat} {es es2 : List MapEntry} {c c2 : Nat} {m : Nm} (hr : h.t.get r = some (.mp es c)) (hm : β r = some m) {es2' : Array MapEntry} (he : EL β es2 es2'.toList) :
    (setObj m.b (.map es2' c2)).run P w = .ok () { w with heap := w.heap.setIfInBounds m.b (.map es2' c2) } ∧ Post P w0 β h w β ⟨h.t.put r (some (.mp es2 c2)), h.n⟩ { w with heap := w.heap.setIfInBounds m.b (.map es2' c2) } := by
  obtain ⟨es', h1, h2⟩ := W.ok r _ m hr hm
  obtain ⟨g1, g2⟩ := MapKept.heap_set (o' := .map es2' c2) h1
  exact ⟨MapKept.run_setObj_map _ h1, W.upd hr hm rfl rfl rfl (fun b hb => g2 b hb) (by simp) ⟨es2', g1, he⟩⟩

theorem amapUpd_ok (W : WR P w0 β h w) {t : TypeId} {x u k k' v v' : Value} {h' : Hp} (hx : VR β x u) (hk : VR β k k') (hv : VR β v v') (ha : amapUpd P h t x k v = some h') :
    ∃ w', (Instr.mapUpdate t u k' v').run P w = .ok () w' ∧ Post P w0 β h w β h' w' := by
  unfold amapUpd at ha
  split at ha <;> try (cases ha; done)
  rename_i kt et r hu
  split at ha <;> try (cases ha; done)
  rename_i es c hr
  cases hc : cln k with
  | false => rw [hc] at ha; cases ha
  | true =>
    rw [hc] at ha
    simp only [cond_true] at ha
    have hkk := cln_eq hc hk
    subst hkk
    split at ha <;> try (cases ha; done)
    rename_i o ho
    cases ha
    cases hx with
    | same _ hc => simp [atomC] at hc
    | map hb =>
      rename_i m
      obtain ⟨es', h1, h2⟩ := W.ok r _ m hr hb
      unfold updMap at ho
      split at ho <;> try (cases ho; done)
      · rename_i q i v0 hck hfk
        split at ho <;> try (cases ho; done)
        rename_i e0 he0
        split at ho <;> try (cases ho; done)
        rename_i k2 hks
        cases hc2 : cln k2 with
        | false => rw [hc2] at ho; cases ho
        | true =>
        rw [hc2] at ho
        cases ho
        obtain ⟨r', g1, g2⟩ := findKey_rel h2 hfk
        cases r' with
        | none => exact g2.elim
        | some p =>
          obtain ⟨j, v1⟩ := p
          obtain ⟨rfl, g3⟩ := g2
          obtain ⟨y, y1, y2, y3, y4, y5⟩ := h2.get he0
          have hmod : (es'.modify j fun e => { e with key := k2, val := v' }).toList = es'.toList.set j ⟨k2, v', y.born⟩ := by
            apply List.ext_getElem?
            intro n
            simp only [Array.getElem?_toList, Array.getElem?_modify, List.getElem?_set]
            by_cases hn : j = n
            · subst hn
              have hlt := (List.getElem?_eq_some_iff.1 y1).1
              rw [if_pos rfl, if_pos rfl, if_pos (by simpa using hlt)]
              have : es'[j]? = some y := by simpa using y1
              rw [this]; rfl
            · rw [if_neg hn, if_neg hn]
          obtain ⟨s1, s2⟩ := W.setMap (c2 := c) (es2 := es.set j ⟨k2, v, e0.born⟩) hr hb (es2' := es'.modify j fun e => { e with key := k2, val := v' }) (by
            rw [hmod]; exact h2.set j ⟨rfl, y3, hc2, hv⟩)
          refine ⟨_, ?_, s2⟩
          have hkey : ((es'[j]?).map (·.key)).getD k' = e0.key := by
            have : es'[j]? = some y := by simpa using y1
            rw [this]; exact y2
          simp only [Instr.mapUpdate, Sem.run_bind, run_underlying hu, Result.andThen_ok, MapKept.run_getObj_map h1, prun_run hck w, prun_run g1 w, hkey, prun_run hks w, s1]
      · rename_i q hck hfk
        cases ho
        obtain ⟨r', g1, g2⟩ := findKey_rel h2 hfk
        cases r' with
        | some p => exact g2.elim
        | none =>
          obtain ⟨s1, s2⟩ := W.setMap (c2 := c + 1) (es2 := es ++ [⟨k', v, c⟩]) hr hb (es2' := es'.push ⟨k', v', c⟩) (by
            have := h2.push (x := ⟨k', v, c⟩) (y := ⟨k', v', c⟩) ⟨rfl, rfl, hc, hv⟩
            simpa using this)
          refine ⟨_, ?_, s2⟩
          simp only [Instr.mapUpdate, Sem.run_bind, run_underlying hu, Result.andThen_ok, MapKept.run_getObj_map h1, prun_run hck w, prun_run g1 w, s1]

def amapDel (P : Program) (h : Hp) (t : TypeId) (x k : Value) : Option Hp := match P.underlying t, x with
  | some (.map kt _), .map (some r) => match h.t.get r with
    | some (.mp es c) => bif cln k then (match prun P (Instr.checkKey es.isEmpty 10000 kt k), prun P (Instr.findKey kt k es) with
      | some _, some (some (i, _)) => some ⟨h.t.put r (some (.mp (es.eraseIdx i) c)), h.n⟩
      | some _, some none => some ⟨h.t.put r (some (.mp es c)), h.n⟩
      | _, _ => none) else none
    | _ => none
  | _, _ => none
theorem amapDel_ok (W : WR P w0 β h w) {t ty : TypeId} {x u k k' : Value} {h' : Hp} (hx : VR β x u) (hk : VR β k k') (ha : amapDel P h t x k = some h') :
    ∃ w', (Builtin.delete_ #[t, ty] ty #[u, k']).run P w = .ok (.tuple #[]) w' ∧ Post P w0 β h w β h' w' := by
  unfold amapDel at ha
  split at ha <;> try (cases ha; done)
  rename_i kt et r hu
  split at ha <;> try (cases ha; done)
  rename_i es c hr
  cases hc : cln k with
  | false => rw [hc] at ha; cases ha
  | true =>
    rw [hc] at ha
    simp only [cond_true] at ha
    have hkk := cln_eq hc hk
    subst hkk
    cases hx with
    | same _ hc => simp [atomC] at hc
    | map hb =>
      rename_i m
      obtain ⟨es', h1, h2⟩ := W.ok r _ m hr hb
      split at ha <;> try (cases ha; done)
      · rename_i q i v0 hck hfk
        cases ha
        obtain ⟨r', g1, g2⟩ := findKey_rel h2 hfk
        cases r' with
        | none => exact g2.elim
        | some p =>
          obtain ⟨j, v1⟩ := p
          obtain ⟨rfl, g3⟩ := g2
          obtain ⟨s1, s2⟩ := W.setMap (c2 := c) (es2 := es.eraseIdx j) hr hb (es2' := es'.eraseIdxIfInBounds j) (by
            have : (es'.eraseIdxIfInBounds j).toList = es'.toList.eraseIdx j := by simp
            rw [this]; exact h2.erase j)
          refine ⟨_, ?_, s2⟩
          simp [Builtin.delete_, run_underlying hu, MapKept.run_getObj_map h1, isEmpty_of h2, prun_run hck w, prun_run g1 w, s1]
      · rename_i q hck hfk
        cases ha
        obtain ⟨r', g1, g2⟩ := findKey_rel h2 hfk
        cases r' with
        | some p => exact g2.elim
        | none =>
          obtain ⟨s1, s2⟩ := W.setMap (c2 := c) (es2 := es) hr hb (es2' := es') h2
          refine ⟨_, ?_, s2⟩
          simp [Builtin.delete_, run_underlying hu, MapKept.run_getObj_map h1, isEmpty_of h2, prun_run hck w, prun_run g1 w, s1]
end
end Go.CX
/-
  THE CLOSED RUN, SEVENTH PART: append and copy. By an AI agent.
-/
namespace Go.CX
set_option linter.unusedVariables false
set_option linter.unusedSimpArgs false
set_option linter.unusedSectionVars false

section
variable {P : Program} {w0 : World} {β : Be} {h : Hp} {w : World}

def cellsOf (h : Hp) (sz n : Nat) (x : Value) : Option (List Value) := match x with
  | .slice (some ⟨i, o, none⟩) _ _ => match row? h i with
    | some (cs, _) => rangeOf cs o (n * sz)
    | none => none
  | _ => none

theorem cellsOf_ok (W : WR P w0 β h w) {sz n len c : Nat} {a : Option Addr} {u : Value} {l : List Value} (hx : VR β (.slice a len c) u) (hlen : 0 < len) (hc : cellsOf h sz n (.slice a len c) = some l) :
    ∃ l' b o c', u = .slice (some ⟨b, o, none⟩) len c' ∧ VL β l l' ∧ w.rangeAt b o l' ∧ l'.length = n * sz ∧ ∀ v ∈ l', v.oneCell' = true := by
  unfold cellsOf at hc
  split at hc <;> try (cases hc; done)
  rename_i i o _ _ heq
  cases heq
  split at hc <;> try (cases hc; done)
  rename_i cs e hr
  cases hx with
  | same _ hc => simp [atomC] at hc
  | sl0 _ => omega
  | sl hb hl =>
    rename_i c' m
    obtain ⟨l', h1, h2, h3, h4⟩ := (W.ok i _ m (row?_some hr) hb).range hc
    exact ⟨l', m.b, o + m.d, c', rfl, h1, h2, h3, h4⟩

theorem rangeAt_add {b o : Nat} {l : List Value} (hr : w.rangeAt b o l) : ∀ j v, l[j]? = some v → w.cell? ((⟨b, o, none⟩ : Addr).add j) = some v := fun j v hv => by
  rw [Addr.add_lit]; exact hr j v hv

theorem Post.forget (W : WR P w0 β h w) (i : Nat) : Post P w0 β h w β ⟨h.t.put i none, h.n⟩ w := by
  have ht : ∀ j o, (h.t.put i none).get j = some o → h.t.get j = some o := by
    intro j o hj
    rw [Tr.get_put] at hj
    split at hj
    · cases hj
    · exact hj
  exact ⟨W.weak ht, Sub.refl β, fun _ _ => rfl, Nat.le_refl _, fun _ _ _ => rfl, fun j o m hj hm _ => ⟨j, o, m, ht j o hj, hm, rfl⟩, Nat.le_refl _⟩

def afits (P : Program) (e : TypeId) (tot : Nat) : Option Nat := match P.info? e with
  | some ti => match ti.zero with
    | some z => bif Nat.beq z.cells.size ti.size && Nat.ble 1 ti.size && Nat.ble tot 1048576 && Nat.ble ti.bytes 65536 then some ti.size else none
    | none => none
  | none => none

def aappend (P : Program) (h : Hp) (t : TypeId) (x y : Value) : Option (Value × Hp) := match P.underlying t with
  | some (.slice e) => match x, y with
    | .slice a len c, .slice a2 n c2 => match afits P e (len + n) with
      | some sz => bif Nat.beq n 0 then (bif Nat.ble len (c / 2) then some (x, h) else none)
        else match cellsOf h sz n y with
          | some news => bif news.all (·.oneCell') then (match a with
            | none => bif Nat.beq len 0 && Nat.beq c 0 then some (.slice (some ⟨h.n, 0, none⟩) n (2 * n + 1), ⟨h.t.put h.n (some (.row news e)), h.n + 1⟩) else none
            | some ⟨i, o, none⟩ => bif Nat.beq (c % 2) 0 then
                (bif Nat.ble (len + n) (c / 2) then (rowPut h i (o + len * sz) news).map fun h' => (.slice (some ⟨i, o, none⟩) (len + n) c, h')
                else match (bif Nat.beq len 0 then some [] else cellsOf h sz len x) with
                  | some olds => some (.slice (some ⟨h.n, 0, none⟩) (len + n) (2 * (len + n) + 1), ⟨h.t.put h.n (some (.row (olds ++ news) e)), h.n + 1⟩)
                  | none => none)
              else match row? h i with
                | some (cs, e') => bif Nat.beq e' e then (match (bif Nat.beq len 0 then some [] else rangeOf cs o (len * sz)) with
                  | some olds => some (.slice (some ⟨h.n, 0, none⟩) (len + n) (2 * (len + n) + 1), ⟨(h.t.put i none).put h.n (some (.row (olds ++ news) e)), h.n + 1⟩)
                  | none => none) else none
                | none => none
            | _ => none) else none
          | none => none
      | none => none
    | _, _ => none
  | _ => none

theorem afits_ok {e : TypeId} {tot sz : Nat} (hf : afits P e tot = some sz) : ∃ ti z, P.info? e = some ti ∧ ti.zero = some z ∧ z.cells.size = sz ∧ ti.size = sz ∧ 1 ≤ sz ∧ tot ≤ 1048576 ∧ tot * ti.bytes ≤ 140737488355328 ∧ szOf P e = sz := by
  unfold afits at hf
  split at hf <;> try (cases hf; done)
  rename_i ti hti
  split at hf <;> try (cases hf; done)
  rename_i z hz
  cases hck : Nat.beq z.cells.size ti.size && Nat.ble 1 ti.size && Nat.ble tot 1048576 && Nat.ble ti.bytes 65536 with
  | false => rw [hck] at hf; cases hf
  | true =>
    rw [hck] at hf
    cases hf
    simp only [Bool.and_eq_true] at hck
    obtain ⟨⟨⟨h1, h2⟩, h3⟩, h4⟩ := hck
    have h3 := Nat.le_of_ble_eq_true h3
    have h4 := Nat.le_of_ble_eq_true h4
    refine ⟨ti, z, hti, hz, Nat.eq_of_beq_eq_true h1, rfl, Nat.le_of_ble_eq_true h2, h3, ?_, by simp [szOf, hti]⟩
    have : tot * ti.bytes ≤ 1048576 * 65536 := Nat.mul_le_mul h3 h4
    omega

theorem grown_post (W : WR P w0 β h w) (hn : β h.n = none) {e : TypeId} {sz len : Nat} (hs : szOf P e = sz) {cs cs' : List Value} (hcs : VL β cs cs') (h1 : ∀ v ∈ cs', v.oneCell' = true) (hlen : cs'.length = len * sz)
    {cap : Nat} (hcap : len ≤ cap) {cur : Array Value} (hcur : cur.toList.take cs'.length = cs') (hsz : cur.size = cap * sz) :
    ∃ β', VR β' (.slice (some ⟨h.n, 0, none⟩) len (2 * len + 1)) (.slice (some ⟨w.heap.size, 0, none⟩) len cap) ∧ Post P w0 β h w β' ⟨h.t.put h.n (some (.row cs e)), h.n + 1⟩ (w.drew.alloc (.cells cur e)) := by
  refine ⟨β.set h.n ⟨w.heap.size, 0, szOf P e, cur.size⟩, ?_, W.new hn rfl rfl rfl (fun b hb => heap_alloc_old w.drew _ hb) (Nat.le_refl _) (by show w.heap.size < (w.heap.push _).size; simp) ?_⟩
  · have := VR.sl (β := β.set h.n ⟨w.heap.size, 0, szOf P e, cur.size⟩) (o := 0) (len := len) (c := 2 * len + 1) (c' := cap) Be.set_same (.inr ⟨by omega, by omega, by simp only [hs, hsz]; omega⟩)
    simpa using this
  · have ht : cur.toList.take cs.length = cs' := by rw [hcs.1]; exact hcur
    exact or_row (h := h) hn hn (by rw [ht]; exact hcs) (by rw [ht]; exact h1) (heap_alloc_new w.drew _)

theorem aappend_ok (W : WR P w0 β h w) {t ty : TypeId} {x y u u2 v : Value} {h' : Hp} (hx : VR β x u) (hy : VR β y u2) (hfr : ∀ i, h.n ≤ i → i < h'.n → β i = none) (ha : aappend P h t x y = some (v, h')) :
    ∃ β' v' w', (Builtin.append_ #[t, t] ty #[u, u2]).run P w = .ok v' w' ∧ VR β' v v' ∧ Post P w0 β h w β' h' w' := by
  unfold aappend at ha
  split at ha <;> try (cases ha; done)
  rename_i e hu
  split at ha <;> try (cases ha; done)
  rename_i a len c a2 n c2
  split at ha <;> try (cases ha; done)
  rename_i sz hf
  obtain ⟨ti, z, hti, hz, hzs, hsz, h1s, htot, hby, hso⟩ := afits_ok hf
  have hmax : len + n ≤ maxLen := by simp only [maxLen]; omega
  have hfit : ∀ cap, cap < len + n → Builtin.nextslicecap (len + n) cap * ti.bytes ≤ 281474976710656 := fun cap hg => growslice_fits hg hby
  rcases beq_cases n 0 with ⟨q1, q2⟩ | ⟨q1, q2⟩
  · subst q2
    rw [q1] at ha
    simp only [cond_true] at ha
    cases hle : Nat.ble len (c / 2) with
    | false => rw [hle] at ha; cases ha
    | true =>
      rw [hle] at ha
      cases ha
      have hle := Nat.le_of_ble_eq_true hle
      have hU : ∃ a' c', u = .slice a' len c' ∧ len ≤ c' := by
        cases hx with
        | same _ hc => exact ⟨_, _, rfl, by omega⟩
        | sl0 hc => exact ⟨_, _, rfl, Nat.le_refl _⟩
        | sl hb hl => exact ⟨_, _, rfl, by omega⟩
      have hU2 : ∃ a' c', u2 = .slice a' 0 c' := by
        cases hy with
        | same _ hc => exact ⟨_, _, rfl⟩
        | sl0 hc => exact ⟨_, _, rfl⟩
        | sl hb hl => exact ⟨_, _, rfl⟩
      obtain ⟨a', c', rfl, hcc⟩ := hU
      obtain ⟨a2', c2', rfl⟩ := hU2
      refine ⟨β, .slice a' len c', w, ?_, hx, Post.refl W⟩
      cases a' <;> cases a2' <;> simp [Builtin.append_, run_underlying hu, sizeOf, typeInfo, hti, Builtin.lenOf, Builtin.firstCells, loadCells, loadCellsFrom, storeCells, hcc]
  · rw [q1] at ha
    simp only [cond_false] at ha
    split at ha <;> try (cases ha; done)
    rename_i news hnews
    cases hone : news.all (·.oneCell') with
    | false => rw [hone] at ha; cases ha
    | true =>
    rw [hone] at ha
    simp only [cond_true] at ha
    obtain ⟨l', b2, o2, c2', rfl, hl, hr, hll, hl1⟩ := cellsOf_ok W hy (by omega) hnews
    have hra := rangeAt_add hr
    have hll' : l'.length = n * ti.size := by rw [hll, hsz]
    -- a new block out of what was there
    have grow : ∀ {W1 : Hp} (P1 : Post P w0 β h w β W1 w) (e1 : W1.n = h.n) (hnn : β h.n = none) (a1 : Addr) (c1 : Nat) (olds : List Value) (olds' : List Value), u = .slice (some a1) len c1 → VL β olds olds' → (∀ v ∈ olds', v.oneCell' = true) →
        olds'.length = len * sz → (∀ j v, olds'[j]? = some v → w.cell? (a1.add j) = some v) → c1 < len + n →
        ∃ β' v' w', (Builtin.append_ #[t, t] ty #[u, .slice (some ⟨b2, o2, none⟩) n c2']).run P w = .ok v' w' ∧ VR β' (.slice (some ⟨h.n, 0, none⟩) (len + n) (2 * (len + n) + 1)) v' ∧
          Post P w0 β h w β' ⟨W1.t.put h.n (some (.row (olds ++ news) e)), h.n + 1⟩ w' := by
      intro W1 P1 e1 hnn a1 c1 olds olds' hu1 ho ho1 hol hoc hg
      subst hu1
      have hrun := run_append_grow (P := P) w t ty e ti z hu hti hz a1 len c1 olds' (by rw [hol, hsz]) hoc ⟨b2, o2, none⟩ n c2' l' hll' hra hg (by simp only [maxLen] at hmax; omega) (hfit c1 hg)
      have hge := grownCap_ge w (len + n) c1 e
      obtain ⟨β', g1, g2⟩ := grown_post P1.wr (by rw [e1]; exact hnn) (e := e) (sz := sz) (len := len + n) hso (ho.append hl) (by
        intro v hv
        rcases List.mem_append.1 hv with hv | hv
        · exact ho1 v hv
        · exact hl1 v hv) (by rw [List.length_append, hol, hll, Nat.add_mul]) hge (cur := olds'.toArray ++ l'.toArray ++ Builtin.zeroCells z.cells (grownCap w (len + n) c1 e - (len + n))) (by
        simp only [Array.toList_append, List.append_assoc]
        rw [← List.append_assoc]
        exact List.take_left) (by
        simp only [Array.size_append, List.size_toArray, size_zeroCells, hol, hll, hzs, ← Nat.add_mul]
        congr 1
        omega)
      rw [e1] at g1 g2
      exact ⟨β', _, _, hrun, g1, P1.trans g2⟩
    split at ha
    · cases hc : Nat.beq len 0 && Nat.beq c 0 with
      | false => rw [hc] at ha; cases ha
      | true =>
        rw [hc] at ha
        cases ha
        simp only [Bool.and_eq_true] at hc
        have h0 := Nat.eq_of_beq_eq_true hc.1
        have h0' := Nat.eq_of_beq_eq_true hc.2
        subst h0; subst h0'
        cases hx
        have hrun := run_append_nil (P := P) w t ty e ti z hu hti hz ⟨b2, o2, none⟩ n c2' l' hll' hra (by omega) (by omega) (by rw [Nat.zero_add] at hby; omega)
        have hge := grownCap_ge w n 0 e
        obtain ⟨β', g1, g2⟩ := grown_post W (hfr h.n (Nat.le_refl _) (by show h.n < h.n + 1; omega)) (e := e) (sz := sz) (len := n) hso hl hl1 hll hge (cur := l'.toArray ++ Builtin.zeroCells z.cells (grownCap w n 0 e - n)) (by
          simp only [Array.toList_append]
          exact List.take_left) (by
          simp only [Array.size_append, List.size_toArray, size_zeroCells, hll, hzs, ← Nat.add_mul]
          congr 1
          omega)
        exact ⟨β', _, _, hrun, g1, g2⟩
    · rename_i i o
      rcases beq_cases (c % 2) 0 with ⟨k1, k2⟩ | ⟨k1, k2⟩
      · rw [k1] at ha
        simp only [cond_true] at ha
        cases hroom : Nat.ble (len + n) (c / 2) with
        | true =>
          rw [hroom] at ha
          simp only [cond_true, Option.map_eq_some_iff] at ha
          obtain ⟨h1, hp, he⟩ := ha
          cases he
          have hroom := Nat.le_of_ble_eq_true hroom
          cases hx with
          | same _ hc => simp [atomC] at hc
          | sl0 hc => omega
          | sl hb hcc =>
            rename_i c' m
            have hcc' : c' = c / 2 := by omega
            obtain ⟨w', s1, s2⟩ := rowPut_ok W hb hl hp
            refine ⟨β, .slice (some ⟨m.b, o + m.d, none⟩) (len + n) c', w', ?_, .sl hb (.inl ⟨k2, hcc'⟩), s2⟩
            have hfc := run_firstCells_some (P := P) w ti.size n ⟨b2, o2, none⟩ n c2' l' hll' hra
            have hst : (storeCells ⟨m.b, o + m.d + len * ti.size, none⟩ l').run P w = .ok () w' := by
              rw [hsz, show o + m.d + len * sz = o + len * sz + m.d by omega]; exact s1
            have hrm : len + n ≤ c' := by omega
            simp [Builtin.append_, run_underlying hu, sizeOf, typeInfo, hti, Builtin.lenOf, hrm, hfc, Addr.add_lit, hst]
        | false =>
          rw [hroom] at ha
          simp only [cond_false] at ha
          have hroom : c / 2 < len + n := by
            rcases Nat.lt_or_ge (c / 2) (len + n) with hq | hq
            · exact hq
            · rw [Nat.ble_eq_true_of_le hq] at hroom; cases hroom
          split at ha <;> try (cases ha; done)
          rename_i olds holds
          cases ha
          have hnn := hfr h.n (Nat.le_refl _) (by show h.n < h.n + 1; omega)
          rcases beq_cases len 0 with ⟨p1, p2⟩ | ⟨p1, p2⟩
          · subst p2
            rw [p1] at holds
            cases holds
            cases hx with
            | same _ hc => simp [atomC] at hc
            | sl0 hc => exact grow (Post.refl W) rfl hnn _ 0 [] [] rfl .nil (by simp) (by simp) (by simp) (by omega)
            | sl hb hcc => exact grow (Post.refl W) rfl hnn _ _ [] [] rfl .nil (by simp) (by simp) (by simp) (by omega)
          · rw [p1] at holds
            simp only [cond_false] at holds
            obtain ⟨lo, bo, oo, co, rfl, o1, o2', o3, o4⟩ := cellsOf_ok W hx (by omega) holds
            refine grow (Post.refl W) rfl hnn ⟨bo, oo, none⟩ co olds lo rfl o1 o4 o3 (rangeAt_add o2') ?_
            cases hx with
            | same _ hc => simp [atomC] at hc
            | sl hb hcc => omega
            | sl0 hc => omega
      · rw [k1] at ha
        simp only [cond_false] at ha
        split at ha <;> try (cases ha; done)
        rename_i cs e' hrow
        cases he : Nat.beq e' e with
        | false => rw [he] at ha; cases ha
        | true =>
        rw [he] at ha
        have he := Nat.eq_of_beq_eq_true he
        subst he
        simp only [cond_true] at ha
        split at ha <;> try (cases ha; done)
        rename_i olds holds
        cases ha
        have hnn := hfr h.n (Nat.le_refl _) (by show h.n < h.n + 1; omega)
        have holds' : rangeOf cs o (len * sz) = some olds := by
          rcases beq_cases len 0 with ⟨p1, p2⟩ | ⟨p1, p2⟩
          · subst p2
            rw [p1] at holds
            cases holds
            simp [rangeOf]
          · rw [p1] at holds; exact holds
        cases hx with
        | same _ hc => simp [atomC] at hc
        | sl0 hc =>
          have : olds = [] := by
            have := (rangeOf_some holds').1
            simpa using this
          subst this
          exact grow (Post.forget W i) rfl hnn _ 0 [] [] rfl .nil (by simp) (by simp) (by simp) (by omega)
        | sl hb hcc =>
          rename_i c' m
          rcases hcc with ⟨hcc, _⟩ | ⟨_, hcc, htt⟩
          · omega
          have hor := W.ok i _ m (row?_some hrow) hb
          obtain ⟨lo, o1, o2', o3, o4⟩ := hor.range holds'
          by_cases hg : c' < len + n
          · exact grow (Post.forget W i) rfl hnn ⟨m.b, o + m.d, none⟩ c' olds lo rfl o1 o4 o3 (rangeAt_add o2') hg
          · obtain ⟨cur, g1, g2, g3, g4⟩ := hor
            have hes : m.es = sz := by rw [g3, hso]
            have hmul : (len + n) * sz ≤ c' * sz := Nat.mul_le_mul_right _ (by omega)
            rw [Nat.add_mul] at hmul
            rw [hes] at htt
            have hfit2 : o + m.d + len * sz + 0 + l'.length ≤ cur.size := by rw [hll]; omega
            have hst := run_storeCells_at (P := P) m.b (o + m.d + len * sz) e' l' 0 cur w g1 hfit2 hl1
            generalize hcur : (cur.toList.take (o + m.d + len * sz + 0) ++ l' ++ cur.toList.drop (o + m.d + len * sz + 0 + l'.length)).toArray = cur' at hst
            have hget : ∀ k, cur'[k]? = if o + m.d + len * sz ≤ k ∧ k < o + m.d + len * sz + l'.length then l'[k - (o + m.d + len * sz)]? else cur[k]? := by
              intro k
              have := putAt_get (cs := cur.toList) (l := l') (o := o + m.d + len * sz) (by simpa using hfit2) k
              rw [← hcur, List.getElem?_toArray, Nat.add_zero, List.append_assoc]
              unfold putAt at this
              rw [this]
              simp
            have hsz' : cur'.size = cur.size := by
              rw [← hcur]
              simp
              omega
            have hfc := run_firstCells_some (P := P) w ti.size n ⟨b2, o2, none⟩ n c2' l' hll' hra
            have hor2 : OR P (β.set h.n ⟨m.b, o + m.d, m.es, m.tot⟩) (.row (olds ++ news) e') ⟨m.b, o + m.d, m.es, m.tot⟩ (w.setRow m.b cur') := by
              refine ⟨cur', setRow_heap w m.b cur cur' e' _ g1, by show cur'.size = m.tot; omega, g3, fun k v hv => ?_⟩
              show ∃ v', cur'[o + m.d + k]? = some v' ∧ _
              rw [hget]
              have holl : olds.length = len * sz := (rangeOf_some holds').1
              by_cases hk : k < olds.length
              · rw [List.getElem?_append_left hk] at hv
                rw [if_neg (by omega)]
                obtain ⟨v', r1, r2, r3⟩ := g4 (o + k) v ((rangeOf_some holds').2 k v hv)
                exact ⟨v', by rw [show o + m.d + k = m.d + (o + k) by omega]; exact r1, r2, r3.mono (Be.sub_set hnn)⟩
              · rw [List.getElem?_append_right (by omega)] at hv
                obtain ⟨v', r1, r2⟩ := hl.get hv
                have hlt := (List.getElem?_eq_some_iff.1 r1).1
                rw [if_pos (by omega)]
                exact ⟨v', by rw [show o + m.d + k - (o + m.d + len * sz) = k - olds.length by omega]; exact r1, hl1 v' (List.mem_of_getElem? r1), r2.mono (Be.sub_set hnn)⟩
            refine ⟨β.set h.n ⟨m.b, o + m.d, m.es, m.tot⟩, .slice (some ⟨m.b, o + m.d, none⟩) (len + n) c', w.setRow m.b cur', ?_, ?_,
              W.rename hnn (row?_some hrow) hb (m' := ⟨m.b, o + m.d, m.es, m.tot⟩) rfl (setRow_os _ _ _) (setRow_output _ _ _) (setRow_tape _ _ _) (fun b hb => setRow_other w m.b b _ hb) (setRow_size _ _ _) hor2⟩
            · have hrm : len + n ≤ c' := by omega
              rw [← hsz] at hst
              simp [Builtin.append_, run_underlying hu, sizeOf, typeInfo, hti, Builtin.lenOf, hrm, hfc, Addr.add_lit, hst]
            · have := VR.sl (β := β.set h.n ⟨m.b, o + m.d, m.es, m.tot⟩) (o := 0) (len := len + n) (c := 2 * (len + n) + 1) (c' := c') Be.set_same (.inr ⟨by omega, by omega, by show 0 + (o + m.d) + c' * m.es = m.tot; rw [hes]; omega⟩)
              simpa using this
    · cases ha

def acopy (P : Program) (h : Hp) (t : TypeId) (x y : Value) : Option (Value × Hp) := match P.underlying t with
  | some (.slice e) => match x, y with
    | .slice a len c, .slice a2 n c2 => match sizeO P e with
      | some sz => bif Nat.beq (Nat.min n len) 0 then some (goInt 0, h) else match cellsOf h sz (Nat.min n len) y, a with
        | some news, some ⟨i, o, none⟩ => (rowPut h i o news).map fun h' => (goInt (Nat.min n len), h')
        | _, _ => none
      | none => none
    | _, _ => none
  | _ => none
theorem acopy_ok (W : WR P w0 β h w) {t t2 ty : TypeId} {x y u u2 v : Value} {h' : Hp} (hx : VR β x u) (hy : VR β y u2) (ha : acopy P h t x y = some (v, h')) :
    ∃ v' w', (Builtin.copy_ #[t, t2] ty #[u, u2]).run P w = .ok v' w' ∧ VR β v v' ∧ Post P w0 β h w β h' w' := by
  unfold acopy at ha
  split at ha <;> try (cases ha; done)
  rename_i e hu
  split at ha <;> try (cases ha; done)
  rename_i a len c a2 n c2
  split at ha <;> try (cases ha; done)
  rename_i sz hs
  obtain ⟨ti, hti, rfl⟩ := sizeO_some hs
  have hU : ∃ a' c', u = .slice a' len c' := by
    cases hx with
    | same _ hc => exact ⟨_, _, rfl⟩
    | sl0 hc => exact ⟨_, _, rfl⟩
    | sl hb hl => exact ⟨_, _, rfl⟩
  have hU2 : ∃ a' c', u2 = .slice a' n c' := by
    cases hy with
    | same _ hc => exact ⟨_, _, rfl⟩
    | sl0 hc => exact ⟨_, _, rfl⟩
    | sl hb hl => exact ⟨_, _, rfl⟩
  rcases beq_cases (Nat.min n len) 0 with ⟨q1, q2⟩ | ⟨q1, q2⟩
  · rw [q1] at ha
    cases ha
    obtain ⟨a', c', rfl⟩ := hU
    obtain ⟨a2', c2', rfl⟩ := hU2
    refine ⟨goInt 0, w, ?_, .same _ rfl, Post.refl W⟩
    cases a' <;> cases a2' <;> simp [Builtin.copy_, run_underlying hu, sizeOf, typeInfo, hti, Builtin.lenOf, q2, Builtin.firstCells, loadCells, loadCellsFrom, storeCells]
  · rw [q1] at ha
    simp only [cond_false] at ha
    split at ha <;> try (cases ha; done)
    rename_i news i o hnews
    simp only [Option.map_eq_some_iff] at ha
    obtain ⟨h1, hp, he⟩ := ha
    cases he
    have hn0 : 0 < n := by
      rcases Nat.eq_zero_or_pos n with h0 | h0
      · subst h0; exact absurd (Nat.zero_min len) q2
      · exact h0
    have hl0 : 0 < len := by
      rcases Nat.eq_zero_or_pos len with h0 | h0
      · subst h0; exact absurd (Nat.min_zero n) q2
      · exact h0
    obtain ⟨l', b2, o2, c2', rfl, hl, hr, hll, hl1⟩ := cellsOf_ok W hy hn0 hnews
    cases hx with
    | same _ hc => simp [atomC] at hc
    | sl0 hc => omega
    | sl hb hcc =>
      rename_i c' m
      obtain ⟨w', s1, s2⟩ := rowPut_ok W hb hl hp
      have hfc := run_firstCells_some (P := P) w ti.size (Nat.min n len) ⟨b2, o2, none⟩ n c2' l' hll (rangeAt_add hr)
      exact ⟨goInt (Nat.min n len), w', by simp [Builtin.copy_, run_underlying hu, sizeOf, typeInfo, hti, Builtin.lenOf, hfc, s1], .same _ rfl, s2⟩

def aclear (P : Program) (h : Hp) (t : TypeId) (x : Value) : Option Hp := match P.underlying t with
  | some (.slice e) => match x with
    | .slice a n c => bif Nat.beq n 0 then some h else match zeroV P e, a with
      | some z, some ⟨i, o, none⟩ => bif Nat.blt 0 z.cells.size then rowPut h i o ((List.range (n * z.cells.size)).map fun k => z.cells[k % z.cells.size]!) else none
      | _, _ => none
    | _ => none
  | _ => none
theorem aclear_ok (W : WR P w0 β h w) {t ty : TypeId} {x u : Value} {h' : Hp} (hx : VR β x u) (ha : aclear P h t x = some h') :
    ∃ w', (Builtin.clear_ #[t] ty #[u]).run P w = .ok (.tuple #[]) w' ∧ Post P w0 β h w β h' w' := by
  unfold aclear at ha
  split at ha <;> try (cases ha; done)
  rename_i e hu
  split at ha <;> try (cases ha; done)
  rename_i a n c
  rcases beq_cases n 0 with ⟨q1, q2⟩ | ⟨q1, q2⟩
  · subst q2
    rw [q1] at ha
    cases ha
    have hU : ∃ a' c', u = .slice a' 0 c' := by
      cases hx with
      | same _ hc => exact ⟨_, _, rfl⟩
      | sl0 hc => exact ⟨_, _, rfl⟩
      | sl hb hl => exact ⟨_, _, rfl⟩
    obtain ⟨a', c', rfl⟩ := hU
    refine ⟨w, ?_, Post.refl W⟩
    cases a' <;> simp [Builtin.clear_, run_underlying hu]
  · rw [q1] at ha
    simp only [cond_false] at ha
    split at ha <;> try (cases ha; done)
    rename_i z i o hz
    cases hb0 : Nat.blt 0 z.cells.size with
    | false => rw [hb0] at ha; cases ha
    | true =>
    rw [hb0] at ha
    simp only [cond_true] at ha
    have hb0 := Nat.le_of_ble_eq_true hb0
    obtain ⟨ti, hi, hzv, hzc, hzs⟩ := zeroV_some hz
    cases hx with
    | same _ hc => simp [atomC] at hc
    | sl0 hc => omega
    | sl hb hcc =>
      rename_i c' m
      have e1 : ((List.range (n * z.cells.size)).map fun k => z.cells[k % z.cells.size]!) = (Builtin.zeroCells z.cells n).toList := by simp [Builtin.zeroCells]
      rw [e1] at ha
      obtain ⟨r1, r2⟩ := zero_rel (β := β) hzc (by omega) (n * z.cells.size)
      obtain ⟨w', s1, s2⟩ := rowPut_ok W hb (l' := (Builtin.zeroCells z.cells n).toList) r1 ha
      refine ⟨w', ?_, s2⟩
      cases n with
      | zero => exact absurd rfl q2
      | succ n => simp [Builtin.clear_, run_underlying hu, zeroValue, typeInfo, hi, hzv, s1]
end
end Go.CX
