/-
  THE ABSTRACT LAYER, FIRST PART: abstract values, the relation between abstract and concrete states, and its frame laws. No program in sight. By an AI agent.
-/
import Derived.WalkKit
import Derived.Below
import Derived.Deep.MidRow
import Derived.Laws.AppendOwn
namespace Go.AL
set_option linter.unusedVariables false
set_option linter.unusedSimpArgs false
set_option linter.unusedSectionVars false

inductive V where
  | int (k : IntKind) (n : Int)
  | bool (b : Bool)
  | str (s : ByteArray)
  | nil
  | sl (rows : List (List V))
  | rd (rows : List (List V))
  | ref (o n : Nat)
  | ptr (o n i j : Nat)
  | cp (row : List V) (j : Nat)
  | agg (cs : List V)
  | aggi (cs : List V)
  | tup (vs : List V)
  | raw (v : Value)
  | fn (f : FuncId) (caps : List V)
  | dead

structure Ob where
  ty : TypeId
  es : Nat
  imp : Bool
  rows : List (List V)

structure St where
  t : Nat → V
  h : Nat → Option Ob

inductive RelP (w : World) (A : Nat → Prop) : V → Value → Prop
  | int (k : IntKind) (n : Int) : RelP w A (.int k n) (.int k n)
  | bool (b : Bool) : RelP w A (.bool b) (.bool b)
  | str (s : ByteArray) : RelP w A (.str s) (.string s)
  | nil : RelP w A .nil (.slice none 0 0)
  | slnil (a : Option Addr) : RelP w A (.sl []) (.slice a 0 0)
  | sl (rows : List (List V)) (b off cap es : Nat) (f : Nat → Nat → Value) (hcap : rows.length ≤ cap)
      (hb : rows ≠ [] → b < w.heap.size ∧ ¬ A b) (hes : ∀ row ∈ rows, row.length = es)
      (hc : ∀ (i : Nat) (row : List V), rows[i]? = some row → ∀ (j : Nat) (x : V), row[j]? = some x → w.cell? ⟨b, off + i * es + j, none⟩ = some (f i j))
      (hr : ∀ (i : Nat) (row : List V), rows[i]? = some row → ∀ (j : Nat) (x : V), row[j]? = some x → RelP w A x (f i j)) :
      RelP w A (.sl rows) (.slice (some ⟨b, off, none⟩) rows.length cap)
  | raw (v : Value) (h1 : v.oneCell' = true) : RelP w A (.raw v) v

theorem RelP.oneCell {w : World} {A : Nat → Prop} {x : V} {v : Value} (h : RelP w A x v) : v.oneCell' = true := by
  cases h <;> first | rfl | assumption

def SlAt (w : World) (A X : Nat → Prop) (rows : List (List V)) (v : Value) : Prop :=
  ((∃ a, v = .slice a 0 0) ∧ rows = []) ∨
  ∃ (b off cap es : Nat) (f : Nat → Nat → Value), v = .slice (some ⟨b, off, none⟩) rows.length cap ∧ rows.length ≤ cap ∧
    (rows ≠ [] → b < w.heap.size ∧ ¬ X b) ∧ (∀ row ∈ rows, row.length = es) ∧
    (∀ (i : Nat) (row : List V), rows[i]? = some row → ∀ (j : Nat) (x : V), row[j]? = some x → w.cell? ⟨b, off + i * es + j, none⟩ = some (f i j)) ∧
    (∀ (i : Nat) (row : List V), rows[i]? = some row → ∀ (j : Nat) (x : V), row[j]? = some x → RelP w A x (f i j))

theorem relP_sl {w : World} {A : Nat → Prop} {rows : List (List V)} {v : Value} : RelP w A (.sl rows) v ↔ SlAt w A A rows v := by
  constructor
  · intro h
    cases h with
    | slnil a => exact .inl ⟨⟨a, rfl⟩, rfl⟩
    | sl _ b off cap es f hcap hb hes hc hr => exact .inr ⟨b, off, cap, es, f, rfl, hcap, hb, hes, hc, hr⟩
  · rintro (⟨⟨a, rfl⟩, rfl⟩ | ⟨b, off, cap, es, f, rfl, hcap, hb, hes, hc, hr⟩)
    · exact .slnil a
    · exact .sl rows b off cap es f hcap hb hes hc hr

structure Env where
  w : World
  A : Nat → Prop
  h : Nat → Option Ob
  β : Nat → Option Nat

def Env.M (E : Env) (b : Nat) : Prop := ∃ o ob, E.h o = some ob ∧ E.β o = some b

def RefAt (E : Env) (ob : Ob) (bo : Option Nat) (n : Nat) (v : Value) : Prop :=
  n ≤ ob.rows.length ∧ (n = ob.rows.length → match bo with
    | none => v = .slice none 0 0
    | some b => ∃ cap cur, v = .slice (some ⟨b, 0, none⟩) n cap ∧ n ≤ cap ∧ cap ≤ maxLen ∧ E.w.heap[b]? = some (.cells cur ob.ty (0, 0)) ∧ cur.size = cap * ob.es)

def PtrAt (ob : Ob) (bo : Option Nat) (n i j : Nat) (v : Value) : Prop :=
  n ≤ ob.rows.length ∧ (n = ob.rows.length → ∃ b, bo = some b ∧ v = .pointer (some ⟨b, i * ob.es + j, none⟩))

def Rel1 (E : Env) : V → Value → Prop
  | .rd rows, v => SlAt E.w E.A E.M rows v
  | .ref o n, v => ∀ ob, E.h o = some ob → RefAt E ob (E.β o) n v
  | .ptr o n i j, v => ∀ ob, E.h o = some ob → PtrAt ob (E.β o) n i j v
  | .cp row j, v => ∃ (b off : Nat) (f : Nat → Value), v = .pointer (some ⟨b, off + j, none⟩) ∧ b < E.w.heap.size ∧ ¬ E.M b ∧
      (∀ (k : Nat) (x : V), row[k]? = some x → E.w.cell? ⟨b, off + k, none⟩ = some (f k)) ∧ (∀ (k : Nat) (x : V), row[k]? = some x → RelP E.w E.A x (f k))
  | .dead, _ => True
  | x, v => RelP E.w E.A x v

def RelA (E : Env) : V → Value → Prop
  | .agg cs, v => ∃ vs, v = .agg vs ∧ vs.size = cs.length ∧ ∀ (i : Nat) (x : V), cs[i]? = some x → ∃ u, vs[i]? = some u ∧ RelP E.w E.A x u
  | .aggi cs, v => ∃ vs, v = .agg vs ∧ vs.size = cs.length ∧ ∀ (i : Nat) (x : V), cs[i]? = some x → ∃ u, vs[i]? = some u ∧ u.oneCell' = true ∧ Rel1 E x u
  | x, v => Rel1 E x v

def Rel (E : Env) : V → Value → Prop
  | .tup xs, v => ∃ vs, v = .tuple vs ∧ vs.size = xs.length ∧ ∀ (i : Nat) (x : V), xs[i]? = some x → ∃ u, vs[i]? = some u ∧ RelA E x u
  | .fn f cs, v => ∃ vs, v = .func (.func f) #[] vs ∧ vs.size = cs.length ∧ ∀ (i : Nat) (x : V), cs[i]? = some x → ∃ u, vs[i]? = some u ∧ Rel1 E x u
  | x, v => RelA E x v

def ObOK (E : Env) (ob : Ob) : Option Nat → Prop
  | none => ob.rows = []
  | some b => E.A b ∧ ∃ cur, E.w.heap[b]? = some (.cells cur ob.ty (0, 0)) ∧ (∀ row ∈ ob.rows, row.length = ob.es) ∧ ob.rows.length * ob.es ≤ cur.size ∧
      ∀ (i : Nat) (row : List V), ob.rows[i]? = some row → ∀ (j : Nat) (x : V), row[j]? = some x →
        ∃ v, cur[i * ob.es + j]? = some v ∧ v.oneCell' = true ∧ Rel1 E x v ∧ (ob.imp = false → RelP E.w E.A x v)

structure ObsOK (E : Env) : Prop where
  ok : ∀ o ob, E.h o = some ob → ObOK E ob (E.β o)
  inj : ∀ o o' ob ob' b, E.h o = some ob → E.h o' = some ob' → E.β o = some b → E.β o' = some b → o = o'
  lt : ∀ b, E.A b → b < E.w.heap.size

theorem ObsOK.mA {E : Env} (H : ObsOK E) {b : Nat} (h : E.M b) : E.A b := by
  obtain ⟨o, ob, ho, hb⟩ := h
  have := H.ok o ob ho
  rw [hb] at this
  exact this.1

/-! ### Frames: worlds that agree where nobody writes -/

def Agree (X : Nat → Prop) (w w' : World) : Prop := ∀ b, b < w.heap.size → ¬ X b → w'.heap[b]? = w.heap[b]?

theorem Agree.cell {X : Nat → Prop} {w w' : World} (h : Agree X w w') {b : Nat} (hb : b < w.heap.size) (hX : ¬ X b) (o : Nat) : w'.cell? ⟨b, o, none⟩ = w.cell? ⟨b, o, none⟩ := by
  simp [World.cell?, h b hb hX]

theorem RelP.frame {w w' : World} {A A' : Nat → Prop} (hw : Agree A w w') (hs : w.heap.size ≤ w'.heap.size) (hA : ∀ b, b < w.heap.size → A' b → A b) {x : V} {v : Value}
    (h : RelP w A x v) : RelP w' A' x v := by
  induction h with
  | int k n => exact .int k n
  | bool b => exact .bool b
  | str s => exact .str s
  | nil => exact .nil
  | slnil a => exact .slnil a
  | raw v h1 => exact .raw v h1
  | sl rows b off cap es f hcap hb hes hc _ ih =>
    refine .sl rows b off cap es f hcap (fun hne => ?_) hes (fun i row hi j x hx => ?_) (fun i row hi j x hx => ih i row hi j x hx)
    · obtain ⟨h1, h2⟩ := hb hne
      exact ⟨Nat.lt_of_lt_of_le h1 hs, fun h3 => h2 (hA b h1 h3)⟩
    · have hne : rows ≠ [] := fun e => by rw [e] at hi; simp at hi
      obtain ⟨h1, h2⟩ := hb hne
      rw [hw.cell h1 h2]
      exact hc i row hi j x hx

theorem SlAt.frame {w w' : World} {A A' X X' : Nat → Prop} (hw : Agree A w w') (hwX : Agree X w w') (hs : w.heap.size ≤ w'.heap.size) (hA : ∀ b, b < w.heap.size → A' b → A b) (hX : ∀ b, b < w.heap.size → X' b → X b)
    {rows : List (List V)} {v : Value} (h : SlAt w A X rows v) : SlAt w' A' X' rows v := by
  rcases h with h | ⟨b, off, cap, es, f, hv, hcap, hb, hes, hc, hr⟩
  · exact .inl h
  · refine .inr ⟨b, off, cap, es, f, hv, hcap, fun hne => ?_, hes, fun i row hi j x hx => ?_, fun i row hi j x hx => (hr i row hi j x hx).frame hw hs hA⟩
    · obtain ⟨h1, h2⟩ := hb hne
      exact ⟨Nat.lt_of_lt_of_le h1 hs, fun h3 => h2 (hX b h1 h3)⟩
    · have hne : rows ≠ [] := fun e => by rw [e] at hi; simp at hi
      obtain ⟨h1, h2⟩ := hb hne
      rw [hwX.cell h1 h2]
      exact hc i row hi j x hx

/-! ### Names that are forgotten -/
def V.kill1 (K : Nat → Bool) : V → V
  | .ref p n => if K p then .dead else .ref p n
  | .ptr p n i j => if K p then .dead else .ptr p n i j
  | x => x

def V.names (K : Nat → Bool) : V → Bool
  | .ref p _ => K p
  | .ptr p _ _ _ => K p
  | _ => false

def V.killA (K : Nat → Bool) : V → V
  | .aggi cs => .aggi (cs.map (V.kill1 K))
  | x => x.kill1 K

def V.kill (K : Nat → Bool) : V → V
  | .tup vs => .tup (vs.map (V.killA K))
  | .fn f cs => if cs.any (V.names K) then .dead else .fn f cs
  | x => x.killA K

def Ob.kill (K : Nat → Bool) (ob : Ob) : Ob := if ob.imp then { ob with rows := ob.rows.map (·.map (V.kill1 K)) } else ob

def St.kill (K : Nat → Bool) (s : St) : St := ⟨fun i => (s.t i).kill K, fun p => if K p then none else (s.h p).map (Ob.kill K)⟩

theorem Ob.kill_ty (K : Nat → Bool) (ob : Ob) : (ob.kill K).ty = ob.ty := by unfold Ob.kill; split <;> rfl
theorem Ob.kill_es (K : Nat → Bool) (ob : Ob) : (ob.kill K).es = ob.es := by unfold Ob.kill; split <;> rfl
theorem Ob.kill_imp (K : Nat → Bool) (ob : Ob) : (ob.kill K).imp = ob.imp := by unfold Ob.kill; split <;> rfl
theorem Ob.kill_len (K : Nat → Bool) (ob : Ob) : (ob.kill K).rows.length = ob.rows.length := by unfold Ob.kill; split <;> simp

structure Step (E E' : Env) : Prop where
  agree : Agree E.M E.w E'.w
  size : E.w.heap.size ≤ E'.w.heap.size
  A : ∀ b, b < E.w.heap.size → E'.A b → E.A b
  M : ∀ b, b < E.w.heap.size → E'.M b → E.M b

def Keep (E E' : Env) (o : Nat) : Prop := ∀ ob', E'.h o = some ob' → ∃ ob, E.h o = some ob ∧ ob.rows.length ≤ ob'.rows.length ∧
  (ob'.rows.length = ob.rows.length → E'.β o = E.β o ∧ ob'.es = ob.es ∧ ob'.ty = ob.ty ∧
    ∀ b cur, E.β o = some b → E.w.heap[b]? = some (.cells cur ob.ty (0, 0)) → ∃ cur', E'.w.heap[b]? = some (.cells cur' ob.ty (0, 0)) ∧ cur'.size = cur.size)

theorem Agree.mono {X Y : Nat → Prop} {w w' : World} (h : Agree X w w') (hXY : ∀ b, X b → Y b) : Agree Y w w' := fun b hb hY => h b hb (fun hX => hY (hXY b hX))

section
variable {E E' : Env} (H : ObsOK E) (S : Step E E')
include H S

theorem RelP.step {x : V} {v : Value} (h : RelP E.w E.A x v) : RelP E'.w E'.A x v :=
  h.frame (S.agree.mono (fun _ h => H.mA h)) S.size S.A

theorem Rel1.step {x : V} {v : Value} (K : Nat → Bool) (hk : ∀ p, K p = false → Keep E E' p) (h : Rel1 E x v) : Rel1 E' (x.kill1 K) v := by
  cases x with
  | rd rows => exact SlAt.frame (S.agree.mono (fun _ h => H.mA h)) S.agree S.size S.A S.M h
  | ref p n =>
    simp only [V.kill1]
    split
    · trivial
    · rename_i hp
      intro ob' ho'
      obtain ⟨ob, ho, hle, hrest⟩ := hk p (by simpa using hp) ob' ho'
      obtain ⟨h1, h2⟩ := h ob ho
      refine ⟨Nat.le_trans h1 hle, fun hn => ?_⟩
      have hlen : ob'.rows.length = ob.rows.length := by omega
      obtain ⟨hβ, hes, hty, hbl⟩ := hrest hlen
      have h3 := h2 (by omega)
      rw [hβ]
      cases hb : E.β p with
      | none => rw [hb] at h3; exact h3
      | some b =>
        rw [hb] at h3
        obtain ⟨cap, cur, hv, hc, hm, hh, hs⟩ := h3
        obtain ⟨cur', hh', hs'⟩ := hbl b cur hb hh
        exact ⟨cap, cur', hv, hc, hm, by rw [hty]; exact hh', by rw [hs', hs, hes]⟩
  | ptr p n i j =>
    simp only [V.kill1]
    split
    · trivial
    · rename_i hp
      intro ob' ho'
      obtain ⟨ob, ho, hle, hrest⟩ := hk p (by simpa using hp) ob' ho'
      obtain ⟨h1, h2⟩ := h ob ho
      refine ⟨Nat.le_trans h1 hle, fun hn => ?_⟩
      have hlen : ob'.rows.length = ob.rows.length := by omega
      obtain ⟨hβ, hes, hty, hbl⟩ := hrest hlen
      rw [hβ, hes]
      exact h2 (by omega)
  | cp row j =>
    obtain ⟨b, off, f, hv, hb, hM, hc, hr⟩ := h
    refine ⟨b, off, f, hv, Nat.lt_of_lt_of_le hb S.size, fun h => hM (S.M b hb h), fun k x hx => ?_, fun k x hx => (hr k x hx).step H S⟩
    rw [S.agree.cell hb hM]
    exact hc k x hx
  | dead => trivial
  | int k n => exact RelP.step H S h
  | bool b => exact RelP.step H S h
  | str s => exact RelP.step H S h
  | nil => exact RelP.step H S h
  | sl rows => exact RelP.step H S h
  | agg cs => exact RelP.step H S h
  | aggi cs => exact RelP.step H S h
  | tup vs => exact RelP.step H S h
  | raw v => exact RelP.step H S h
  | fn f caps => exact RelP.step H S h

theorem RelA.step {x : V} {v : Value} (K : Nat → Bool) (hk : ∀ p, K p = false → Keep E E' p) (h : RelA E x v) : RelA E' (x.killA K) v := by
  cases x with
  | agg cs =>
    obtain ⟨vs, hv, hs, hc⟩ := h
    exact ⟨vs, hv, hs, fun i x hx => let ⟨u, h1, h2⟩ := hc i x hx; ⟨u, h1, h2.step H S⟩⟩
  | aggi cs =>
    obtain ⟨vs, hv, hs, hc⟩ := h
    refine ⟨vs, hv, by simpa using hs, fun i x hx => ?_⟩
    rw [List.getElem?_map] at hx
    cases hi : cs[i]? with
    | none => simp [hi] at hx
    | some y =>
      simp [hi] at hx
      subst hx
      obtain ⟨u, h1, h2, h3⟩ := hc i y hi
      exact ⟨u, h1, h2, h3.step H S K hk⟩
  | int k n => exact Rel1.step (x := .int k n) H S K hk h
  | bool b => exact Rel1.step (x := .bool b) H S K hk h
  | str s => exact Rel1.step (x := .str s) H S K hk h
  | nil  => exact Rel1.step (x := .nil ) H S K hk h
  | sl rows => exact Rel1.step (x := .sl rows) H S K hk h
  | rd rows => exact Rel1.step (x := .rd rows) H S K hk h
  | ref p n =>
    have h2 : Rel1 E' ((V.ref p n).kill1 K) v := Rel1.step (x := .ref p n) H S K hk h
    by_cases hp : K p = true
    · simp only [V.killA, V.kill1, if_pos hp]; trivial
    · simp only [V.killA, V.kill1, if_neg hp] at h2 ⊢; exact h2
  | ptr p n i j =>
    have h2 : Rel1 E' ((V.ptr p n i j).kill1 K) v := Rel1.step (x := .ptr p n i j) H S K hk h
    by_cases hp : K p = true
    · simp only [V.killA, V.kill1, if_pos hp]; trivial
    · simp only [V.killA, V.kill1, if_neg hp] at h2 ⊢; exact h2
  | cp row j => exact Rel1.step (x := .cp row j) H S K hk h
  | tup xs => exact Rel1.step (x := .tup xs) H S K hk h
  | raw u => exact Rel1.step (x := .raw u) H S K hk h
  | fn f cs => exact Rel1.step (x := .fn f cs) H S K hk h
  | dead => trivial

theorem Rel.step {x : V} {v : Value} (K : Nat → Bool) (hk : ∀ p, K p = false → Keep E E' p) (h : Rel E x v) : Rel E' (x.kill K) v := by
  cases x with
  | tup xs =>
    obtain ⟨vs, hv, hs, hc⟩ := h
    refine ⟨vs, hv, by simpa using hs, fun i x hx => ?_⟩
    rw [List.getElem?_map] at hx
    cases hi : xs[i]? with
    | none => simp [hi] at hx
    | some y =>
      simp [hi] at hx
      subst hx
      obtain ⟨u, h1, h3⟩ := hc i y hi
      exact ⟨u, h1, h3.step H S K hk⟩
  | fn f cs =>
    simp only [V.kill]
    split
    · trivial
    · rename_i hany
      obtain ⟨vs, hv, hs, hc⟩ := h
      refine ⟨vs, hv, hs, fun i x hx => ?_⟩
      obtain ⟨u, h1, h3⟩ := hc i x hx
      have hm := List.mem_of_getElem? hx
      simp only [List.any_eq_true, not_exists, not_and] at hany
      have h5 := hany x hm
      have h6 := h3.step H S K hk
      refine ⟨u, h1, ?_⟩
      cases x <;> simp only [V.names, V.kill1] at h5 h6 <;> first | exact h6 | (rw [if_neg h5] at h6; exact h6)
  | int k n => exact RelA.step (x := .int k n) H S K hk h
  | bool b => exact RelA.step (x := .bool b) H S K hk h
  | str s => exact RelA.step (x := .str s) H S K hk h
  | nil  => exact RelA.step (x := .nil ) H S K hk h
  | sl rows => exact RelA.step (x := .sl rows) H S K hk h
  | rd rows => exact RelA.step (x := .rd rows) H S K hk h
  | ref p n =>
    have h2 : RelA E' ((V.ref p n).killA K) v := RelA.step (x := .ref p n) H S K hk h
    by_cases hp : K p = true
    · simp only [V.kill, V.killA, V.kill1, if_pos hp]; trivial
    · simp only [V.kill, V.killA, V.kill1, if_neg hp] at h2 ⊢; exact h2
  | ptr p n i j =>
    have h2 : RelA E' ((V.ptr p n i j).killA K) v := RelA.step (x := .ptr p n i j) H S K hk h
    by_cases hp : K p = true
    · simp only [V.kill, V.killA, V.kill1, if_pos hp]; trivial
    · simp only [V.kill, V.killA, V.kill1, if_neg hp] at h2 ⊢; exact h2
  | cp row j => exact RelA.step (x := .cp row j) H S K hk h
  | agg cs => exact RelA.step (x := .agg cs) H S K hk h
  | aggi cs => exact RelA.step (x := .aggi cs) H S K hk h
  | raw u => exact RelA.step (x := .raw u) H S K hk h
  | dead => trivial

theorem ObOK.step {ob : Ob} {bo : Option Nat} (K : Nat → Bool) (hk : ∀ p, K p = false → Keep E E' p) (hb : ∀ b, bo = some b → E'.w.heap[b]? = E.w.heap[b]? ∧ E'.A b) (h : ObOK E ob bo) : ObOK E' (ob.kill K) bo := by
  cases bo with
  | none =>
    have h' : ob.rows = [] := h
    show (ob.kill K).rows = []
    unfold Ob.kill; split <;> simp [h']
  | some b =>
    obtain ⟨h1, h2⟩ := hb b rfl
    obtain ⟨_, cur, hh, hes, hlen, hc⟩ := h
    refine ⟨h2, cur, by rw [h1, Ob.kill_ty]; exact hh, ?_, by rw [Ob.kill_len, Ob.kill_es]; exact hlen, ?_⟩
    · intro row hrow
      rw [Ob.kill_es]
      unfold Ob.kill at hrow
      split at hrow
      · simp only [List.mem_map] at hrow
        obtain ⟨r, hr, rfl⟩ := hrow
        simpa using hes r hr
      · exact hes row hrow
    · intro i row hi j x hx
      rw [Ob.kill_es, Ob.kill_imp]
      unfold Ob.kill at hi
      split at hi
      · rename_i himp
        simp only [List.getElem?_map] at hi
        cases hri : ob.rows[i]? with
        | none => simp [hri] at hi
        | some r =>
          simp [hri] at hi
          subst hi
          rw [List.getElem?_map] at hx
          cases hxj : r[j]? with
          | none => simp [hxj] at hx
          | some y =>
            simp [hxj] at hx
            subst hx
            obtain ⟨v, c1, c2, c3, _⟩ := hc i r hri j y hxj
            exact ⟨v, c1, c2, c3.step H S K hk, fun h => by simp [himp] at h⟩
      · rename_i himp
        obtain ⟨v, c1, c2, _, c4⟩ := hc i row hi j x hx
        have c5 := (c4 (by simpa using himp)).step H S
        refine ⟨v, c1, c2, ?_, fun _ => c5⟩
        cases x <;> first | exact c5 | cases c5
end

theorem V.kill1_none (x : V) : x.kill1 (fun _ => false) = x := by cases x <;> rfl
theorem V.killA_none (x : V) : x.killA (fun _ => false) = x := by
  cases x <;> simp only [V.killA, V.kill1, Bool.false_eq_true, if_false]
  congr 1
  exact (List.map_congr_left (fun x _ => V.kill1_none x)).trans (List.map_id _)
theorem V.kill_none (x : V) : x.kill (fun _ => false) = x := by
  cases x <;> simp only [V.kill, V.killA, V.kill1, Bool.false_eq_true, if_false]
  · congr 1
    exact (List.map_congr_left (fun x _ => V.kill1_none x)).trans (List.map_id _)
  · congr 1
    exact (List.map_congr_left (fun x _ => V.killA_none x)).trans (List.map_id _)
  · rename_i f cs
    have : (cs.any (V.names fun _ => false)) = false := by
      rw [List.any_eq_false]
      intro x _
      cases x <;> simp [V.names]
    simp [this]
theorem Ob.kill_none (ob : Ob) : ob.kill (fun _ => false) = ob := by
  unfold Ob.kill
  split
  · have : ob.rows.map (·.map (V.kill1 (fun _ => false))) = ob.rows := by
      refine (List.map_congr_left (fun r _ => ?_)).trans (List.map_id _)
      exact (List.map_congr_left (fun x _ => V.kill1_none x)).trans (List.map_id _)
    rw [this]
  · rfl

end Go.AL
