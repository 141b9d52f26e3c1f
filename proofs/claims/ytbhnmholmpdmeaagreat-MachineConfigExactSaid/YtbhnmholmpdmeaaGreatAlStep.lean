/-
  THE ABSTRACT LAYER, FIFTH PART: abstract and concrete states side by side; the operations that make or change memory. By an AI agent.
-/
import Derived.Test.YtbhnmholmpdmeaaGreatAlVal
namespace Go.AL
set_option linter.unusedVariables false
set_option linter.unusedSimpArgs false
set_option linter.unusedSectionVars false

structure Ev (w0 w : World) (I : Nat → Prop) : Prop where
  os : w.os = w0.os
  tape : w.tape = w0.tape
  output : w.output = w0.output
  size : w0.heap.size ≤ w.heap.size
  block : ∀ k, k < w0.heap.size → ¬ I k → w.heap[k]? = w0.heap[k]?

structure Imp where
  P : Nat → Prop
  q : Nat → Prop
  β0 : Nat → Option Nat
  len : Nat → Nat
  sv : Nat → Value

structure RB (w0 : World) (I : Imp) (A0 : Nat → Prop) (n : Nat) (s : St) (a : Act) (w : World) (β : Nat → Option Nat) (A : Nat → Prop) : Prop where
  defers : a.defers = []
  size : a.tmps.size = n
  slots : ∀ i, Rel ⟨w, A, s.h, β⟩ (s.t i) (slotV I.sv a i)
  obs : ObsOK ⟨w, A, s.h, β⟩
  a0 : ∀ b, b < w0.heap.size → A0 b → A b
  ev : Ev w0 w I.P
  own : ∀ o ob b, s.h o = some ob → β o = some b → w0.heap.size ≤ b ∨ I.P b
  qn : ∀ o, I.q o → n ≤ o ∧ o < 1000
  pin : ∀ o ob, I.q o → s.h o = some ob → I.len o ≤ ob.rows.length ∧ (ob.rows.length = I.len o → β o = I.β0 o ∧ ∀ b cur0, I.β0 o = some b → w0.heap[b]? = some (.cells cur0 ob.ty (0, 0)) → ∃ cur, w.heap[b]? = some (.cells cur ob.ty (0, 0)) ∧ cur.size = cur0.size)

def RR (w0 : World) (I : Imp) (A0 : Nat → Prop) (n : Nat) (s : St) (a : Act) (w : World) : Prop := ∃ β A, RB w0 I A0 n s a w β A

def RRf (w0 : World) (I : Imp) (A0 : Nat → Prop) (n : Nat) (s : St) (a : Act) (w : World) (d : Nat) : Prop := ∃ β A, RB w0 I A0 n s a w β A ∧ ∀ b, β d = some b → w0.heap.size ≤ b

def St.put (s : St) (d : Option Nat) (v : V) : St := match d with
  | some d => ⟨fun i => if i = d then v else s.t i, s.h⟩
  | none => s

theorem tmps_put (a : Act) (d : Option Tmp) (u : Value) (i : Nat) (n : Nat) (hn : a.tmps.size = n) (hd : ∀ k, d = some k → k < n) :
    (a.put d u).tmps.getD i undef = if d = some i then u else a.tmps.getD i undef := by
  cases d with
  | none => simp [Act.put]
  | some d =>
    have := hd d rfl
    simp only [Act.put, Option.some.injEq]
    by_cases h : d = i
    · subst h
      simp [Array.getD_eq_getD_getElem?, hn, this]
    · simp [Array.getD_eq_getD_getElem?, h]

theorem slotV_put (sv : Nat → Value) (a : Act) (d : Option Tmp) (u : Value) (i : Nat) (n : Nat) (hn : a.tmps.size = n) (hd : ∀ k, d = some k → k < n) :
    slotV sv (a.put d u) i = if d = some i then u else slotV sv a i := by
  have hs : (a.put d u).tmps.size = a.tmps.size := by cases d <;> simp [Act.put]
  have ht := tmps_put a d u i n hn hd
  by_cases h : d = some i
  · have h1 := hd i h
    rw [if_pos h] at ht ⊢
    rw [slotV_lt (.inr (by rw [hs, hn]; exact h1)), ht]
  · rw [if_neg h] at ht ⊢
    unfold slotV
    rw [ht, hs]

theorem RB.step {w0 : World} {I : Imp} {A0 : Nat → Prop} {n : Nat} {s : St} {a : Act} {w : World} {β : Nat → Option Nat} {A : Nat → Prop} (R : RB w0 I A0 n s a w β A)
    (w' : World) (β' : Nat → Option Nat) (A' : Nat → Prop) (h' : Nat → Option Ob) (K : Nat → Bool)
    (S : Step ⟨w, A, s.h, β⟩ ⟨w', A', h', β'⟩) (hk : ∀ p, K p = false → Keep ⟨w, A, s.h, β⟩ ⟨w', A', h', β'⟩ p) (hobs : ObsOK ⟨w', A', h', β'⟩)
    (ha0 : ∀ b, b < w0.heap.size → A0 b → A' b) (hev : Ev w0 w' I.P) (hown : ∀ o ob b, h' o = some ob → β' o = some b → w0.heap.size ≤ b ∨ I.P b)
    (hK : ∀ o, I.q o → K o = true → h' o = none)
    (d : Option Tmp) (hd : ∀ k, d = some k → k < n) (v : V) (u : Value) (hv : Rel ⟨w', A', h', β'⟩ v u) :
    RB w0 I A0 n (St.put ⟨fun i => (s.t i).kill K, h'⟩ d v) (a.put d u) w' β' A' := by
  have hh : (St.put ⟨fun i => (s.t i).kill K, h'⟩ d v).h = h' := by cases d <;> rfl
  refine ⟨?_, ?_, fun i => ?_, by rw [hh]; exact hobs, ha0, hev, by rw [hh]; exact hown, R.qn, ?_⟩
  rotate_left 3
  · rw [hh]
    intro o ob' hq ho'
    have hKf : K o = false := by
      cases hx : K o with
      | false => rfl
      | true => rw [hK o hq hx] at ho'; cases ho'
    obtain ⟨ob, ho, hle, heq⟩ := hk o hKf ob' ho'
    simp only at ho
    have hp := R.pin o ob hq ho
    refine ⟨Nat.le_trans hp.1 hle, fun e => ?_⟩
    have e2 : ob'.rows.length = ob.rows.length := by omega
    obtain ⟨q1, q2, q3, q4⟩ := heq e2
    obtain ⟨p1, p2⟩ := hp.2 (by omega)
    simp only at q1 q4
    refine ⟨q1.trans p1, fun b cur0 hb hc => ?_⟩
    rw [q3] at hc
    obtain ⟨cur, c1, c2⟩ := p2 b cur0 hb hc
    obtain ⟨cur', d1, d2⟩ := q4 b cur (by rw [p1]; exact hb) c1
    exact ⟨cur', by rw [q3]; exact d1, d2.trans c2⟩
  · cases d <;> exact R.defers
  · cases d
    · exact R.size
    · simpa [Act.put] using R.size
  · rw [hh, slotV_put I.sv a d u i n R.size hd]
    cases d with
    | none =>
      simp only [St.put]
      exact (R.slots i).step R.obs S K hk
    | some d =>
      simp only [St.put, Option.some.injEq]
      by_cases hi : i = d
      · rw [if_pos hi, if_pos hi.symm]; exact hv
      · rw [if_neg hi, if_neg (fun e => hi e.symm)]
        exact (R.slots i).step R.obs S K hk

theorem Agree.refl (X : Nat → Prop) (w : World) : Agree X w w := fun _ _ _ => rfl
theorem Keep.refl (E : Env) (o : Nat) : Keep E E o := fun ob ho => ⟨ob, ho, Nat.le_refl _, fun _ => ⟨rfl, rfl, rfl, fun b cur _ hc => ⟨cur, hc, rfl⟩⟩⟩
theorem Step.refl (E : Env) : Step E E := ⟨Agree.refl _ _, Nat.le_refl _, fun _ _ h => h, fun _ _ h => h⟩

theorem RB.put {w0 : World} {I : Imp} {A0 : Nat → Prop} {n : Nat} {s : St} {a : Act} {w : World} {β : Nat → Option Nat} {A : Nat → Prop} (R : RB w0 I A0 n s a w β A)
    (d : Option Tmp) (hd : ∀ k, d = some k → k < n) (v : V) (u : Value) (hv : Rel ⟨w, A, s.h, β⟩ v u) : RB w0 I A0 n (s.put d v) (a.put d u) w β A := by
  have := R.step w β A s.h (fun _ => false) (Step.refl _) (fun p _ => Keep.refl _ p) R.obs R.a0 R.ev R.own (fun _ _ h => by cases h) d hd v u hv
  have e : (⟨fun i => (s.t i).kill fun _ => false, s.h⟩ : St) = s := by simp only [V.kill_none]
  rwa [e] at this

theorem RB.drew {w0 : World} {I : Imp} {A0 : Nat → Prop} {n : Nat} {s : St} {a : Act} {w : World} {β : Nat → Option Nat} {A : Nat → Prop} (R : RB w0 I A0 n s a w β A) (k : Nat) :
    RB w0 I A0 n s a { w with drawn := k } β A := by
  have S : Step ⟨w, A, s.h, β⟩ ⟨{ w with drawn := k }, A, s.h, β⟩ := ⟨fun _ _ _ => rfl, Nat.le_refl _, fun _ _ h => h, fun _ _ h => h⟩
  have hk : ∀ p, Keep ⟨w, A, s.h, β⟩ ⟨{ w with drawn := k }, A, s.h, β⟩ p := fun p ob ho => ⟨ob, ho, Nat.le_refl _, fun _ => ⟨rfl, rfl, rfl, fun b cur _ hc => ⟨cur, hc, rfl⟩⟩⟩
  have := R.step { w with drawn := k } β A s.h (fun _ => false) S (fun p _ => hk p)
    ⟨fun o ob ho => by
      have := ObOK.step R.obs S (fun _ => false) (fun p _ => hk p) (fun b hb => ⟨rfl, ?_⟩) (R.obs.ok o ob ho)
      · rwa [Ob.kill_none] at this
      · have h2 := R.obs.ok o ob ho
        simp only at h2 hb
        rw [hb] at h2
        exact h2.1, R.obs.inj, R.obs.lt⟩ R.a0 ⟨R.ev.os, R.ev.tape, R.ev.output, R.ev.size, R.ev.block⟩ R.own (fun _ _ h => by cases h) none (fun _ h => by cases h) .dead undef trivial
  have e : (⟨fun i => (s.t i).kill fun _ => false, s.h⟩ : St) = s := by simp only [V.kill_none]
  rw [e] at this
  exact this

/-! ### A new object -/
def newH (h : Nat → Option Ob) (d : Nat) (ob : Ob) : Nat → Option Ob := fun p => if p = d then some (ob.kill (· == d)) else (h p).map (Ob.kill (· == d))

def St.new (s : St) (d : Nat) (ob : Ob) (v : V) : St := ⟨fun i => if i = d then v else (s.t i).kill (· == d), newH s.h d ob⟩

theorem RB.new {w0 : World} {I : Imp} {A0 : Nat → Prop} {n : Nat} {s : St} {a : Act} {w : World} {β : Nat → Option Nat} {A : Nat → Prop} (R : RB w0 I A0 n s a w β A)
    (d : Nat) (hd : d < n) (ob : Ob) (cur : Array Value) (w' : World) (hw' : w'.heap = w.heap.push (.cells cur ob.ty)) (hos : w'.os = w.os ∧ w'.tape = w.tape ∧ w'.output = w.output)
    (hes : ∀ row ∈ ob.rows, row.length = ob.es) (hlen : ob.rows.length * ob.es ≤ cur.size)
    (hc : ∀ (i : Nat) (row : List V), ob.rows[i]? = some row → ∀ (j : Nat) (x : V), row[j]? = some x → ∃ v, cur[i * ob.es + j]? = some v ∧ v.oneCell' = true ∧ Rel1 ⟨w, A, s.h, β⟩ x v ∧ (ob.imp = false → RelP w A x v))
    (v : V) (u : Value)
    (hv : (v = .ptr d ob.rows.length 0 0 ∧ u = .pointer (some ⟨w.heap.size, 0, none⟩)) ∨
      (v = .ref d ob.rows.length ∧ ∃ cap, u = .slice (some ⟨w.heap.size, 0, none⟩) ob.rows.length cap ∧ ob.rows.length ≤ cap ∧ cap ≤ maxLen ∧ cur.size = cap * ob.es)) :
    RB w0 I A0 n (s.new d ob v) (a.put (some d) u) w' (fun p => if p = d then some w.heap.size else β p) (fun b => A b ∨ b = w.heap.size) := by
  have hsz : w'.heap.size = w.heap.size + 1 := by rw [hw']; simp
  have hold : ∀ b, b < w.heap.size → w'.heap[b]? = w.heap[b]? := fun b hb => by
    rw [hw', Array.getElem?_push]
    rw [if_neg (by omega)]
  have hnew : w'.heap[w.heap.size]? = some (.cells cur ob.ty (0, 0)) := by rw [hw']; simp
  have hMlt : ∀ o ob' b, s.h o = some ob' → β o = some b → b < w.heap.size := fun o ob' b ho hb => by
    have := R.obs.ok o ob' ho
    simp only at this
    rw [hb] at this
    exact R.obs.lt b this.1
  have S : Step ⟨w, A, s.h, β⟩ ⟨w', fun b => A b ∨ b = w.heap.size, newH s.h d ob, fun p => if p = d then some w.heap.size else β p⟩ := by
    refine ⟨fun b hb _ => hold b hb, by simp [hsz], fun b hb h => ?_, fun b hb h => ?_⟩
    · rcases h with h | h
      · exact h
      · simp only at hb; omega
    · obtain ⟨o, ob', ho, hbo⟩ := h
      simp only [newH] at ho hbo
      by_cases ho' : o = d
      · rw [if_pos ho'] at hbo
        simp only [Option.some.injEq] at hbo
        simp only at hb; omega
      · rw [if_neg ho'] at ho hbo
        cases hso : s.h o with
        | none => simp [hso] at ho
        | some ob2 => exact ⟨o, ob2, hso, hbo⟩
  have hk : ∀ p, (p == d) = false → Keep ⟨w, A, s.h, β⟩ ⟨w', fun b => A b ∨ b = w.heap.size, newH s.h d ob, fun p => if p = d then some w.heap.size else β p⟩ p := by
    intro p hp ob' ho'
    have hpd : p ≠ d := by simpa using hp
    simp only [newH, if_neg hpd] at ho' ⊢
    cases hso : s.h p with
    | none => simp [hso] at ho'
    | some ob2 =>
      simp [hso] at ho'
      subst ho'
      refine ⟨ob2, rfl, by rw [Ob.kill_len]; exact Nat.le_refl _, fun _ => ⟨trivial, Ob.kill_es _ _, Ob.kill_ty _ _, fun b cur' hb hcur => ⟨cur', ?_, rfl⟩⟩⟩
      rw [hold b (hMlt p ob2 b hso hb)]
      exact hcur
  have hobs : ObsOK ⟨w', fun b => A b ∨ b = w.heap.size, newH s.h d ob, fun p => if p = d then some w.heap.size else β p⟩ := by
    refine ⟨fun o ob' ho => ?_, fun o o' ob1 ob2 b h1 h2 h3 h4 => ?_, fun b hb => ?_⟩
    · simp only [newH] at ho ⊢
      by_cases hod : o = d
      · rw [if_pos hod] at ho
        simp only [Option.some.injEq] at ho
        subst ho
        rw [if_pos hod]
        refine ⟨.inr rfl, cur, by rw [Ob.kill_ty]; exact hnew, ?_, by rw [Ob.kill_len, Ob.kill_es]; exact hlen, ?_⟩
        · intro row hrow
          rw [Ob.kill_es]
          unfold Ob.kill at hrow
          split at hrow
          · simp only [List.mem_map] at hrow
            obtain ⟨r, hr, rfl⟩ := hrow
            simpa using hes r hr
          · exact hes row hrow
        · intro i row hi j x hx
          rw [Ob.kill_es, Ob.kill_imp]
          unfold Ob.kill at hi
          split at hi
          · rename_i himp
            simp only [List.getElem?_map] at hi
            cases hri : ob.rows[i]? with
            | none => simp [hri] at hi
            | some r =>
              simp [hri] at hi
              subst hi
              rw [List.getElem?_map] at hx
              cases hxj : r[j]? with
              | none => simp [hxj] at hx
              | some y =>
                simp [hxj] at hx
                subst hx
                obtain ⟨v, c1, c2, c3, _⟩ := hc i r hri j y hxj
                exact ⟨v, c1, c2, c3.step R.obs S _ hk, fun h => by simp [himp] at h⟩
          · rename_i himp
            obtain ⟨v, c1, c2, _, c4⟩ := hc i row hi j x hx
            have c5 := RelP.step R.obs S (c4 (by simpa using himp))
            exact ⟨v, c1, c2, Rel1.of_relP c5, fun _ => c5⟩
      · rw [if_neg hod] at ho ⊢
        cases hso : s.h o with
        | none => simp [hso] at ho
        | some ob2 =>
          simp [hso] at ho
          subst ho
          have hok := R.obs.ok o ob2 hso
          exact ObOK.step R.obs S _ hk (fun b hb => ⟨hold b (hMlt o ob2 b hso hb), .inl (by simp only at hok; rw [hb] at hok; exact hok.1)⟩) hok
    · simp only [newH] at h1 h2 h3 h4
      by_cases e1 : o = d
      · by_cases e2 : o' = d
        · rw [e1, e2]
        · rw [if_pos e1] at h3
          rw [if_neg e2] at h2 h4
          simp only [Option.some.injEq] at h3
          cases hso : s.h o' with
          | none => simp [hso] at h2
          | some ob3 => have := hMlt o' ob3 b hso h4; omega
      · by_cases e2 : o' = d
        · rw [if_pos e2] at h4
          rw [if_neg e1] at h1 h3
          simp only [Option.some.injEq] at h4
          cases hso : s.h o with
          | none => simp [hso] at h1
          | some ob3 => have := hMlt o ob3 b hso h3; omega
        · rw [if_neg e1] at h1 h3
          rw [if_neg e2] at h2 h4
          cases hso : s.h o with
          | none => simp [hso] at h1
          | some ob3 =>
            cases hso' : s.h o' with
            | none => simp [hso'] at h2
            | some ob4 => exact R.obs.inj o o' ob3 ob4 b hso hso' h3 h4
    · rcases hb with hb | hb
      · have := R.obs.lt b hb
        simp only at this ⊢; omega
      · simp only at hb ⊢; omega
  have hvv : Rel ⟨w', fun b => A b ∨ b = w.heap.size, newH s.h d ob, fun p => if p = d then some w.heap.size else β p⟩ v u := by
    rcases hv with ⟨rfl, rfl⟩ | ⟨rfl, cap, rfl, h1, h2, h3⟩
    · intro ob' ho'
      simp only [newH, if_true, Option.some.injEq] at ho'
      subst ho'
      exact ⟨by rw [Ob.kill_len]; exact Nat.le_refl _, fun _ => ⟨w.heap.size, by simp, by simp⟩⟩
    · intro ob' ho'
      simp only [newH, if_true, Option.some.injEq] at ho'
      subst ho'
      refine ⟨by rw [Ob.kill_len]; exact Nat.le_refl _, fun _ => ?_⟩
      simp only [if_true]
      exact ⟨cap, cur, rfl, h1, h2, by rw [Ob.kill_ty]; exact hnew, by rw [Ob.kill_es]; exact h3⟩
  have := R.step w' _ _ (newH s.h d ob) (· == d) S hk hobs (fun b hb h => .inl (R.a0 b hb h))
    ⟨hos.1.trans R.ev.os, hos.2.1.trans R.ev.tape, hos.2.2.trans R.ev.output, by have := R.ev.size; omega, fun k hk hI => by
      rw [hold k (by have := R.ev.size; omega)]; exact R.ev.block k hk hI⟩
    (fun o ob' b ho hb => by
      simp only [newH] at ho
      by_cases hod : o = d
      · rw [if_pos hod] at hb
        simp only [Option.some.injEq] at hb
        subst hb
        exact .inl R.ev.size
      · rw [if_neg hod] at ho hb
        cases hso : s.h o with
        | none => simp [hso] at ho
        | some ob2 => exact R.own o ob2 b hso hb)
    (fun o hq h => absurd (R.qn o hq).1 (by have h2 : o = d := (by simpa using h); omega))
    (some d) (fun k hk => by cases hk; exact hd) v u hvv
  exact this

/-! ### An object that changes, in its block or into a new one -/
def setH (h : Nat → Option Ob) (o : Nat) (ob : Ob) : Nat → Option Ob := fun p => if p = o then some ob else h p

def St.setOb (s : St) (o : Nat) (ob : Ob) : St := ⟨s.t, setH s.h o ob⟩

theorem RB.repl {w0 : World} {I : Imp} {A0 : Nat → Prop} {n : Nat} {s : St} {a : Act} {w : World} {β : Nat → Option Nat} {A : Nat → Prop} (R : RB w0 I A0 n s a w β A)
    (o : Nat) (ob ob' : Ob) (ho : s.h o = some ob) (hes : ob'.es = ob.es) (hty : ob'.ty = ob.ty) (hle : ob.rows.length ≤ ob'.rows.length)
    (w' : World) (b' : Nat) (cur' : Array Value) (hb' : w'.heap[b']? = some (.cells cur' ob.ty (0, 0)))
    (hcase : (β o = some b' ∧ ∀ cur, w.heap[b']? = some (.cells cur ob.ty (0, 0)) → cur'.size = cur.size) ∨ (b' = w.heap.size ∧ ob'.rows.length ≠ ob.rows.length))
    (hheap : ∀ k, k < w.heap.size → β o ≠ some k → w'.heap[k]? = w.heap[k]?) (hsz : w.heap.size ≤ w'.heap.size) (hos : w'.os = w.os ∧ w'.tape = w.tape ∧ w'.output = w.output)
    (hrow : ∀ row ∈ ob'.rows, row.length = ob.es) (hlen : ob'.rows.length * ob.es ≤ cur'.size)
    (hc : ∀ (i : Nat) (row : List V), ob'.rows[i]? = some row → ∀ (j : Nat) (x : V), row[j]? = some x → ∃ v, cur'[i * ob.es + j]? = some v ∧ v.oneCell' = true ∧ Rel1 ⟨w, A, s.h, β⟩ x v ∧ (ob'.imp = false → RelP w A x v))
    (d : Option Tmp) (hd : ∀ k, d = some k → k < n) (v : V) (u : Value)
    (hv : (v = .dead) ∨ (v = .ref o ob'.rows.length ∧ ∃ cap, u = .slice (some ⟨b', 0, none⟩) ob'.rows.length cap ∧ ob'.rows.length ≤ cap ∧ cap ≤ maxLen ∧ cur'.size = cap * ob.es)) :
    RB w0 I A0 n ((s.setOb o ob').put d v) (a.put d u) w' (fun p => if p = o then some b' else β p) (fun b => A b ∨ b = b') := by
  have hMlt : ∀ p ob' b, s.h p = some ob' → β p = some b → b < w.heap.size := fun p ob' b hp hb => by
    have := R.obs.ok p ob' hp
    simp only at this
    rw [hb] at this
    exact R.obs.lt b this.1
  have hother : ∀ p ob2 b, p ≠ o → s.h p = some ob2 → β p = some b → w'.heap[b]? = w.heap[b]? ∧ b ≠ b' := by
    intro p ob2 b hpo hp hb
    have h1 := hMlt p ob2 b hp hb
    refine ⟨hheap b h1 (fun e => hpo (R.obs.inj p o ob2 ob b hp ho hb e)), fun e => ?_⟩
    subst e
    rcases hcase with ⟨h2, _⟩ | ⟨h2, _⟩
    · exact hpo (R.obs.inj p o ob2 ob b hp ho hb h2)
    · omega
  have S : Step ⟨w, A, s.h, β⟩ ⟨w', fun b => A b ∨ b = b', setH s.h o ob', fun p => if p = o then some b' else β p⟩ := by
    have hb'A : b' < w.heap.size → A b' := fun h => by
      rcases hcase with ⟨h2, _⟩ | ⟨h2, _⟩
      · have := R.obs.ok o ob ho
        simp only at this
        rw [h2] at this
        exact this.1
      · omega
    refine ⟨fun b hb hM => hheap b hb (fun e => hM ⟨o, ob, ho, e⟩), hsz, fun b hb h => ?_, fun b hb h => ?_⟩
    · rcases h with h | rfl
      · exact h
      · exact hb'A hb
    · obtain ⟨p, ob2, hp, hbp⟩ := h
      simp only [setH] at hp hbp
      by_cases hpo : p = o
      · rw [if_pos hpo] at hbp
        simp only [Option.some.injEq] at hbp
        subst hbp
        rcases hcase with ⟨h2, _⟩ | ⟨h2, _⟩
        · exact ⟨o, ob, ho, h2⟩
        · simp only at hb; omega
      · rw [if_neg hpo] at hp hbp
        exact ⟨p, ob2, hp, hbp⟩
  have hk : ∀ p, Keep ⟨w, A, s.h, β⟩ ⟨w', fun b => A b ∨ b = b', setH s.h o ob', fun p => if p = o then some b' else β p⟩ p := by
    intro p obp hp
    simp only [setH] at hp
    by_cases hpo : p = o
    · rw [if_pos hpo] at hp
      simp only [Option.some.injEq] at hp
      subst hp
      subst hpo
      refine ⟨ob, ho, hle, fun heq => ?_⟩
      rcases hcase with ⟨h2, h3⟩ | ⟨_, h3⟩
      · refine ⟨by simp [h2], hes, hty, fun b cur hb hcur => ?_⟩
        simp only at hb hcur
        rw [h2] at hb
        cases hb
        exact ⟨cur', hb', h3 cur hcur⟩
      · exact absurd heq h3
    · rw [if_neg hpo] at hp
      refine ⟨obp, hp, Nat.le_refl _, fun _ => ⟨by simp [hpo], rfl, rfl, fun b cur hb hcur => ⟨cur, ?_, rfl⟩⟩⟩
      simp only at hb hcur ⊢
      rw [(hother p obp b hpo hp hb).1]
      exact hcur
  have hobs : ObsOK ⟨w', fun b => A b ∨ b = b', setH s.h o ob', fun p => if p = o then some b' else β p⟩ := by
    refine ⟨fun p obp hp => ?_, fun p q ob1 ob2 b h1 h2 h3 h4 => ?_, fun b hb => ?_⟩
    · simp only [setH] at hp ⊢
      by_cases hpo : p = o
      · rw [if_pos hpo] at hp
        simp only [Option.some.injEq] at hp
        subst hp
        rw [if_pos hpo]
        refine ⟨.inr rfl, cur', by rw [hty]; exact hb', fun row h => by rw [hes]; exact hrow row h, by rw [hes]; exact hlen, fun i row hi j x hx => ?_⟩
        obtain ⟨v, c1, c2, c3, c4⟩ := hc i row hi j x hx
        have c5 := Rel1.step R.obs S (fun _ => false) (fun p _ => hk p) c3
        rw [V.kill1_none] at c5
        exact ⟨v, by rw [hes]; exact c1, c2, c5, fun h => RelP.step R.obs S (c4 h)⟩
      · rw [if_neg hpo] at hp ⊢
        have hok := R.obs.ok p obp hp
        have := ObOK.step R.obs S (fun _ => false) (fun p _ => hk p) (fun b hb => ⟨(hother p obp b hpo hp hb).1, .inl (by simp only at hok; rw [hb] at hok; exact hok.1)⟩) hok
        rwa [Ob.kill_none] at this
    · simp only [setH] at h1 h2 h3 h4
      by_cases e1 : p = o
      · by_cases e2 : q = o
        · rw [e1, e2]
        · rw [if_pos e1] at h3
          rw [if_neg e2] at h2 h4
          simp only [Option.some.injEq] at h3
          exact absurd h3.symm (hother q ob2 b e2 h2 h4).2
      · by_cases e2 : q = o
        · rw [if_pos e2] at h4
          rw [if_neg e1] at h1 h3
          simp only [Option.some.injEq] at h4
          exact absurd h4.symm (hother p ob1 b e1 h1 h3).2
        · rw [if_neg e1] at h1 h3
          rw [if_neg e2] at h2 h4
          exact R.obs.inj p q ob1 ob2 b h1 h2 h3 h4
    · rcases hb with hb | rfl
      · have := R.obs.lt b hb
        simp only at this ⊢; omega
      · exact (Array.getElem?_eq_some_iff.1 hb').1
  have hvv : Rel ⟨w', fun b => A b ∨ b = b', setH s.h o ob', fun p => if p = o then some b' else β p⟩ v u := by
    rcases hv with rfl | ⟨rfl, cap, rfl, h1, h2, h3⟩
    · trivial
    · intro obp hp
      simp only [setH, if_true, Option.some.injEq] at hp
      subst hp
      refine ⟨Nat.le_refl _, fun _ => ?_⟩
      simp only [if_true]
      exact ⟨cap, cur', rfl, h1, h2, by rw [hty]; exact hb', by rw [hes]; exact h3⟩
  have := R.step w' _ _ (setH s.h o ob') (fun _ => false) S (fun p _ => hk p) hobs (fun b hb h => .inl (R.a0 b hb h))
    ⟨hos.1.trans R.ev.os, hos.2.1.trans R.ev.tape, hos.2.2.trans R.ev.output, Nat.le_trans R.ev.size hsz, fun k hk hI => by
      rw [hheap k (Nat.lt_of_lt_of_le hk R.ev.size) (fun e => by
        rcases R.own o ob k ho e with h | h
        · omega
        · exact hI h)]
      exact R.ev.block k hk hI⟩
    (fun p obp b hp hb => by
      simp only [setH] at hp
      by_cases hpo : p = o
      · rw [if_pos hpo] at hb
        simp only [Option.some.injEq] at hb
        subst hb
        rcases hcase with ⟨h2, _⟩ | ⟨h2, _⟩
        · exact R.own o ob b' ho h2
        · exact .inl (by rw [h2]; exact R.ev.size)
      · rw [if_neg hpo] at hp hb
        exact R.own p obp b hp hb)
    (fun _ _ h => by cases h)
    d hd v u hvv
  have e : (⟨fun i => (s.t i).kill fun _ => false, setH s.h o ob'⟩ : St) = s.setOb o ob' := by simp only [V.kill_none, St.setOb]
  rw [e] at this
  exact this

theorem RB.newNil {w0 : World} {I : Imp} {A0 : Nat → Prop} {n : Nat} {s : St} {a : Act} {w : World} {β : Nat → Option Nat} {A : Nat → Prop} (R : RB w0 I A0 n s a w β A)
    (d : Nat) (ob : Ob) (hr : ob.rows = []) (dst : Option Tmp) (hd : ∀ k, dst = some k → k < n) (v : V) (u : Value) (hv : v = .dead ∨ (v = .ref d 0 ∧ u = .slice none 0 0)) (hdn : d < n) :
    RB w0 I A0 n (St.put ⟨fun i => (s.t i).kill (· == d), newH s.h d ob⟩ dst v) (a.put dst u) w (fun p => if p = d then none else β p) A := by
  have hkr : (ob.kill (· == d)).rows = [] := by unfold Ob.kill; split <;> simp [hr]
  have S : Step ⟨w, A, s.h, β⟩ ⟨w, A, newH s.h d ob, fun p => if p = d then none else β p⟩ := by
    refine ⟨fun b hb _ => rfl, Nat.le_refl _, fun b hb h => h, fun b hb h => ?_⟩
    obtain ⟨o, ob', ho, hbo⟩ := h
    simp only [newH] at ho hbo
    by_cases ho' : o = d
    · rw [if_pos ho'] at hbo; cases hbo
    · rw [if_neg ho'] at ho hbo
      cases hso : s.h o with
      | none => simp [hso] at ho
      | some ob2 => exact ⟨o, ob2, hso, hbo⟩
  have hk : ∀ p, (p == d) = false → Keep ⟨w, A, s.h, β⟩ ⟨w, A, newH s.h d ob, fun p => if p = d then none else β p⟩ p := by
    intro p hp ob' ho'
    have hpd : p ≠ d := by simpa using hp
    simp only [newH, if_neg hpd] at ho' ⊢
    cases hso : s.h p with
    | none => simp [hso] at ho'
    | some ob2 =>
      simp [hso] at ho'
      subst ho'
      exact ⟨ob2, rfl, by rw [Ob.kill_len]; exact Nat.le_refl _, fun _ => ⟨trivial, Ob.kill_es _ _, Ob.kill_ty _ _, fun b cur' hb hcur => ⟨cur', hcur, rfl⟩⟩⟩
  have hobs : ObsOK ⟨w, A, newH s.h d ob, fun p => if p = d then none else β p⟩ := by
    refine ⟨fun o ob' ho => ?_, fun o o' ob1 ob2 b h1 h2 h3 h4 => ?_, R.obs.lt⟩
    · simp only [newH] at ho ⊢
      by_cases hod : o = d
      · rw [if_pos hod] at ho
        simp only [Option.some.injEq] at ho
        subst ho
        rw [if_pos hod]
        exact hkr
      · rw [if_neg hod] at ho ⊢
        cases hso : s.h o with
        | none => simp [hso] at ho
        | some ob2 =>
          simp [hso] at ho
          subst ho
          have hok := R.obs.ok o ob2 hso
          exact ObOK.step R.obs S _ hk (fun b hb => ⟨rfl, by simp only at hok; rw [hb] at hok; exact hok.1⟩) hok
    · simp only [newH] at h1 h2 h3 h4
      by_cases e1 : o = d
      · rw [if_pos e1] at h3; cases h3
      · by_cases e2 : o' = d
        · rw [if_pos e2] at h4; cases h4
        · rw [if_neg e1] at h1 h3
          rw [if_neg e2] at h2 h4
          cases hso : s.h o with
          | none => simp [hso] at h1
          | some ob3 =>
            cases hso' : s.h o' with
            | none => simp [hso'] at h2
            | some ob4 => exact R.obs.inj o o' ob3 ob4 b hso hso' h3 h4
  refine R.step w _ A (newH s.h d ob) (· == d) S hk hobs R.a0 R.ev (fun o ob' b ho hb => ?_) (fun o hq h => absurd (R.qn o hq).1 (by have h2 : o = d := (by simpa using h); omega)) dst hd v u ?_
  · simp only [newH] at ho
    by_cases hod : o = d
    · rw [if_pos hod] at hb; cases hb
    · rw [if_neg hod] at ho hb
      cases hso : s.h o with
      | none => simp [hso] at ho
      | some ob2 => exact R.own o ob2 b hso hb
  · rcases hv with rfl | ⟨rfl, rfl⟩
    · trivial
    · intro ob' ho'
      simp only [newH, if_true, Option.some.injEq] at ho'
      subst ho'
      exact ⟨Nat.zero_le _, fun _ => by simp⟩

end Go.AL
