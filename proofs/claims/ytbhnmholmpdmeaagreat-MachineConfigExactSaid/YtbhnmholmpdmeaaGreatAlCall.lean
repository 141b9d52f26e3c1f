/-
  THE ABSTRACT LAYER, EIGHTH PART: contracts of functions, and a call as a step of the abstract state. By an AI agent.
-/
import Derived.Test.YtbhnmholmpdmeaaGreatAlOps2
namespace Go.AL
set_option linter.unusedVariables false
set_option linter.unusedSimpArgs false
set_option linter.unusedSectionVars false

inductive RD where
  | v (x : V)
  | o (ty es : Nat) (rows : List (List V))

def V.atom : V → Bool
  | .int .. | .bool _ | .str _ | .nil | .sl _ | .raw _ => true
  | _ => false
def RD.val (k : Nat) : RD → V
  | .v x => x
  | .o _ _ rows => .ref k rows.length
def RD.ob : RD → Option Ob
  | .v _ => none
  | .o ty es rows => some ⟨ty, es, false, rows⟩
def RD.ok : RD → Bool
  | .v x => x.pure
  | .o .. => true
def rdH (rds : List RD) (k : Nat) : Option Ob := (rds[k]?).bind RD.ob
def packV : List Value → Value
  | [v] => v
  | vs => .tuple vs.toArray
def packA : List V → V
  | [v] => v
  | vs => .tup vs
def rdVals : Nat → List RD → List V
  | _, [] => []
  | d, rd :: r => rd.val d :: rdVals (d + 1000) r

def noH : Nat → Option Ob := fun _ => none
def noB : Nat → Option Nat := fun _ => none
def noI : Imp := ⟨fun _ => False, fun _ => False, noB, fun _ => 0, fun _ => undef⟩

structure PostR (w : World) (A : Nat → Prop) (rds : List RD) (w' : World) (us : List Value) (β' : Nat → Option Nat) (A' : Nat → Prop) : Prop where
  len : us.length = rds.length
  obs : ObsOK ⟨w', A', rdH rds, β'⟩
  rel : ∀ (k : Nat) (rd : RD), rds[k]? = some rd → ∃ u, us[k]? = some u ∧ RelA ⟨w', A', rdH rds, β'⟩ (rd.val k) u
  a0 : ∀ b, b < w.heap.size → A b → A' b
  ev : Ev w w' noI.P
  own : ∀ k ob b, rdH rds k = some ob → β' k = some b → w.heap.size ≤ b

def FnP (P : Program) (f : FuncId) (args : List V) (Pd : List RD → Prop) : Prop :=
  (∀ rds, Pd rds → ∀ rd ∈ rds, rd.ok = true) ∧
  ∀ (w : World) (A : Nat → Prop) (vs : Array Value), (∀ b, A b → b < w.heap.size) → vs.size = args.length →
    (∀ (i : Nat) (x : V), args[i]? = some x → ∃ u, vs[i]? = some u ∧ Rel ⟨w, A, noH, noB⟩ x u) →
    Calls P f vs w fun e w' => ∃ rds us β' A', Pd rds ∧ e = .returned (packV us) ∧ PostR w A rds w' us β' A'

def callK (d m p : Nat) : Bool := decide (d ≤ p) && ((p - d) % 1000 == 0) && decide ((p - d) / 1000 < m)

theorem callK_spec {d m p : Nat} (h : callK d m p = true) : p = d + 1000 * ((p - d) / 1000) ∧ (p - d) / 1000 < m := by
  simp only [callK, Bool.and_eq_true, decide_eq_true_eq, beq_iff_eq] at h
  obtain ⟨⟨h1, h2⟩, h3⟩ := h
  exact ⟨by omega, h3⟩

theorem callK_of {d m k : Nat} (h : k < m) : callK d m (d + 1000 * k) = true ∧ (d + 1000 * k - d) / 1000 = k := by
  have e : (d + 1000 * k - d) / 1000 = k := by omega
  refine ⟨?_, e⟩
  simp only [callK, Bool.and_eq_true, decide_eq_true_eq, beq_iff_eq, e]
  exact ⟨⟨by omega, by omega⟩, h⟩

def callH (h : Nat → Option Ob) (d : Nat) (rds : List RD) : Nat → Option Ob := fun p =>
  if callK d rds.length p then rdH rds ((p - d) / 1000) else (h p).map (Ob.kill (callK d rds.length))

def St.call (s : St) (dst : Option Nat) (rds : List RD) : St := match dst with
  | some d => ⟨fun i => if i = d then packA (rdVals d rds) else (s.t i).kill (callK d rds.length), callH s.h d rds⟩
  | none => s

theorem rdVals_get : ∀ (rds : List RD) (d k : Nat), (rdVals d rds)[k]? = (rds[k]?).map (RD.val (d + 1000 * k))
  | [], d, k => by simp [rdVals]
  | rd :: r, d, 0 => by simp [rdVals]
  | rd :: r, d, k + 1 => by
    simp only [rdVals, List.getElem?_cons_succ]
    rw [rdVals_get r (d + 1000) k]
    congr 2
    omega
theorem rdVals_len : ∀ (rds : List RD) (d : Nat), (rdVals d rds).length = rds.length
  | [], d => rfl
  | rd :: r, d => by simp [rdVals, rdVals_len r]

theorem relA_pure {E E' : Env} {x : V} {u : Value} (hp : x.pure = true) (hs : E.w = E'.w) (hA : ∀ b, b < E'.w.heap.size → E'.A b → E.A b) (h : RelA E x u) : RelA E' x u := by
  have key : ∀ y v, RelP E.w E.A y v → RelP E'.w E'.A y v := fun y v h => by
    rw [← hs]
    exact h.frame (fun _ _ _ => rfl) (Nat.le_refl _) (fun b hb => hA b (by rw [← hs]; exact hb))
  cases x with
  | agg cs =>
    obtain ⟨vs, hv, hsz, hc⟩ := h
    exact ⟨vs, hv, hsz, fun i x hx => let ⟨u, h1, h2⟩ := hc i x hx; ⟨u, h1, key _ _ h2⟩⟩
  | int k n => exact key _ _ h
  | bool b => exact key _ _ h
  | str s => exact key _ _ h
  | nil => exact key _ _ h
  | sl rows => exact key _ _ h
  | raw v => exact key _ _ h
  | _ => simp [V.pure] at hp

theorem rel1_atom {E E' : Env} {x : V} {v : Value} (hx : x.atom = true) (hP : ∀ y v, RelP E.w E.A y v → RelP E'.w E'.A y v) (h : Rel1 E x v) : Rel1 E' x v := by
  cases x <;> first | exact hP _ _ h | (simp [V.atom] at hx; done)
section
variable {P : Program} {w0 : World} {I : Imp} {A0 : Nat → Prop} {n : Nat} {s : St} {a : Act} {w : World} {β : Nat → Option Nat} {A : Nat → Prop}

theorem RB.call (R : RB w0 I A0 n s a w β A) {rds : List RD} (hok : ∀ rd ∈ rds, rd.ok = true) {w' : World} {us : List Value} {β' : Nat → Option Nat} {A' : Nat → Prop} (h : PostR w A rds w' us β' A')
    (dst : Option Tmp) (hd : ∀ k, dst = some k → k < n) : RR w0 I A0 n (s.call dst rds) (a.put dst (packV us)) w' := by
  have hMlt : ∀ o ob' b, s.h o = some ob' → β o = some b → b < w.heap.size := fun o ob' b ho hb => by
    have := R.obs.ok o ob' ho
    simp only at this
    rw [hb] at this
    exact R.obs.lt b this.1
  -- the environment behind, for a name's set K and a base d
  have main : ∀ d, d < n → RB w0 I A0 n ⟨fun i => (s.t i).kill (callK d rds.length), callH s.h d rds⟩ a w' (fun p => if callK d rds.length p then β' ((p - d) / 1000) else β p)
        (fun b => (b < w.heap.size ∧ A b) ∨ ∃ k ob, rdH rds k = some ob ∧ β' k = some b) ∧
      (∀ (k : Nat) (rd : RD), rds[k]? = some rd → ∃ u, us[k]? = some u ∧ RelA ⟨w', fun b => (b < w.heap.size ∧ A b) ∨ ∃ k ob, rdH rds k = some ob ∧ β' k = some b, callH s.h d rds, fun p => if callK d rds.length p then β' ((p - d) / 1000) else β p⟩ (rd.val (d + 1000 * k)) u) := by
    intro d hdn
    have hA'' : ∀ b, ((b < w.heap.size ∧ A b) ∨ ∃ k ob, rdH rds k = some ob ∧ β' k = some b) → A' b := by
      rintro b (⟨h1, h2⟩ | ⟨k, ob, h1, h2⟩)
      · exact h.a0 b h1 h2
      · have := h.obs.ok k ob h1
        simp only at this
        rw [h2] at this
        exact this.1
    have hold : ∀ b, b < w.heap.size → w'.heap[b]? = w.heap[b]? := fun b hb => h.ev.block b hb (fun hI => hI)
    have S : Step ⟨w, A, s.h, β⟩ ⟨w', fun b => (b < w.heap.size ∧ A b) ∨ ∃ k ob, rdH rds k = some ob ∧ β' k = some b, callH s.h d rds, fun p => if callK d rds.length p then β' ((p - d) / 1000) else β p⟩ := by
      refine ⟨fun b hb _ => hold b hb, h.ev.size, fun b hb hh => ?_, fun b hb hh => ?_⟩
      · rcases hh with ⟨_, h2⟩ | ⟨k, ob, h1, h2⟩
        · exact h2
        · have := h.own k ob b h1 h2
          simp only at hb
          omega
      · obtain ⟨p, ob, hp, hbp⟩ := hh
        simp only [callH] at hp hbp
        by_cases hK : callK d rds.length p = true
        · rw [if_pos hK] at hp hbp
          have := h.own _ ob b hp hbp
          simp only at hb
          omega
        · rw [if_neg hK] at hp hbp
          cases hso : s.h p with
          | none => simp [hso] at hp
          | some ob2 => exact ⟨p, ob2, hso, hbp⟩
    have hk : ∀ p, callK d rds.length p = false → Keep ⟨w, A, s.h, β⟩ ⟨w', fun b => (b < w.heap.size ∧ A b) ∨ ∃ k ob, rdH rds k = some ob ∧ β' k = some b, callH s.h d rds, fun p => if callK d rds.length p then β' ((p - d) / 1000) else β p⟩ p := by
      intro p hp ob' ho'
      simp only [callH, hp, Bool.false_eq_true, if_false] at ho' ⊢
      cases hso : s.h p with
      | none => simp [hso] at ho'
      | some ob2 =>
        simp [hso] at ho'
        subst ho'
        refine ⟨ob2, rfl, by rw [Ob.kill_len]; exact Nat.le_refl _, fun _ => ⟨trivial, Ob.kill_es _ _, Ob.kill_ty _ _, fun b cur' hb hcur => ⟨cur', ?_, rfl⟩⟩⟩
        rw [hold b (hMlt p ob2 b hso hb)]
        exact hcur
    have hnew : ∀ (k : Nat) (rd : RD), rds[k]? = some rd → callK d rds.length (d + 1000 * k) = true ∧ (d + 1000 * k - d) / 1000 = k := fun k rd hk => callK_of (List.getElem?_eq_some_iff.1 hk).1
    have hobs : ObsOK ⟨w', fun b => (b < w.heap.size ∧ A b) ∨ ∃ k ob, rdH rds k = some ob ∧ β' k = some b, callH s.h d rds, fun p => if callK d rds.length p then β' ((p - d) / 1000) else β p⟩ := by
      refine ⟨fun p ob hp => ?_, fun p q ob1 ob2 b h1 h2 h3 h4 => ?_, fun b hb => h.obs.lt b (hA'' b hb)⟩
      · simp only [callH] at hp ⊢
        by_cases hK : callK d rds.length p = true
        · rw [if_pos hK] at hp ⊢
          have hob := h.obs.ok _ ob hp
          simp only at hob
          have himp : ob.imp = false := by
            unfold rdH at hp
            cases hr : rds[(p - d) / 1000]? with
            | none => simp [hr] at hp
            | some rd => cases rd <;> simp [hr, RD.ob] at hp <;> (subst hp; rfl)
          cases hb : β' ((p - d) / 1000) with
          | none => rw [hb] at hob; exact hob
          | some b =>
            rw [hb] at hob
            obtain ⟨_, cur, h1, h2, h3, h4⟩ := hob
            refine ⟨.inr ⟨_, ob, hp, hb⟩, cur, h1, h2, h3, fun i row hi j x hx => ?_⟩
            obtain ⟨v, c1, c2, _, c4⟩ := h4 i row hi j x hx
            have c5 : RelP w' _ x v := (c4 himp).frame (A' := fun b => (b < w.heap.size ∧ A b) ∨ ∃ k ob, rdH rds k = some ob ∧ β' k = some b) (fun _ _ _ => rfl) (Nat.le_refl _) (fun b _ hb => hA'' b hb)
            exact ⟨v, c1, c2, Rel1.of_relP c5, fun _ => c5⟩
        · rw [if_neg hK] at hp ⊢
          cases hso : s.h p with
          | none => simp [hso] at hp
          | some ob2 =>
            simp [hso] at hp
            subst hp
            have hob := R.obs.ok p ob2 hso
            exact ObOK.step R.obs S _ hk (fun b hb => ⟨hold b (hMlt p ob2 b hso hb), .inl ⟨hMlt p ob2 b hso hb, by simp only at hob; rw [hb] at hob; exact hob.1⟩⟩) hob
      · simp only [callH] at h1 h2 h3 h4
        by_cases e1 : callK d rds.length p = true
        · by_cases e2 : callK d rds.length q = true
          · rw [if_pos e1] at h1 h3
            rw [if_pos e2] at h2 h4
            have hi := h.obs.inj _ _ ob1 ob2 b h1 h2 h3 h4
            have s1 := (callK_spec e1).1
            have s2 := (callK_spec e2).1
            rw [s1, s2, hi]
          · rw [if_pos e1] at h1 h3
            rw [if_neg e2] at h2 h4
            cases hso : s.h q with
            | none => simp [hso] at h2
            | some ob3 =>
              have := hMlt q ob3 b hso h4
              have := h.own _ ob1 b h1 h3
              omega
        · by_cases e2 : callK d rds.length q = true
          · rw [if_neg e1] at h1 h3
            rw [if_pos e2] at h2 h4
            cases hso : s.h p with
            | none => simp [hso] at h1
            | some ob3 =>
              have := hMlt p ob3 b hso h3
              have := h.own _ ob2 b h2 h4
              omega
          · rw [if_neg e1] at h1 h3
            rw [if_neg e2] at h2 h4
            cases hso : s.h p with
            | none => simp [hso] at h1
            | some ob3 =>
              cases hso' : s.h q with
              | none => simp [hso'] at h2
              | some ob4 => exact R.obs.inj p q ob3 ob4 b hso hso' h3 h4
    refine ⟨?_, fun k rd hkr => ?_⟩
    · have := R.step w' _ _ (callH s.h d rds) (callK d rds.length) S hk hobs (fun b hb hb0 => .inl ⟨Nat.lt_of_lt_of_le hb R.ev.size, R.a0 b hb hb0⟩)
        ⟨h.ev.os.trans R.ev.os, h.ev.tape.trans R.ev.tape, h.ev.output.trans R.ev.output, Nat.le_trans R.ev.size h.ev.size, fun k hk hI => by
          rw [hold k (Nat.lt_of_lt_of_le hk R.ev.size)]; exact R.ev.block k hk hI⟩
        (fun p ob b hp hb => by
          simp only [callH] at hp
          by_cases hK : callK d rds.length p = true
          · rw [if_pos hK] at hp hb
            have := h.own _ ob b hp hb
            exact .inl (Nat.le_trans R.ev.size this)
          · rw [if_neg hK] at hp hb
            cases hso : s.h p with
            | none => simp [hso] at hp
            | some ob2 => exact R.own p ob2 b hso hb)
        (fun p hq hx => by
          have hq2 := R.qn p hq
          have := (callK_spec hx).1
          omega)
        none (fun _ h => by cases h) .dead undef trivial
      exact this
    · obtain ⟨u, hu, hrel⟩ := h.rel k rd hkr
      refine ⟨u, hu, ?_⟩
      obtain ⟨hk1, hk2⟩ := hnew k rd hkr
      cases rd with
      | v x => exact relA_pure (E := ⟨w', A', rdH rds, β'⟩) (hok _ (List.mem_of_getElem? hkr)) rfl (fun b _ hb => hA'' b hb) hrel
      | o ty es rows =>
        intro ob hob
        simp only [callH, hk1, if_true, hk2] at hob
        have hr := hrel ob hob
        simp only [hk1, if_true, hk2]
        exact hr
  cases dst with
  | none =>
    -- nothing is put: a base that clashes with nothing is not needed: the names are killed nowhere
    have hold : ∀ b, b < w.heap.size → w'.heap[b]? = w.heap[b]? := fun b hb => h.ev.block b hb (fun hI => hI)
    have S : Step ⟨w, A, s.h, β⟩ ⟨w', A, s.h, β⟩ := ⟨fun b hb _ => hold b hb, h.ev.size, fun _ _ h => h, fun _ _ h => h⟩
    have hk : ∀ p, Keep ⟨w, A, s.h, β⟩ ⟨w', A, s.h, β⟩ p := fun p ob ho => ⟨ob, ho, Nat.le_refl _, fun _ => ⟨rfl, rfl, rfl, fun b cur hb hc => ⟨cur, by
      simp only at hb hc ⊢
      rw [hold b (hMlt p ob b ho hb)]; exact hc, rfl⟩⟩⟩
    have := R.step w' β A s.h (fun _ => false) S (fun p _ => hk p)
      ⟨fun o ob ho => by
        have h2 := R.obs.ok o ob ho
        have := ObOK.step R.obs S (fun _ => false) (fun p _ => hk p) (fun b hb => ⟨hold b (hMlt o ob b ho hb), by simp only at h2; rw [hb] at h2; exact h2.1⟩) h2
        rwa [Ob.kill_none] at this, R.obs.inj, fun b hb => Nat.lt_of_lt_of_le (R.obs.lt b hb) h.ev.size⟩
      R.a0 ⟨h.ev.os.trans R.ev.os, h.ev.tape.trans R.ev.tape, h.ev.output.trans R.ev.output, Nat.le_trans R.ev.size h.ev.size, fun k hk hI => by
          rw [hold k (Nat.lt_of_lt_of_le hk R.ev.size)]; exact R.ev.block k hk hI⟩ R.own (fun _ _ h => by cases h) none (fun _ h => by cases h) .dead undef trivial
    have e : (⟨fun i => (s.t i).kill fun _ => false, s.h⟩ : St) = s := by simp only [V.kill_none]
    rw [e] at this
    exact ⟨_, _, this⟩
  | some d =>
    obtain ⟨hR, hrel⟩ := main d (hd d rfl)
    have hput : Rel ⟨w', fun b => (b < w.heap.size ∧ A b) ∨ ∃ k ob, rdH rds k = some ob ∧ β' k = some b, callH s.h d rds, fun p => if callK d rds.length p then β' ((p - d) / 1000) else β p⟩ (packA (rdVals d rds)) (packV us) := by
      have hl : us.length = (rdVals d rds).length := by rw [h.len, rdVals_len]
      have hall : ∀ (k : Nat) (x : V), (rdVals d rds)[k]? = some x → ∃ u, us[k]? = some u ∧ RelA ⟨w', fun b => (b < w.heap.size ∧ A b) ∨ ∃ k ob, rdH rds k = some ob ∧ β' k = some b, callH s.h d rds, fun p => if callK d rds.length p then β' ((p - d) / 1000) else β p⟩ x u := by
        intro k x hx
        rw [rdVals_get] at hx
        cases hr : rds[k]? with
        | none => simp [hr] at hx
        | some rd =>
          simp [hr] at hx
          subst hx
          exact hrel k rd hr
      generalize rdVals d rds = xs at hl hall
      match xs, us with
      | [], [] => exact ⟨#[], rfl, rfl, fun i x hx => by simp at hx⟩
      | [x], [u] =>
        obtain ⟨u', h1, h2⟩ := hall 0 x rfl
        simp at h1
        subst h1
        exact h2.rel
      | x :: y :: xs, u :: u2 :: us =>
        refine ⟨(u :: u2 :: us).toArray, rfl, by simpa using hl, fun i z hz => ?_⟩
        obtain ⟨u', h1, h2⟩ := hall i z hz
        exact ⟨u', by simpa using h1, h2⟩
      | [], _ :: _ => simp at hl
      | _ :: _, [] => simp at hl
      | [_], _ :: _ :: _ => simp at hl
      | _ :: _ :: _, [_] => simp at hl
    exact ⟨_, _, hR.put (some d) hd _ _ hput⟩

end
end Go.AL
