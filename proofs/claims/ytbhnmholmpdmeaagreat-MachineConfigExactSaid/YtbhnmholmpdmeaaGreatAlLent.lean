/-
  THE ABSTRACT LAYER: lent objects: a callee that writes the caller's objects, or takes them. By an AI agent.
-/
import Derived.Test.YtbhnmholmpdmeaaGreatAlDraw6
namespace Go.AL
set_option linter.unusedVariables false
set_option linter.unusedSimpArgs false
set_option linter.unusedSectionVars false

def lentH (ls : List Ob) (p : Nat) : Option Ob := if 500 ≤ p then ls[p - 500]? else none
def lentB (β : Nat → Option Nat) (qs : List Nat) (p : Nat) : Option Nat := if 500 ≤ p then (qs[p - 500]?).bind β else none
def outO (ls : List Ob) (outs : List (Option (List (List V)))) (i : Nat) : Option Ob :=
  match ls[i]?, outs[i]? with
  | some ob, some (some rows) => some { ob with rows := rows }
  | _, _ => none
def postH (ls : List Ob) (rds : List RD) (outs : List (Option (List (List V)))) (p : Nat) : Option Ob :=
  if 500 ≤ p then outO ls outs (p - 500) else rdH rds p

structure PostL (w : World) (A : Nat → Prop) (ls : List Ob) (β0 : Nat → Option Nat) (rds : List RD) (outs : List (Option (List (List V)))) (w' : World) (us : List Value) (β' : Nat → Option Nat) (A' : Nat → Prop) : Prop where
  len : us.length = rds.length
  small : rds.length ≤ 500
  obs : ObsOK ⟨w', A', postH ls rds outs, β'⟩
  rel : ∀ (k : Nat) (rd : RD), rds[k]? = some rd → ∃ u, us[k]? = some u ∧ RelA ⟨w', A', postH ls rds outs, β'⟩ (rd.val k) u
  a0 : ∀ b, b < w.heap.size → A b → A' b
  ev : Ev w w' (fun b => ∃ i ob, ls[i]? = some ob ∧ β0 (500 + i) = some b)
  own : ∀ k ob b, rdH rds k = some ob → β' k = some b → w.heap.size ≤ b ∨ ∃ i ob, ls[i]? = some ob ∧ outO ls outs i = none ∧ β0 (500 + i) = some b
  keep : ∀ i ob ob', ls[i]? = some ob → outO ls outs i = some ob' → ob'.rows.length = ob.rows.length ∧ β' (500 + i) = β0 (500 + i) ∧
    ∀ b cur, β0 (500 + i) = some b → w.heap[b]? = some (.cells cur ob.ty (0, 0)) → ∃ cur', w'.heap[b]? = some (.cells cur' ob.ty (0, 0)) ∧ cur'.size = cur.size

def FnL (P : Program) (f : FuncId) (args : List V) (ls : List Ob) (Pd : List RD → List (Option (List (List V))) → Prop) : Prop :=
  (∀ rds outs, Pd rds outs → ∀ rd ∈ rds, rd.ok = true) ∧
  ∀ (w : World) (A : Nat → Prop) (β0 : Nat → Option Nat) (vs : Array Value), ObsOK ⟨w, A, lentH ls, β0⟩ → vs.size = args.length →
    (∀ (i : Nat) (x : V), args[i]? = some x → ∃ u, vs[i]? = some u ∧ Rel ⟨w, A, lentH ls, β0⟩ x u) →
    Calls P f vs w fun e w' => ∃ rds outs us β' A', Pd rds outs ∧ e = .returned (packV us) ∧ PostL w A ls β0 rds outs w' us β' A'

/-! ### Arguments -/
section
variable {w : World} {A : Nat → Prop} {h h1 h' : Nat → Option Ob} {β β' : Nat → Option Nat}

theorem ptr_cpL (H : ObsOK ⟨w, A, h, β⟩) (hs : ∀ o ob, h1 o = some ob → h o = some ob) (hN : ∀ o ob b, h1 o = some ob → β o = some b → ¬ (⟨w, A, h', β'⟩ : Env).M b) {o n i j j' : Nat} {row : List V} {u : Value} (hr : Rel1 ⟨w, A, h, β⟩ (.ptr o n i j) u)
    (ha : ∃ ob, h1 o = some ob ∧ n = ob.rows.length ∧ cpOK ob i row ∧ j' = j) : Rel1 ⟨w, A, h', β'⟩ (.cp row j') u := by
  obtain ⟨ob, ho1, hn, hcp, rfl⟩ := ha
  have ho := hs o ob ho1
  obtain ⟨b, hb, rfl⟩ := (hr ob ho).2 hn
  have hok := H.ok o ob ho
  simp only at hb hok
  rw [hb] at hok
  have hlt := H.lt b hok.1
  obtain ⟨f, hc⟩ := cpOK_cells hok hcp
  exact ⟨b, i * ob.es, f, rfl, hlt, hN o ob b ho1 hb, fun k x hk => (hc k x hk).1, fun k x hk => (hc k x hk).2⟩

theorem caps_relL (H : ObsOK ⟨w, A, h, β⟩) (hs : ∀ o ob, h1 o = some ob → h o = some ob) (hM : ∀ b, (⟨w, A, h', β'⟩ : Env).M b → (⟨w, A, h, β⟩ : Env).M b) (hN : ∀ o ob b, h1 o = some ob → β o = some b → ¬ (⟨w, A, h', β'⟩ : Env).M b) : ∀ {xs ys : List V}, capsOK h1 xs ys →
    xs.length = ys.length ∧ ∀ (i : Nat) (y : V), ys[i]? = some y → ∃ x, xs[i]? = some x ∧ ∀ u, Rel1 ⟨w, A, h, β⟩ x u → Rel1 ⟨w, A, h', β'⟩ y u
  | [], [], _ => ⟨rfl, fun i y h => by simp at h⟩
  | x :: xs, y :: ys, ha => by
    obtain ⟨e1, e2⟩ := caps_relL H hs hM hN ha.2
    refine ⟨by simp [e1], fun i z hz => ?_⟩
    cases i with
    | zero =>
      simp at hz
      subst hz
      refine ⟨x, rfl, fun u hu => ?_⟩
      have h1 := ha.1
      unfold capOK1 at h1
      split at h1
      · exact ptr_cpL H hs hN hu h1
      · obtain ⟨rfl, rfl⟩ := h1
        obtain ⟨b, off, f, g1, g2, g3, g4, g5⟩ := hu
        exact ⟨b, off, f, g1, g2, fun h => g3 (hM b h), g4, g5⟩
      · obtain ⟨rfl, hp, hna⟩ := h1
        refine Rel1.of_relP (E := ⟨w, A, h', β'⟩) (?_ : RelP w A y u)
        cases y <;> first | exact hu | (simp [V.pure] at hp; done) | exact absurd rfl (hna _)
    | succ i =>
      obtain ⟨x', h1, h2⟩ := e2 i z (by simpa using hz)
      exact ⟨x', by simpa using h1, h2⟩
  | [], _ :: _, ha => ha.elim
  | _ :: _, [], ha => ha.elim

theorem arg_relL (H : ObsOK ⟨w, A, h, β⟩) (hs : ∀ o ob, h1 o = some ob → h o = some ob) (hM : ∀ b, (⟨w, A, h', β'⟩ : Env).M b → (⟨w, A, h, β⟩ : Env).M b) (hN : ∀ o ob b, h1 o = some ob → β o = some b → ¬ (⟨w, A, h', β'⟩ : Env).M b)
    {x y : V} {u : Value} (hr : Rel ⟨w, A, h, β⟩ x u) (ha : argOK h1 x y) : Rel ⟨w, A, h', β'⟩ y u := by
  have toRd : ∀ (X : Nat → Prop) (rows : List (List V)), (∀ b, (⟨w, A, h', β'⟩ : Env).M b → X b) → SlAt w A X rows u → Rel ⟨w, A, h', β'⟩ (.rd rows) u := by
    intro X rows hX hs
    rcases hs with h1 | ⟨b, off, cap, es, f, hv, hcap, hb, hes, hc, hrr⟩
    · exact .inl h1
    · exact .inr ⟨b, off, cap, es, f, hv, hcap, fun hne => ⟨(hb hne).1, fun hm => (hb hne).2 (hX b hm)⟩, hes, hc, hrr⟩
  unfold argOK at ha
  split at ha
  · obtain ⟨ob, ho1, hn, himp, rfl⟩ := ha
    rename_i o n
    have ho := hs o ob ho1
    have h2 := (hr ob ho).2 hn
    have hok := H.ok o ob ho
    simp only at h2 hok
    cases hb : β o with
    | none => rw [hb] at h2 hok; exact .inl ⟨⟨_, h2⟩, hok⟩
    | some b =>
      rw [hb] at h2 hok
      obtain ⟨cap, cur, rfl, h3, h4, h5, h6⟩ := h2
      obtain ⟨hA, cur', hh, hes', hlen, hcc⟩ := hok
      simp only at hh h5 hcc
      have : cur' = cur := by rw [h5] at hh; simp at hh; exact hh.symm
      subst this
      refine .inr ⟨b, 0, cap, ob.es, fun i j => (cur'[i * ob.es + j]?).getD undef, by rw [hn], by rw [← hn]; exact h3, fun _ => ⟨H.lt b hA, hN o ob b ho1 hb⟩, hes', fun i row hi j x hx => ?_, fun i row hi j x hx => ?_⟩
      · obtain ⟨v, c1, _⟩ := hcc i row hi j x hx
        rw [Nat.zero_add, cell_of_row w b _ cur' ob.ty (0, 0) hh, c1]
        simp [c1]
      · obtain ⟨v, c1, _, _, c4⟩ := hcc i row hi j x hx
        simp only [c1, Option.getD_some]
        exact c4 himp
  · subst ha; exact toRd _ _ (fun b hb => H.mA (hM b hb)) (rel_slAt_sl hr)
  · subst ha; exact toRd _ _ hM hr
  · subst ha
    have : u = .slice none 0 0 := by cases hr; rfl
    exact .inl ⟨⟨_, this⟩, rfl⟩
  · subst ha
    have : u = .slice none 0 0 := by cases hr; rfl
    subst this
    exact .slnil _
  · rename_i cs cs'
    obtain ⟨vs, rfl, hs, hc⟩ := hr
    rcases ha with rfl | ha
    · exact ⟨vs, rfl, hs, hc⟩
    · obtain ⟨hl, hg⟩ := weakL_get ha
      refine ⟨vs, rfl, by rw [hs, hl], fun i y hy => ?_⟩
      obtain ⟨x, hx, hw⟩ := hg i y hy
      obtain ⟨u, h1, h2⟩ := hc i x hx
      exact ⟨u, h1, weak_rel hw h2⟩
  · exact ptr_cpL H hs hN hr ha
  · obtain ⟨rfl, rfl⟩ := ha
    obtain ⟨b, off, f, g1, g2, g3, g4, g5⟩ := hr
    exact ⟨b, off, f, g1, g2, fun h => g3 (hM b h), g4, g5⟩
  · obtain ⟨rfl, ha⟩ := ha
    obtain ⟨vs, g1, g2, g3⟩ := hr
    obtain ⟨e1, e2⟩ := caps_relL H hs hM hN ha
    refine ⟨vs, g1, by rw [g2, e1], fun i y hy => ?_⟩
    obtain ⟨x, hx, hxy⟩ := e2 i y hy
    obtain ⟨u, u1, u2⟩ := g3 i x hx
    exact ⟨u, u1, hxy u u2⟩
  · obtain ⟨rfl, hp⟩ := ha
    have : RelA ⟨w, A, h, β⟩ y u := by cases y <;> first | exact hr | (simp [V.pure] at hp)
    exact (relA_pure (E := ⟨w, A, h, β⟩) (E' := ⟨w, A, h', β'⟩) hp rfl (fun _ _ h => h) this).rel
end

def argOKL (h1 : Nat → Option Ob) (qs : List Nat) (x y : V) : Prop :=
  argOK h1 x y ∨ (∃ i q n, qs[i]? = some q ∧ x = .ref q n ∧ y = .ref (500 + i) n) ∨ (∃ i q n a b, qs[i]? = some q ∧ x = .ptr q n a b ∧ y = .ptr (500 + i) n a b)
def lessH (h : Nat → Option Ob) (qs : List Nat) (p : Nat) : Option Ob := if p ∈ qs then none else h p
def argsOKL (h : Nat → Option Ob) (qs : List Nat) (xs ys : List V) : Prop := xs.length = ys.length ∧ ∀ (i : Nat) (x y : V), xs[i]? = some x → ys[i]? = some y → argOKL (lessH h qs) qs x y
def lentOK (h : Nat → Option Ob) (qs : List Nat) (ls : List Ob) : Prop := qs.Nodup ∧ qs.length = ls.length ∧ ∀ (i : Nat) (q : Nat) (ob : Ob), qs[i]? = some q → ls[i]? = some ob → h q = some ob ∧ ob.imp = false

section
variable {P : Program} {w0 : World} {I : Imp} {A0 : Nat → Prop} {n : Nat} {s : St} {a : Act} {w : World} {β : Nat → Option Nat} {A : Nat → Prop}

theorem lent_at {h : Nat → Option Ob} {qs : List Nat} {ls : List Ob} (hl : lentOK h qs ls) {i : Nat} {ob : Ob} (hi : ls[i]? = some ob) : ∃ q, qs[i]? = some q ∧ h q = some ob ∧ ob.imp = false ∧ lentB β qs (500 + i) = β q := by
  have hlt : i < qs.length := by rw [hl.2.1]; exact (List.getElem?_eq_some_iff.1 hi).1
  refine ⟨qs[i], List.getElem?_eq_getElem hlt, (hl.2.2 i _ ob (List.getElem?_eq_getElem hlt) hi).1, (hl.2.2 i _ ob (List.getElem?_eq_getElem hlt) hi).2, ?_⟩
  simp only [lentB, Nat.le_add_right, if_true, Nat.add_sub_cancel_left, List.getElem?_eq_getElem hlt, Option.bind_some]

theorem lentH_some {ls : List Ob} {p : Nat} {ob : Ob} (h : lentH ls p = some ob) : ∃ i, p = 500 + i ∧ ls[i]? = some ob := by
  unfold lentH at h
  split at h
  · exact ⟨p - 500, by omega, h⟩
  · cases h

theorem lent_obs (H : ObsOK ⟨w, A, s.h, β⟩) {qs : List Nat} {ls : List Ob} (hl : lentOK s.h qs ls) : ObsOK ⟨w, A, lentH ls, lentB β qs⟩ := by
  refine ⟨fun p ob hp => ?_, fun p p' ob ob' b hp hp' hb hb' => ?_, H.lt⟩
  · obtain ⟨i, rfl, hi⟩ := lentH_some hp
    obtain ⟨q, hq, ho, himp, hB⟩ := lent_at (β := β) hl hi
    have := H.ok q ob ho
    simp only [hB] at this ⊢
    cases hb : β q with
    | none => rw [hb] at this; exact this
    | some b =>
      rw [hb] at this
      obtain ⟨c1, cur, c2, c3, c4, c5⟩ := this
      refine ⟨c1, cur, c2, c3, c4, fun i row hi j x hx => ?_⟩
      obtain ⟨v, d1, d2, _, d4⟩ := c5 i row hi j x hx
      exact ⟨v, d1, d2, Rel1.of_relP (d4 himp), d4⟩
  · obtain ⟨i, rfl, hi⟩ := lentH_some hp
    obtain ⟨i', rfl, hi'⟩ := lentH_some hp'
    obtain ⟨q, hq, ho, _, hB⟩ := lent_at (β := β) hl hi
    obtain ⟨q', hq', ho', _, hB'⟩ := lent_at (β := β) hl hi'
    simp only [hB] at hb
    simp only [hB'] at hb'
    have e := H.inj q q' ob ob' b ho ho' hb hb'
    subst e
    have h1 := List.getElem?_eq_some_iff.1 hq
    have h2 := List.getElem?_eq_some_iff.1 hq'
    have := (List.getElem_inj (h₀ := h1.1) (h₁ := h2.1) hl.1).1 (h1.2.trans h2.2.symm)
    rw [this]

theorem lentM {qs : List Nat} {ls : List Ob} (hl : lentOK s.h qs ls) {b : Nat} (hm : (⟨w, A, lentH ls, lentB β qs⟩ : Env).M b) : ∃ (i q : Nat) (ob : Ob), qs[i]? = some q ∧ ls[i]? = some ob ∧ s.h q = some ob ∧ β q = some b := by
  obtain ⟨p, ob, hp, hb⟩ := hm
  obtain ⟨i, rfl, hi⟩ := lentH_some hp
  obtain ⟨q, hq, ho, _, hB⟩ := lent_at (β := β) hl hi
  exact ⟨i, q, ob, hq, hi, ho, by simp only [hB] at hb; exact hb⟩

theorem args_relL (H : ObsOK ⟨w, A, s.h, β⟩) {qs : List Nat} {ls : List Ob} (hl : lentOK s.h qs ls) {xs ys : List V} {vs : Array Value} (ha : argsOKL s.h qs xs ys) (hr : ∀ (i : Nat) (x : V), xs[i]? = some x → ∃ u, vs[i]? = some u ∧ Rel ⟨w, A, s.h, β⟩ x u) :
    ∀ (i : Nat) (y : V), ys[i]? = some y → ∃ u, vs[i]? = some u ∧ Rel ⟨w, A, lentH ls, lentB β qs⟩ y u := by
  intro i y hy
  have hlt : i < xs.length := by rw [ha.1]; exact (List.getElem?_eq_some_iff.1 hy).1
  have hx := List.getElem?_eq_getElem hlt
  generalize xs[i] = x at hx
  obtain ⟨u, hu, hru⟩ := hr i x hx
  refine ⟨u, hu, ?_⟩
  have lent : ∀ (j q : Nat) (ob : Ob), qs[j]? = some q → lentH ls (500 + j) = some ob → s.h q = some ob ∧ lentB β qs (500 + j) = β q := fun j q ob hj ho => by
    obtain ⟨j', he, hj'⟩ := lentH_some ho
    have : j' = j := by omega
    subst this
    obtain ⟨q', hq', ho', _, hB⟩ := lent_at (β := β) hl hj'
    rw [hj] at hq'
    cases hq'
    exact ⟨ho', hB⟩
  rcases ha.2 i x y hx hy with h1 | ⟨j, q, m, hj, rfl, rfl⟩ | ⟨j, q, m, a, b, hj, rfl, rfl⟩
  · refine arg_relL H (h1 := lessH s.h qs) (fun o ob ho => ?_) (fun b hb => ?_) (fun o ob b ho hb hm => ?_) hru h1
    · unfold lessH at ho; split at ho
      · cases ho
      · exact ho
    · obtain ⟨_, q, ob, _, _, h3, h4⟩ := lentM hl hb
      exact ⟨q, ob, h3, h4⟩
    · obtain ⟨j, q, ob', h2, _, h3, h4⟩ := lentM hl hm
      unfold lessH at ho
      split at ho
      · cases ho
      · rename_i hne
        have := H.inj o q ob ob' b ho h3 hb h4
        subst this
        exact hne (List.mem_of_getElem? h2)
  · intro ob ho
    obtain ⟨h3, h4⟩ := lent j q ob hj ho
    have := hru ob h3
    simp only [h4]
    exact this
  · intro ob ho
    obtain ⟨h3, h4⟩ := lent j q ob hj ho
    have := hru ob h3
    simp only [h4]
    exact this

/-! ### Behind the call -/
def idxO (qs : List Nat) (p : Nat) : Option Nat := qs.findIdx? (· == p)
theorem idxO_some {qs : List Nat} {p i : Nat} (h : idxO qs p = some i) : qs[i]? = some p := by
  unfold idxO at h
  obtain ⟨hi, hp, _⟩ := List.findIdx?_eq_some_iff_getElem.1 h
  rw [List.getElem?_eq_getElem hi]
  simpa using hp
theorem idxO_none {qs : List Nat} {p : Nat} (h : idxO qs p = none) : p ∉ qs := by
  unfold idxO at h
  intro hm
  have := List.findIdx?_eq_none_iff.1 h p hm
  simp at this
def killL (dst : Option Nat) (m : Nat) (qs : List Nat) (outs : List (Option (List (List V)))) (p : Nat) : Bool :=
  (match dst with | some d => callK d m p | none => false) || (match idxO qs p with | some i => (match outs[i]? with | some (some _) => false | _ => true) | none => false)

def callHL (h : Nat → Option Ob) (dst : Option Nat) (rds : List RD) (qs : List Nat) (ls : List Ob) (outs : List (Option (List (List V)))) : Nat → Option Ob := fun p =>
  match (match dst with | some d => if callK d rds.length p then some ((p - d) / 1000) else none | none => none) with
  | some k => rdH rds k
  | none => match idxO qs p with
    | some i => outO ls outs i
    | none => (h p).map (Ob.kill (killL dst rds.length qs outs))

def callBL (β : Nat → Option Nat) (β' : Nat → Option Nat) (dst : Option Nat) (m : Nat) : Nat → Option Nat := fun p =>
  match (match dst with | some d => if callK d m p then some ((p - d) / 1000) else none | none => none) with
  | some k => β' k
  | none => β p

def St.callL (s : St) (dst : Option Nat) (rds : List RD) (qs : List Nat) (ls : List Ob) (outs : List (Option (List (List V)))) : St :=
  St.put ⟨fun i => (s.t i).kill (killL dst rds.length qs outs), callHL s.h dst rds qs ls outs⟩ dst (match dst with | some d => packA (rdVals d rds) | none => .dead)

theorem RB.callL (R : RB w0 I A0 n s a w β A) {qs : List Nat} {ls : List Ob} (hl : lentOK s.h qs ls) {rds : List RD} {outs : List (Option (List (List V)))} (hok : ∀ rd ∈ rds, rd.ok = true) {w' : World} {us : List Value} {β' : Nat → Option Nat} {A' : Nat → Prop}
    (h : PostL w A ls (lentB β qs) rds outs w' us β' A') (dst : Option Tmp) (hd : ∀ k, dst = some k → k < n) : RR w0 I A0 n (s.callL dst rds qs ls outs) (a.put dst (packV us)) w' := by
  obtain ⟨A'', hA⟩ : ∃ A'' : Nat → Prop, ∀ b, A'' b ↔ (b < w.heap.size ∧ A b) ∨ ∃ k ob, rdH rds k = some ob ∧ β' k = some b := ⟨_, fun _ => Iff.rfl⟩
  have hMlt : ∀ o ob' b, s.h o = some ob' → β o = some b → b < w.heap.size ∧ A b := fun o ob' b ho hb => by
    have := R.obs.ok o ob' ho
    simp only at this
    rw [hb] at this
    exact ⟨R.obs.lt b this.1, this.1⟩
  have hk5 : ∀ k ob, rdH rds k = some ob → k < 500 ∧ postH ls rds outs k = some ob := fun k ob hk => by
    have h5 : k < 500 := by
      have hs := h.small
      unfold rdH at hk
      cases hr : rds[k]? with
      | none => simp [hr] at hk
      | some rd => have := (List.getElem?_eq_some_iff.1 hr).1; omega
    refine ⟨h5, ?_⟩
    unfold postH
    rw [if_neg (by omega)]; exact hk
  have hp5 : ∀ i, postH ls rds outs (500 + i) = outO ls outs i := fun i => by
    unfold postH
    rw [if_pos (by omega), Nat.add_sub_cancel_left]
  have hA'' : ∀ b, A'' b → A' b := fun b hb => by
    rcases (hA b).1 hb with ⟨h1, h2⟩ | ⟨k, ob, h1, h2⟩
    · exact h.a0 b h1 h2
    · have := h.obs.ok k ob (hk5 k ob h1).2
      simp only at this
      rw [h2] at this
      exact this.1
  -- a lent block is one of ours
  have hLB : ∀ b, (∃ i ob, ls[i]? = some ob ∧ lentB β qs (500 + i) = some b) → ∃ q ob, s.h q = some ob ∧ β q = some b ∧ q ∈ qs := by
    rintro b ⟨i, ob, hi, hb⟩
    obtain ⟨q, hq, ho, _, hB⟩ := lent_at (β := β) hl hi
    exact ⟨q, ob, ho, by rw [← hB]; exact hb, List.mem_of_getElem? hq⟩
  have hold : ∀ b, b < w.heap.size → ¬ (∃ q ob, s.h q = some ob ∧ β q = some b ∧ q ∈ qs) → w'.heap[b]? = w.heap[b]? := fun b hb hn => h.ev.block b hb (fun hI => hn (hLB b hI))
  have hold2 : ∀ p ob b, s.h p = some ob → β p = some b → p ∉ qs → w'.heap[b]? = w.heap[b]? := fun p ob b hp hb hn => hold b (hMlt p ob b hp hb).1 (by
    rintro ⟨q, ob', hq, hbq, hm⟩
    have := R.obs.inj p q ob ob' b hp hq hb hbq
    subst this
    exact hn hm)
  -- what a name is behind the call
  have cls : ∀ p ob, callHL s.h dst rds qs ls outs p = some ob →
      (∃ d k, dst = some d ∧ callK d rds.length p = true ∧ k = (p - d) / 1000 ∧ rdH rds k = some ob ∧ callBL β β' dst rds.length p = β' k) ∨
      ((∀ d, dst = some d → callK d rds.length p = false) ∧ callBL β β' dst rds.length p = β p ∧
        ((∃ i ob0, idxO qs p = some i ∧ qs[i]? = some p ∧ ls[i]? = some ob0 ∧ s.h p = some ob0 ∧ ob0.imp = false ∧ outO ls outs i = some ob ∧ lentB β qs (500 + i) = β p) ∨
         (idxO qs p = none ∧ ∃ ob0, s.h p = some ob0 ∧ ob = ob0.kill (killL dst rds.length qs outs)))) := by
    intro p ob hp
    have old : (∀ d, dst = some d → callK d rds.length p = false) → (match idxO qs p with | some i => outO ls outs i | none => (s.h p).map (Ob.kill (killL dst rds.length qs outs))) = some ob →
        ((∃ i ob0, idxO qs p = some i ∧ qs[i]? = some p ∧ ls[i]? = some ob0 ∧ s.h p = some ob0 ∧ ob0.imp = false ∧ outO ls outs i = some ob ∧ lentB β qs (500 + i) = β p) ∨
         (idxO qs p = none ∧ ∃ ob0, s.h p = some ob0 ∧ ob = ob0.kill (killL dst rds.length qs outs))) := by
      intro _ hp
      cases hi : idxO qs p with
      | none =>
        rw [hi] at hp
        simp only at hp
        refine .inr ⟨rfl, ?_⟩
        cases hs : s.h p with
        | none => rw [hs] at hp; cases hp
        | some ob0 => rw [hs] at hp; exact ⟨ob0, rfl, (Option.some.inj hp).symm⟩
      | some i =>
        rw [hi] at hp
        simp only at hp
        have hq := idxO_some hi
        cases hli : ls[i]? with
        | none => unfold outO at hp; rw [hli] at hp; cases hp
        | some ob0 =>
          obtain ⟨q, hq', ho, himp, hB⟩ := lent_at (β := β) hl hli
          rw [hq] at hq'
          cases hq'
          exact .inl ⟨i, ob0, rfl, hq, hli, ho, himp, hp, hB⟩
    cases dst with
    | none =>
      simp only [callHL] at hp
      exact .inr ⟨fun d h => (by cases h), rfl, old (fun d h => by cases h) hp⟩
    | some d =>
      simp only [callHL] at hp
      by_cases hK : callK d rds.length p = true
      · rw [if_pos hK] at hp
        exact .inl ⟨d, _, rfl, hK, rfl, hp, by simp only [callBL, if_pos hK]⟩
      · rw [if_neg hK] at hp
        have hK' : ∀ d', some d = some d' → callK d' rds.length p = false := fun d' h => (by cases h; simpa using hK)
        exact .inr ⟨hK', by simp only [callBL, if_neg hK], old hK' hp⟩
  have own2 : ∀ k ob b, rdH rds k = some ob → β' k = some b → w.heap.size ≤ b ∨ ∃ q ob, s.h q = some ob ∧ β q = some b ∧ q ∈ qs := fun k ob b hk hb => by
    rcases h.own k ob b hk hb with h1 | ⟨i, ob', h1, _, h3⟩
    · exact .inl h1
    · exact .inr (hLB b ⟨i, ob', h1, h3⟩)
  have S : Step ⟨w, A, s.h, β⟩ ⟨w', A'', callHL s.h dst rds qs ls outs, callBL β β' dst rds.length⟩ := by
    refine ⟨fun b hb hM => hold b hb (fun ⟨q, ob, h1, h2, _⟩ => hM ⟨q, ob, h1, h2⟩), h.ev.size, fun b hb hh => ?_, fun b hb hh => ?_⟩
    · rcases (hA b).1 hh with ⟨_, h2⟩ | ⟨k, ob, h1, h2⟩
      · exact h2
      · rcases own2 k ob b h1 h2 with h3 | ⟨q, ob', h3, h4, _⟩
        · simp only at hb; omega
        · exact (hMlt q ob' b h3 h4).2
    · obtain ⟨p, ob, hp, hbp⟩ := hh
      rcases cls p ob hp with ⟨d, k, _, _, _, h4, h5⟩ | ⟨_, h5, ⟨i, ob0, _, _, _, h4, _⟩ | ⟨_, ob0, h4, _⟩⟩
      · simp only at hbp
        rw [h5] at hbp
        rcases own2 k ob b h4 hbp with h6 | ⟨q, ob', h6, h7, _⟩
        · simp only at hb; omega
        · exact ⟨q, ob', h6, h7⟩
      · exact ⟨p, ob0, h4, by simp only at hbp; rw [h5] at hbp; exact hbp⟩
      · exact ⟨p, ob0, h4, by simp only at hbp; rw [h5] at hbp; exact hbp⟩
  have hk : ∀ p, killL dst rds.length qs outs p = false → Keep ⟨w, A, s.h, β⟩ ⟨w', A'', callHL s.h dst rds qs ls outs, callBL β β' dst rds.length⟩ p := by
    intro p hp ob' ho'
    rcases cls p ob' ho' with ⟨d, k, h1, h2, _⟩ | ⟨_, h5, ⟨i, ob0, _, _, h3, h4, _, h6, h7⟩ | ⟨h3, ob0, h4, h6⟩⟩
    · subst h1
      simp only [killL, h2, Bool.true_or] at hp
      cases hp
    · obtain ⟨k1, k2, k3⟩ := h.keep i ob0 ob' h3 h6
      have e : ob'.es = ob0.es ∧ ob'.ty = ob0.ty := by
        unfold outO at h6
        rw [h3] at h6
        split at h6
        · rename_i ob rows q1 q2
          cases q1; cases h6; exact ⟨rfl, rfl⟩
        · cases h6
      exact ⟨ob0, h4, by rw [k1]; exact Nat.le_refl _, fun _ => ⟨h5, e.1, e.2, fun b cur hb hc => k3 b cur (by rw [h7]; exact hb) hc⟩⟩
    · subst h6
      refine ⟨ob0, h4, by rw [Ob.kill_len]; exact Nat.le_refl _, fun _ => ⟨h5, Ob.kill_es _ _, Ob.kill_ty _ _, fun b cur hb hc => ⟨cur, ?_, rfl⟩⟩⟩
      simp only at hb hc ⊢
      rw [hold2 p ob0 b h4 hb (idxO_none h3)]; exact hc
  have hobs : ObsOK ⟨w', A'', callHL s.h dst rds qs ls outs, callBL β β' dst rds.length⟩ := by
    refine ⟨fun p ob hp => ?_, fun p q ob1 ob2 b h1 h2 h3 h4 => ?_, fun b hb => h.obs.lt b (hA'' b hb)⟩
    · have pure : ∀ (m : Nat), postH ls rds outs m = some ob → ob.imp = false → (∀ b, β' m = some b → A'' b) → ObOK ⟨w', A'', callHL s.h dst rds qs ls outs, callBL β β' dst rds.length⟩ ob (β' m) := by
        intro m hm himp hAb
        have hob := h.obs.ok m ob hm
        simp only at hob
        cases hb : β' m with
        | none => rw [hb] at hob; exact hob
        | some b =>
          rw [hb] at hob
          obtain ⟨_, cur, c1, c2, c3, c4⟩ := hob
          refine ⟨hAb b hb, cur, c1, c2, c3, fun i row hi j x hx => ?_⟩
          obtain ⟨v, d1, d2, _, d4⟩ := c4 i row hi j x hx
          have d5 : RelP w' A'' x v := (d4 himp).frame (fun _ _ _ => rfl) (Nat.le_refl _) (fun b _ hb => hA'' b hb)
          exact ⟨v, d1, d2, Rel1.of_relP d5, fun _ => d5⟩
      rcases cls p ob hp with ⟨d, k, _, _, _, h4, h5⟩ | ⟨_, h5, ⟨i, ob0, _, _, h3, h4, himp, h6, h7⟩ | ⟨h3, ob0, h4, h6⟩⟩
      · simp only [h5]
        have himp : ob.imp = false := by
          unfold rdH at h4
          cases hr : rds[k]? with
          | none => simp [hr] at h4
          | some rd => cases rd <;> simp [hr, RD.ob] at h4 <;> (subst h4; rfl)
        exact pure k (hk5 k ob h4).2 himp (fun b hb => (hA b).2 (.inr ⟨k, ob, h4, hb⟩))
      · obtain ⟨k1, k2, k3⟩ := h.keep i ob0 ob h3 h6
        have e : ob.imp = ob0.imp := by
          unfold outO at h6
          rw [h3] at h6
          split at h6
          · rename_i ob rows q1 q2
            cases q1; cases h6; rfl
          · cases h6
        have := pure (500 + i) (by rw [hp5]; exact h6) (by rw [e]; exact himp) (fun b hb => by
          rw [k2, h7] at hb
          have := hMlt p ob0 b h4 hb
          exact (hA b).2 (.inl this))
        rw [k2, h7] at this
        simp only [h5]
        exact this
      · simp only [h5]
        subst h6
        have hob := R.obs.ok p ob0 h4
        exact ObOK.step R.obs S _ hk (fun b hb => ⟨hold2 p ob0 b h4 hb (idxO_none h3), (hA b).2 (.inl (hMlt p ob0 b h4 hb))⟩) hob
    · have old : ∀ p ob, callHL s.h dst rds qs ls outs p = some ob → (∀ d, dst = some d → callK d rds.length p = false) → ∃ ob0, s.h p = some ob0 ∧ callBL β β' dst rds.length p = β p ∧ (p ∈ qs → ∃ i, ls[i]?.isSome ∧ outO ls outs i = some ob ∧ lentB β qs (500 + i) = β p) := by
        intro p ob hp hn
        rcases cls p ob hp with ⟨d, k, h1, h2, _⟩ | ⟨_, h5, ⟨i, ob0, _, _, h3, h4, _, h6, h7⟩ | ⟨h3, ob0, h4, h6⟩⟩
        · rw [hn d h1] at h2; cases h2
        · exact ⟨ob0, h4, h5, fun _ => ⟨i, by rw [h3]; rfl, h6, h7⟩⟩
        · exact ⟨ob0, h4, h5, fun hm => absurd hm (idxO_none h3)⟩
      have mix : ∀ p q ob1 ob2, callHL s.h dst rds qs ls outs p = some ob1 → callHL s.h dst rds qs ls outs q = some ob2 → callBL β β' dst rds.length p = some b → callBL β β' dst rds.length q = some b →
          (∃ d k, dst = some d ∧ callK d rds.length p = true ∧ k = (p - d) / 1000 ∧ rdH rds k = some ob1 ∧ callBL β β' dst rds.length p = β' k) → (∀ d, dst = some d → callK d rds.length q = false) → False := by
        rintro p q ob1 ob2 h1 h2 h3 h4 ⟨d, k, _, _, _, e4, e5⟩ hq
        obtain ⟨ob0, g1, g2, g3⟩ := old q ob2 h2 hq
        rw [e5] at h3
        rw [g2] at h4
        rcases h.own k ob1 b e4 h3 with h6 | ⟨i, ob', hi, hout, hb⟩
        · have := (hMlt q ob0 b g1 h4).1; omega
        · obtain ⟨q', hq', ho', _, hB⟩ := lent_at (β := β) hl hi
          rw [hB] at hb
          have := R.obs.inj q q' ob0 ob' b g1 ho' h4 hb
          subst this
          obtain ⟨i2, hs2, ho2, hb2⟩ := g3 (List.mem_of_getElem? hq')
          have hx : (500 + i2) = k := by
            have hk' : β' (500 + i2) = some b := by
              obtain ⟨ob3, hob3⟩ := Option.isSome_iff_exists.1 hs2
              rw [(h.keep i2 ob3 ob2 hob3 ho2).2.1, hb2]; exact h4
            exact h.obs.inj (500 + i2) k ob2 ob1 b (show postH ls rds outs (500 + i2) = some ob2 by rw [hp5]; exact ho2) (hk5 k ob1 e4).2 hk' h3
          have := (hk5 k ob1 e4).1
          omega
      by_cases c1 : ∀ d, dst = some d → callK d rds.length p = false
      · by_cases c2 : ∀ d, dst = some d → callK d rds.length q = false
        · obtain ⟨o1, f1, f2, _⟩ := old p ob1 h1 c1
          obtain ⟨o2, g1, g2, _⟩ := old q ob2 h2 c2
          exact R.obs.inj p q o1 o2 b f1 g1 (show β p = some b by rw [← f2]; exact h3) (show β q = some b by rw [← g2]; exact h4)
        · rcases cls q ob2 h2 with hr | ⟨hn, _⟩
          · exact (mix q p ob2 ob1 h2 h1 h4 h3 hr c1).elim
          · exact absurd hn c2
      · rcases cls p ob1 h1 with hr | ⟨hn, _⟩
        · by_cases c2 : ∀ d, dst = some d → callK d rds.length q = false
          · exact (mix p q ob1 ob2 h1 h2 h3 h4 hr c2).elim
          · rcases cls q ob2 h2 with hr2 | ⟨hn, _⟩
            · obtain ⟨d, k, e1, e2, e3, e4, e5⟩ := hr
              obtain ⟨d', k', e1', e2', e3', e4', e5'⟩ := hr2
              rw [e1] at e1'
              cases e1'
              simp only [e5] at h3
              simp only [e5'] at h4
              have hi := h.obs.inj k k' ob1 ob2 b (hk5 k ob1 e4).2 (hk5 k' ob2 e4').2 h3 h4
              have s1 := (callK_spec e2).1
              have s2 := (callK_spec e2').1
              rw [s1, s2, ← e3, ← e3', hi]
            · exact absurd hn c2
        · exact absurd hn c1
  refine ⟨_, _, R.step w' _ A'' (callHL s.h dst rds qs ls outs) (killL dst rds.length qs outs) S hk hobs (fun b hb hb0 => (hA b).2 (.inl ⟨Nat.lt_of_lt_of_le hb R.ev.size, R.a0 b hb hb0⟩))
    ⟨h.ev.os.trans R.ev.os, h.ev.tape.trans R.ev.tape, h.ev.output.trans R.ev.output, Nat.le_trans R.ev.size h.ev.size, fun k hk hI => ?_⟩ (fun p ob b hp hb => ?_) (fun p hq hx => ?_) dst hd _ _ ?_⟩
  · rw [hold k (Nat.lt_of_lt_of_le hk R.ev.size) ?_]
    · exact R.ev.block k hk hI
    · rintro ⟨q, ob, h1, h2, _⟩
      rcases R.own q ob k h1 h2 with h3 | h3
      · omega
      · exact hI h3
  · rcases cls p ob hp with ⟨d, k, _, _, _, h4, h5⟩ | ⟨_, h5, ⟨i, ob0, _, _, _, h4, _⟩ | ⟨_, ob0, h4, _⟩⟩
    · rw [h5] at hb
      rcases own2 k ob b h4 hb with h6 | ⟨q, ob', h6, h7, _⟩
      · exact .inl (Nat.le_trans R.ev.size h6)
      · exact R.own q ob' b h6 h7
    · rw [h5] at hb; exact R.own p ob0 b h4 hb
    · rw [h5] at hb; exact R.own p ob0 b h4 hb
  · have hq2 := R.qn p hq
    cases hp : callHL s.h dst rds qs ls outs p with
    | none => rfl
    | some ob =>
      exfalso
      rcases cls p ob hp with ⟨d, k, h1, h2, _⟩ | ⟨hn, _, ⟨i, ob0, hi, _, h3, _, _, h6, _⟩ | ⟨hi, _⟩⟩
      · have h8 := (callK_spec h2).1
        have h9 := hd d h1
        generalize (p - d) / 1000 = c at h8
        have h10 : c = 0 := by omega
        subst h10
        have h11 : n ≤ p := hq2.1
        rw [h8] at h11
        exact absurd (Nat.lt_of_lt_of_le h9 h11) (by simp)
      · unfold outO at h6
        rw [h3] at h6
        unfold killL at hx
        rw [hi] at hx
        split at h6
        · rename_i q1 q2
          cases dst with
          | none => simp [q2] at hx
          | some d => simp [q2, hn d rfl] at hx
        · cases h6
      · unfold killL at hx
        rw [hi] at hx
        cases dst with
        | none => simp at hx
        | some d => simp [hn d rfl] at hx
  · cases dst with
    | none => trivial
    | some d =>
      have hl2 : us.length = (rdVals d rds).length := by rw [h.len, rdVals_len]
      have hall : ∀ (k : Nat) (x : V), (rdVals d rds)[k]? = some x → ∃ u, us[k]? = some u ∧ RelA ⟨w', A'', callHL s.h (some d) rds qs ls outs, callBL β β' (some d) rds.length⟩ x u := by
        intro k x hx
        rw [rdVals_get] at hx
        cases hr : rds[k]? with
        | none => simp [hr] at hx
        | some rd =>
          simp [hr] at hx
          subst hx
          obtain ⟨u, hu, hrel⟩ := h.rel k rd hr
          refine ⟨u, hu, ?_⟩
          obtain ⟨hk1, hk2⟩ := callK_of (d := d) (List.getElem?_eq_some_iff.1 hr).1
          cases rd with
          | v x => exact relA_pure (E := ⟨w', A', postH ls rds outs, β'⟩) (hok _ (List.mem_of_getElem? hr)) rfl (fun b _ hb => hA'' b hb) hrel
          | o ty es rows =>
            intro ob hob
            simp only [callHL, hk1, if_true, hk2] at hob
            have hr := hrel ob (hk5 k ob hob).2
            simp only [callBL, hk1, if_true, hk2]
            exact hr
      show Rel _ (packA (rdVals d rds)) (packV us)
      generalize rdVals d rds = xs at hl2 hall
      match xs, us with
      | [], [] => exact ⟨#[], rfl, rfl, fun i x hx => by simp at hx⟩
      | [x], [u] =>
        obtain ⟨u', h1, h2⟩ := hall 0 x rfl
        simp at h1
        subst h1
        exact h2.rel
      | x :: y :: xs, u :: u2 :: us =>
        refine ⟨(u :: u2 :: us).toArray, rfl, by simpa using hl2, fun i z hz => ?_⟩
        obtain ⟨u', h1, h2⟩ := hall i z hz
        exact ⟨u', by simpa using h1, h2⟩
      | [], _ :: _ => simp at hl2
      | _ :: _, [] => simp at hl2
      | [_], _ :: _ :: _ => simp at hl2
      | _ :: _ :: _, [_] => simp at hl2
end

section
variable {P : Program} {n : Nat} {w0 : World} {I : Imp} {A0 : Nat → Prop} {ops : Array Oper}
def aRunL (P : Program) (n : Nat) (o : Oper) (Φ : St → Prop) (s : St) : Prop :=
  o.guard = none ∧ dOK n o.dst ∧ ∃ g args, aop P o s.ev s.h = .call g args ∧ ∃ args' qs ls Pd, FnL P g args' ls Pd ∧ lentOK s.h qs ls ∧ argsOKL s.h qs args args' ∧ ∀ rds outs, Pd rds outs → Φ (s.callL o.dst rds qs ls outs)

theorem aRunL_sound {o : Oper} {Φ : St → Prop} {K' : Act → World → Prop} {Q' : Exit → Act → World → Prop} (hK : ∀ s a w, Φ s → RR w0 I A0 n s a w → K' a w) {s : St} {a : Act} {w : World} (hR : RR w0 I A0 n s a w)
    (h : aRunL P n o Φ s) : if Region.wanted o (yielded ops a.tmps) then o.wp P a w K' Q' ∨ (o.asks P a w ∧ LetsOut Q') else K' (a.put o.dst undef) w := by
  obtain ⟨β, A, R⟩ := hR
  obtain ⟨hg, hd, g, args, ha, args', qs, ls, Pd, ⟨hok, hcall⟩, hl, hargs, hφ⟩ := h
  obtain ⟨g1, _, _⟩ := wanted_of_gst (ops := ops) (o := o) R
  rw [if_pos (g1 (by unfold gst; rw [hg]))]
  refine .inl ?_
  unfold Oper.wp
  obtain ⟨vs, e1, e2, e3⟩ := acall_call R.slots o ha
  rw [e1]
  have q2 := args_relL R.obs hl hargs (vs := vs) e3
  refine (hcall w A (lentB β qs) vs (lent_obs R.obs hl) (by rw [e2, hargs.1]) q2).mono ?_
  rintro e w' ⟨rds, outs, us, β', A', hPd, rfl, hp⟩
  exact hK _ _ _ (hφ rds outs hPd) (R.callL hl (hok rds outs hPd) hp o.dst (dOK_some hd))

/-! ### One lent object: a call as a change and a call -/
theorem idxO_one {q p : Nat} : idxO [q] p = if p = q then some 0 else none := by
  simp only [idxO, List.findIdx?_cons, List.findIdx?_nil]
  by_cases h : q = p
  · subst h; simp
  · have : ¬ p = q := fun e => h e.symm
    simp [h, this]

theorem callL_io (s : St) (dst : Option Nat) (rds : List RD) (q : Nat) (ob : Ob) (hq : s.h q = some ob) (himp : ob.imp = false) (rows : List (List V)) :
    s.callL dst rds [q] [ob] [some rows] = (s.setOb q { ob with rows := rows }).call dst rds := by
  have hK : ∀ m p, killL dst m [q] [some rows] p = (match dst with | some d => callK d m p | none => false) := fun m p => by
    simp only [killL, idxO_one]
    by_cases h : p = q
    · simp [h]
    · simp [h]
  have ho : outO [ob] [some rows] 0 = some { ob with rows := rows } := rfl
  cases dst with
  | none =>
    have e : killL none rds.length [q] [some rows] = fun _ => false := funext fun p => hK _ p
    simp only [St.callL, St.put, St.call, e, V.kill_none]
    unfold St.setOb
    congr 1
    funext p
    simp only [callHL, idxO_one, setH, e]
    by_cases h : p = q
    · rw [if_pos h, if_pos h]; exact ho
    · rw [if_neg h, if_neg h]
      cases s.h p <;> simp [Ob.kill_none]
  | some d =>
    have e : killL (some d) rds.length [q] [some rows] = callK d rds.length := funext fun p => hK _ p
    simp only [St.callL, St.put, St.call, e]
    congr 1
    funext p
    simp only [callHL, callH, idxO_one, St.setOb, setH, e]
    by_cases hk : callK d rds.length p = true
    · rw [if_pos hk, if_pos hk]
    · rw [if_neg hk, if_neg hk]
      by_cases h : p = q
      · rw [if_pos h, if_pos h]
        simp only [ho, Option.map_some]
        simp [Ob.kill, himp]
      · rw [if_neg h, if_neg h]

end
end Go.AL
