/-
  THE ABSTRACT LAYER: from a body, evaluated, to a contract with lent objects. By an AI agent.
-/
import Derived.Test.YtbhnmholmpdmeaaGreatAlFn
import Derived.Test.YtbhnmholmpdmeaaGreatAlLent
namespace Go.AL
set_option linter.unusedVariables false
set_option linter.unusedSimpArgs false
set_option linter.unusedSectionVars false

def ImpL (ls : List Ob) (β0 : Nat → Option Nat) : Imp :=
  ⟨fun b => ∃ i ob, ls[i]? = some ob ∧ β0 (500 + i) = some b, fun o => ∃ i ob, o = 500 + i ∧ ls[i]? = some ob, β0, fun o => match ls[o - 500]? with | some ob => ob.rows.length | none => 0, fun _ => undef⟩

def outsOK (h : Nat → Option Ob) (ls : List Ob) (outs : List (Option (List (List V)))) (own : List Nat) : Prop :=
  ∀ i ob ob', ls[i]? = some ob → outO ls outs i = some ob' → h (500 + i) = some ob' ∧ ob.imp = false ∧ ob'.rows.length = ob.rows.length ∧ 500 + i ∉ own

theorem RB.retL {n : Nat} {w0 : World} {A0 : Nat → Prop} {ls : List Ob} {β0 : Nat → Option Nat} {s : St} {a : Act} {w : World} {β : Nat → Option Nat} {A : Nat → Prop} (R : RB w0 (ImpL ls β0) A0 n s a w β A) (H0 : ObsOK ⟨w0, A0, lentH ls, β0⟩) {rds : List RD} {outs : List (Option (List (List V)))} {xs : List V} {us : List Value} (hl : us.length = xs.length) (hrel : ∀ (k : Nat) (x : V), xs[k]? = some x → ∃ u, us[k]? = some u ∧ Rel ⟨w, A, s.h, β⟩ x u)
    (h5 : rds.length ≤ 500) (h1 : retL s.h xs rds) (h2 : ((owns xs rds).filterMap id).Nodup) (h3 : frzs xs rds = []) (h4 : outsOK s.h ls outs ((owns xs rds).filterMap id)) : ∃ β' A', PostL w0 A0 ls β0 rds outs w us β' A' := by
  obtain ⟨e1, e2⟩ := retL_get h1
  let β' : Nat → Option Nat := fun k => if 500 ≤ k then β k else ((owns xs rds)[k]?).bind fun o => o.bind β
  have hk5 : ∀ k ob, rdH rds k = some ob → k < 500 := fun k ob hk => by
    unfold rdH at hk
    cases hr : rds[k]? with
    | none => simp [hr] at hk
    | some rd => have := (List.getElem?_eq_some_iff.1 hr).1; omega
  let A' : Nat → Prop := fun b => (b < w0.heap.size ∧ A0 b) ∨ ∃ k ob, rdH rds k = some ob ∧ β' k = some b
  have kβ' : ∀ k {ob}, rdH rds k = some ob → β' k = ((owns xs rds)[k]?).bind fun o => o.bind β := fun k ob hk => if_neg (by have := hk5 k ob hk; omega)
  -- an owned part
  have own : ∀ k ob, rdH rds k = some ob → (∃ o ob0, (owns xs rds)[k]? = some (some o) ∧ s.h o = some ob0 ∧ β' k = β o ∧ ob0.ty = ob.ty ∧ ob0.es = ob.es ∧ ob0.imp = false ∧ ob0.rows = ob.rows ∧ ob.imp = false ∧ ∀ ty es rows, rds[k]? = some (.o ty es rows) → xs[k]? = some (.ref o ob.rows.length)) ∨
      (β' k = none ∧ ob.rows = [] ∧ (∀ ty es rows, rds[k]? = some (.o ty es rows) → xs[k]? = some .nil) ∧ ob.imp = false) := by
    intro k ob hk
    have k5 := hk5 k ob hk
    have kβ : β' k = ((owns xs rds)[k]?).bind fun o => o.bind β := if_neg (by omega)
    unfold rdH at hk
    cases hr : rds[k]? with
    | none => simp [hr] at hk
    | some rd =>
      cases rd with
      | v x => simp [hr, RD.ob] at hk
      | o ty es rows =>
        simp [hr, RD.ob] at hk
        subst hk
        obtain ⟨x, hx, hxx⟩ := e2 k _ hr
        have hog := owns_get xs rds k x _ hx hr
        cases x <;> simp only [retX, retC] at hxx
        case ref o m =>
          obtain ⟨ob0, ho, hn, ht, he, hi, hrw⟩ := hxx
          exact .inl ⟨o, ob0, hog, ho, by simp only [kβ, hog, ownN, Option.bind_some], ht, he, hi, hrw, rfl, fun _ _ _ _ => by rw [hx, hn, hrw]⟩
        case nil => exact .inr ⟨by simp only [kβ, hog, ownN, Option.bind_some, Option.bind_none], hxx, fun _ _ _ _ => hx, rfl⟩
  have hA'A : ∀ b, b < w.heap.size → A' b → A b := by
    rintro b _ (⟨hb, h0⟩ | ⟨k, ob, hk, hb⟩)
    · exact R.a0 b hb h0
    · rcases own k ob hk with ⟨o, ob0, _, ho, hβ, _⟩ | ⟨hβ, _⟩
      · rw [hβ] at hb
        have := R.obs.ok o ob0 ho
        simp only at this
        rw [hb] at this
        exact this.1
      · rw [hβ] at hb; cases hb
  -- what is frozen is nobody's
  have frz : ∀ o ob0, s.h o = some ob0 → o ∈ frzs xs rds → ∀ b, β o = some b → ¬ A' b := fun o ob0 _ hf => by
    rw [h3] at hf; cases hf
  have frz' : ∀ (k : Nat) (x : V) (rd : RD), xs[k]? = some x → rds[k]? = some rd → ∀ o ∈ frzN x rd, ∀ (_ : ∃ ob, s.h o = some ob), ∀ b, β o = some b → ¬ A' b :=
    fun k x rd hx hrd o ho ⟨ob, hob⟩ b hb => frz o ob hob (frzs_mem xs rds k x rd hx hrd o ho) b hb
  have fr : ∀ y v, RelP w A y v → RelP w A' y v := fun y v h => h.frame (fun _ _ _ => rfl) (Nat.le_refl _) hA'A
  -- a lent object that is kept
  have lent : ∀ p ob', 500 ≤ p → outO ls outs (p - 500) = some ob' → ∃ ob, ls[p - 500]? = some ob ∧ s.h p = some ob' ∧ ob'.imp = false ∧ ob'.rows.length = ob.rows.length ∧ p ∉ (owns xs rds).filterMap id ∧ β p = β0 p ∧ ob'.ty = ob.ty ∧ ob'.es = ob.es ∧ lentH ls p = some ob := by
    intro p ob' hp ho
    have ho' := ho
    unfold outO at ho
    split at ho
    · rename_i ob rows q1 q2
      have e0 : 500 + (p - 500) = p := by omega
      obtain ⟨g1, g2, g3, g4⟩ := h4 (p - 500) ob ob' q1 ho'
      rw [e0] at g1 g4
      cases ho
      have hq : (ImpL ls β0).q p := ⟨p - 500, ob, e0.symm, q1⟩
      have hpin := (R.pin p _ hq g1).2 (by simp only [ImpL, q1]; exact g3)
      exact ⟨ob, q1, g1, g2, g3, g4, hpin.1, rfl, rfl, by unfold lentH; rw [if_pos hp]; exact q1⟩
    · cases ho
  have hobs : ObsOK ⟨w, A', postH ls rds outs, β'⟩ := by
    have spl : ∀ p ob, postH ls rds outs p = some ob → (500 ≤ p ∧ outO ls outs (p - 500) = some ob ∧ β' p = β p) ∨ (p < 500 ∧ rdH rds p = some ob) := by
      intro p ob hp
      unfold postH at hp
      split at hp
      · rename_i h; exact .inl ⟨h, hp, if_pos h⟩
      · rename_i h; exact .inr ⟨by omega, hp⟩
    refine ⟨fun k ob hk => ?_, fun k k' ob ob' b hk hk' hb hb' => ?_, fun b hb => ?_⟩
    · rcases spl k ob hk with ⟨k1, k2, k3⟩ | ⟨k1, hk⟩
      · obtain ⟨ob0, g0, g1, g2, g3, g4, g5, g6, g7, g8⟩ := lent k ob k1 k2
        simp only [k3]
        have hok := R.obs.ok k ob g1
        simp only at hok
        cases hb : β k with
        | none => rw [hb] at hok; exact hok
        | some b =>
          rw [hb] at hok
          obtain ⟨_, cur, c1, c2, c3, c4⟩ := hok
          have hin := H0.ok k ob0 g8
          simp only at hin
          rw [← g5, hb] at hin
          refine ⟨.inl ⟨H0.lt b hin.1, hin.1⟩, cur, c1, c2, c3, fun i row hi j x hx => ?_⟩
          obtain ⟨v, d1, d2, _, d4⟩ := c4 i row hi j x hx
          have d5 := fr _ _ (d4 g2)
          exact ⟨v, d1, d2, Rel1.of_relP d5, fun _ => d5⟩
      · rcases own k ob hk with ⟨o, ob0, _, ho, hβ, hty, hes, himp, hrows, himp', _⟩ | ⟨hβ, hr0, _⟩
        · simp only [hβ]
          have hok := R.obs.ok o ob0 ho
          simp only at hok
          cases hb : β o with
          | none => rw [hb] at hok; have h0 : ob0.rows = [] := hok; show ob.rows = []; rw [← hrows]; exact h0
          | some b =>
            rw [hb] at hok
            obtain ⟨_, cur, c1, c2, c3, c4⟩ := hok
            refine ⟨.inr ⟨k, ob, hk, by rw [hβ]; exact hb⟩, cur, by rw [← hty]; exact c1, by rw [← hrows, ← hes]; exact c2, by rw [← hrows, ← hes]; exact c3, fun i row hi j x hx => ?_⟩
            obtain ⟨v, d1, d2, _, d4⟩ := c4 i row (by rw [hrows]; exact hi) j x hx
            have d5 := fr _ _ (d4 himp)
            exact ⟨v, by rw [← hes]; exact d1, d2, Rel1.of_relP d5, fun _ => d5⟩
        · simp only [hβ]; exact hr0
    · -- a result and a kept object lie apart
      have mix : ∀ p q o1 o2, 500 ≤ p → outO ls outs (p - 500) = some o1 → rdH rds q = some o2 → β p = some b → β' q = some b → False := by
        intro p q o1 o2 p1 p2 p3 p4 p5
        obtain ⟨_, _, g1, _, _, g4, _⟩ := lent p o1 p1 p2
        rcases own q o2 p3 with ⟨o, ob0, hog, ho, hβ, _⟩ | ⟨hβ, _⟩
        · rw [hβ] at p5
          have := R.obs.inj p o o1 ob0 b g1 ho p4 p5
          subst this
          exact g4 (List.mem_filterMap.2 ⟨some p, List.mem_of_getElem? hog, rfl⟩)
        · rw [hβ] at p5; cases p5
      simp only at hb hb'
      rcases spl k ob hk with ⟨k1, k2, k3⟩ | ⟨k1, hk⟩
      · rcases spl k' ob' hk' with ⟨l1, l2, l3⟩ | ⟨l1, hk'⟩
        · obtain ⟨_, _, g1, _⟩ := lent k ob k1 k2
          obtain ⟨_, _, g1', _⟩ := lent k' ob' l1 l2
          rw [k3] at hb
          rw [l3] at hb'
          exact R.obs.inj k k' ob ob' b g1 g1' hb hb'
        · rw [k3] at hb
          exact (mix k k' ob ob' k1 k2 hk' hb hb').elim
      · rcases spl k' ob' hk' with ⟨l1, l2, l3⟩ | ⟨l1, hk'⟩
        · rw [l3] at hb'
          exact (mix k' k ob' ob l1 l2 hk hb' hb).elim
        · rcases own k ob hk with ⟨o, ob0, hog, ho, hβ, _⟩ | ⟨hβ, _⟩
          · rcases own k' ob' hk' with ⟨o', ob0', hog', ho', hβ', _⟩ | ⟨hβ', _⟩
            · rw [hβ] at hb
              rw [hβ'] at hb'
              have : o = o' := R.obs.inj o o' ob0 ob0' b ho ho' hb hb'
              subst this
              exact owns_inj _ h2 k k' o hog hog'
            · rw [hβ'] at hb'; cases hb'
          · rw [hβ] at hb; cases hb
    · rcases hb with ⟨h4, _⟩ | ⟨k, ob, hk, hb⟩
      · exact Nat.lt_of_lt_of_le h4 R.ev.size
      · rcases own k ob hk with ⟨o, ob0, _, ho, hβ, _⟩ | ⟨hβ, _⟩
        · rw [hβ] at hb
          have := R.obs.ok o ob0 ho
          simp only at this
          rw [hb] at this
          exact R.obs.lt b this.1
        · rw [hβ] at hb; cases hb
  refine ⟨β', A', by rw [hl, e1], h5, hobs, fun k rd hk => ?_, fun b hb h0 => .inl ⟨hb, h0⟩, R.ev, fun k ob b hk hb => ?_, fun i ob ob' hi ho => ?_⟩
  · obtain ⟨x, hx, hxx⟩ := e2 k rd hk
    obtain ⟨u, hu, hru⟩ := hrel k x hx
    refine ⟨u, hu, ?_⟩
    have hfz := frz' k x rd hx hk
    cases rd with
    | o ty es rows =>
      have hk' : rdH rds k = some ⟨ty, es, false, rows⟩ := by simp [rdH, hk, RD.ob]
      intro ob hob
      have hk2 : postH ls rds outs k = some ⟨ty, es, false, rows⟩ := by
        unfold postH; rw [if_neg (by have := hk5 k _ hk'; omega)]; exact hk'
      simp only at hob
      rw [hk2] at hob
      cases hob
      rcases own k _ hk' with ⟨o, ob0, hog, ho, hβ, hty, hes, himp, hrows, _, hxk⟩ | ⟨hβ, hr0, hxk, _⟩
      · have hxk := hxk _ _ _ hk
        rw [hx] at hxk
        cases hxk
        obtain ⟨r1, r2⟩ := hru ob0 ho
        refine ⟨Nat.le_refl _, fun hn => ?_⟩
        simp only at hn hrows hty hes
        have r3 := r2 (by rw [hrows])
        simp only [hβ]
        cases hb : β o with
        | none => simp only [hb] at r3; exact r3
        | some b =>
          simp only [hb] at r3
          obtain ⟨cap, cur, q1, q2, q3, q4, q5⟩ := r3
          exact ⟨cap, cur, q1, q2, q3, by rw [← hty]; exact q4, by rw [← hes]; exact q5⟩
      · have hxk := hxk _ _ _ hk
        rw [hx] at hxk
        cases hxk
        simp only at hr0
        subst hr0
        refine ⟨Nat.le_refl _, fun _ => ?_⟩
        simp only [hβ]
        cases hru; rfl
    | v y =>
      have one : Rel1 ⟨w, A, s.h, β⟩ x u → retC s.h x y → (∀ o ∈ refN x, o ∈ frzN x (.v y)) → RelP w A' y u := by
        intro hr hc hsub
        refine retC_rel (rds := rds) (β' := β') R hA'A hr hc fun o ho b hb => ?_
        have hex : ∃ ob, s.h o = some ob := by
          cases x <;> simp only [refN] at ho <;> simp at ho
          subst ho
          obtain ⟨ob, h5, _⟩ := hc
          exact ⟨ob, h5⟩
        exact hfz o (hsub o ho) hex b hb
      have many : ∀ (cs cs' : List V) (vs : Array Value), u = .agg vs → vs.size = cs.length → (∀ (i : Nat) (z : V), cs[i]? = some z → ∃ q, vs[i]? = some q ∧ Rel1 ⟨w, A, s.h, β⟩ z q) → retCs s.h cs cs' → (∀ o ∈ cs.flatMap refN, o ∈ frzN x (.v y)) →
          RelA ⟨w, A', postH ls rds outs, β'⟩ (.agg cs') u := by
        intro cs cs' vs hu hs hc hr hsub
        obtain ⟨f1, f2⟩ := retCs_get hr
        refine ⟨vs, hu, by rw [hs, f1], fun i z hz => ?_⟩
        obtain ⟨x0, hx0, hcc⟩ := f2 i z hz
        obtain ⟨q, hq, hrq⟩ := hc i x0 hx0
        refine ⟨q, hq, retC_rel (rds := rds) (β' := β') R hA'A hrq hcc fun o ho b hb => ?_⟩
        have hex : ∃ ob, s.h o = some ob := by
          cases x0 <;> simp only [refN] at ho <;> simp at ho
          subst ho
          obtain ⟨ob, h5, _⟩ := hcc
          exact ⟨ob, h5⟩
        exact hfz o (hsub o (List.mem_flatMap.2 ⟨x0, List.mem_of_getElem? hx0, ho⟩)) hex b hb
      cases x with
      | agg cs =>
        obtain ⟨vs, hv, hs, hc⟩ := hru
        cases y <;> simp only [retX, retC] at hxx <;> try (simp at hxx; done)
        rename_i cs'
        rcases hxx with rfl | hxx
        · exact ⟨vs, hv, hs, fun i z hz => let ⟨q, q1, q2⟩ := hc i z hz; ⟨q, q1, fr _ _ q2⟩⟩
        · exact many cs cs' vs hv hs (fun i z hz => let ⟨q, q1, q2⟩ := hc i z hz; ⟨q, q1, Rel1.of_relP q2⟩) hxx (fun o ho => by simpa [frzN] using ho)
      | aggi cs =>
        obtain ⟨vs, hv, hs, hc⟩ := hru
        cases y <;> simp only [retX, retC] at hxx <;> try (simp [V.pure] at hxx; done)
        rename_i cs'
        exact many cs cs' vs hv hs (fun i z hz => let ⟨q, q1, q2, q3⟩ := hc i z hz; ⟨q, q1, q3⟩) hxx (fun o ho => by simpa [frzN] using ho)
      | tup vs => simp [retX, retC, V.pure] at hxx
      | fn f cs => simp [retX, retC, V.pure] at hxx
      | rd rows => simp [retX, retC, V.pure] at hxx
      | ptr o n i j => simp [retX, retC, V.pure] at hxx
      | cp row j => simp [retX, retC, V.pure] at hxx
      | dead => simp [retX, retC, V.pure] at hxx
      | ref o m => exact RelA.of_relP (one hru hxx (fun o ho => by simpa [frzN, refN] using ho))
      | int k m => exact RelA.of_relP (one hru hxx (fun o ho => by simp [refN] at ho))
      | bool b => exact RelA.of_relP (one hru hxx (fun o ho => by simp [refN] at ho))
      | str b => exact RelA.of_relP (one hru hxx (fun o ho => by simp [refN] at ho))
      | nil => exact RelA.of_relP (one hru hxx (fun o ho => by simp [refN] at ho))
      | sl rows => exact RelA.of_relP (one hru hxx (fun o ho => by simp [refN] at ho))
      | raw v => exact RelA.of_relP (one hru hxx (fun o ho => by simp [refN] at ho))
  · rcases own k ob hk with ⟨o, ob0, hog, ho, hβ, _⟩ | ⟨hβ, _⟩
    · rw [hβ] at hb
      rcases R.own o ob0 b ho hb with h6 | ⟨i, obi, hi, hbi⟩
      · exact .inl h6
      · refine .inr ⟨i, obi, hi, ?_, hbi⟩
        cases hout : outO ls outs i with
        | none => rfl
        | some ob' =>
          exfalso
          have e : 500 + i - 500 = i := by omega
          obtain ⟨_, _, g1, _, _, g4, g5, _⟩ := lent (500 + i) ob' (by omega) (by rw [e]; exact hout)
          have := R.obs.inj (500 + i) o ob' ob0 b g1 ho (by show β (500 + i) = some b; rw [g5]; exact hbi) hb
          rw [this] at g4
          exact g4 (List.mem_filterMap.2 ⟨some o, List.mem_of_getElem? hog, rfl⟩)
    · rw [hβ] at hb; cases hb
  · have e : 500 + i - 500 = i := by omega
    obtain ⟨ob0, g0, g1, _, g3, _, g5, g6, _, g8⟩ := lent (500 + i) ob' (by omega) (by rw [e]; exact ho)
    rw [e] at g0
    rw [hi] at g0
    cases g0
    refine ⟨g3, by show (if 500 ≤ 500 + i then β (500 + i) else _) = _; rw [if_pos (by omega)]; exact g5, fun b cur hb hc => ?_⟩
    have hq : (ImpL ls β0).q (500 + i) := ⟨i, ob, rfl, hi⟩
    have hp := (R.pin (500 + i) ob' hq g1).2 (by simp only [ImpL, e, hi]; exact g3)
    obtain ⟨cur', c1, c2⟩ := hp.2 b cur hb (by rw [g6]; exact hc)
    exact ⟨cur', by rw [← g6]; exact c1, c2⟩


end Go.AL
