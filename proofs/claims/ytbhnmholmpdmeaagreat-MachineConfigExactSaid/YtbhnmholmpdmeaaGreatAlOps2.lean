/-
  THE ABSTRACT LAYER, SEVENTH PART: stores and appends on objects. By an AI agent.
-/
import Derived.Test.YtbhnmholmpdmeaaGreatAlMem
namespace Go.AL
set_option linter.unusedVariables false
set_option linter.unusedSimpArgs false
set_option linter.unusedSectionVars false
section
variable {P : Program} {w0 : World} {I : Imp} {A0 : Nat → Prop} {n : Nat} {s : St} {a : Act} {w : World} {β : Nat → Option Nat} {A : Nat → Prop}

theorem RB.store (R : RB w0 I A0 n s a w β A) {t : TypeId} {x y : V} {cx cy : Value} (hx : Rel ⟨w, A, s.h, β⟩ x cx) (hy : Rel ⟨w, A, s.h, β⟩ y cy) {p : Prop} {o : Nat} {ob' : Ob} (h : astore P s.h t x y = .upd p o ob') (hp : p) (ht : 0 < szOf P t)
    (dst : Option Tmp) (hd : ∀ k, dst = some k → k < n) :
    ∃ w', (Instr.storeAt t cx cy).run P w = .ok () w' ∧ RR w0 I A0 n ((s.setOb o ob').put dst .dead) (a.put dst undef) w' := by
  unfold astore at h
  split at h <;> try (cases h; done)
  rename_i o m i j
  split at h <;> try (cases h; done)
  rename_i ob ho
  split at h <;> try (cases h; done)
  rename_i row hrow
  simp only [AR.upd.injEq] at h
  obtain ⟨rfl, rfl, rfl⟩ := h
  obtain ⟨p1, p2, p3, p4⟩ := hp
  obtain ⟨b, hb, rfl⟩ := (hx ob ho).2 p1
  simp only at hb
  have hok := R.obs.ok o ob ho
  simp only at hok
  rw [hb] at hok
  obtain ⟨_, cur, hh, hes, hlen, hcc⟩ := hok
  simp only at hh hcc
  have hcy := Cells.of_rel hy p2
  have hcl : cy.cells.size = y.cells.length := by simpa using hcy.1
  obtain ⟨ti, hti, hsz⟩ := szOf_eq (P := P) (t := t) rfl ht
  have hrl := hes row (List.mem_of_getElem? hrow)
  have hil := (List.getElem?_eq_some_iff.1 hrow).1
  have hrb : (i + 1) * ob.es ≤ cur.size := Nat.le_trans (Nat.mul_le_mul_right _ hil) hlen
  rw [Nat.add_mul] at hrb
  have hst := run_storeCells_at (P := P) b (i * ob.es + j) ob.ty cy.cells.toList 0 cur w hh (by simp only [Array.length_toList, hcl]; omega) (fun u hu => by
    obtain ⟨k, hk⟩ := List.getElem?_of_mem hu
    have hkl : k < y.cells.length := by rw [← hcy.1]; exact (List.getElem?_eq_some_iff.1 hk).1
    obtain ⟨u', u1, u2, _⟩ := hcy.2 k _ (List.getElem?_eq_getElem hkl)
    rw [hk] at u1
    cases u1
    exact u2)
  obtain ⟨cur', hcur'⟩ : ∃ cur', cur' = (cur.toList.take (i * ob.es + j + 0) ++ cy.cells.toList ++ cur.toList.drop (i * ob.es + j + 0 + cy.cells.toList.length)).toArray := ⟨_, rfl⟩
  rw [← hcur'] at hst
  have hcs : cur'.size = cur.size := by
    rw [hcur']
    simp only [List.size_toArray, List.length_append, List.length_take, List.length_drop, Array.length_toList, hcl]
    omega
  have hget : ∀ k, cur'[k]? = if i * ob.es + j ≤ k ∧ k < i * ob.es + j + y.cells.length then cy.cells[k - (i * ob.es + j)]? else cur[k]? := by
    intro k
    rw [hcur']
    simp only [List.getElem?_toArray, Nat.add_zero, List.append_assoc]
    have hmin : (cur.toList.take (i * ob.es + j)).length = i * ob.es + j := by simp; omega
    by_cases c1 : k < i * ob.es + j
    · rw [List.getElem?_append_left (by rw [hmin]; exact c1), List.getElem?_take, if_pos c1, if_neg (by omega)]
      simp
    · rw [List.getElem?_append_right (by rw [hmin]; omega), hmin]
      by_cases c2 : k - (i * ob.es + j) < y.cells.length
      · rw [List.getElem?_append_left (by simp [hcl]; omega), if_pos (by omega)]
        simp
      · rw [List.getElem?_append_right (by simp [hcl]; omega), if_neg (by omega), List.getElem?_drop]
        simp only [Array.length_toList, hcl, Array.getElem?_toList]
        congr 1
        omega
  have hpl : (putAt row j y.cells).length = row.length := by
    simp only [putAt, List.length_append, List.length_take, List.length_drop]; omega
  refine ⟨w.setRow b cur', ?_, _, _, R.repl o ob { ob with imp := ob.imp || !y.pure, rows := ob.rows.set i (putAt row j y.cells) } ho rfl rfl (by simp) (w.setRow b cur') b cur' (setRow_heap w b cur cur' ob.ty (0, 0) hh) (.inl ⟨hb, fun c hc => ?_⟩) ?_ ?_ ⟨rfl, rfl, rfl⟩ ?_ ?_ ?_ dst hd .dead undef (.inl rfl)⟩
  · have hsz2 : cy.cells.size = ti.size := by rw [hcl, p3, hsz]
    simp only [Instr.storeAt, Instr.sureAddr, Sem.run_bind, Sem.run_pure, Result.andThen_ok, storeVar, sizeOf, typeInfo]
    simp [hti, hsz2]
    exact hst
  · rw [hh] at hc; simp at hc; rw [← hc]; exact hcs
  · intro k hk hne
    exact setRow_other w b k cur' (fun e => hne (by rw [hb, e]))
  · simp [World.setRow]
  · intro r hr
    simp only at hr
    rcases List.mem_or_eq_of_mem_set hr with h | h
    · exact hes r h
    · rw [h, hpl, hrl]
  · simp only [List.length_set]; rw [hcs]; exact hlen
  · intro i' row' hi' j' x hx'
    simp only at hi'
    have old : ∀ (row0 : List V), ob.rows[i']? = some row0 → row0[j']? = some x → (i' = i → ¬ (j ≤ j' ∧ j' < j + y.cells.length)) →
        ∃ v, cur'[i' * ob.es + j']? = some v ∧ v.oneCell' = true ∧ Rel1 ⟨w, A, s.h, β⟩ x v ∧ ((ob.imp || !y.pure) = false → RelP w A x v) := by
      intro row0 h0 h1 hne
      obtain ⟨v, c1, c2, c3, c4⟩ := hcc i' row0 h0 j' x h1
      refine ⟨v, ?_, c2, c3, fun hi => c4 (by simp at hi; exact hi.1)⟩
      rw [hget, if_neg, c1]
      intro hc
      have hj' : j' < ob.es := by rw [← hes row0 (List.mem_of_getElem? h0)]; exact (List.getElem?_eq_some_iff.1 h1).1
      have hii : i' = i := by
        rcases Nat.lt_trichotomy i' i with hlt | heq | hgt
        · have : (i' + 1) * ob.es ≤ i * ob.es := Nat.mul_le_mul_right _ hlt
          rw [Nat.add_mul] at this
          omega
        · exact heq
        · have : (i + 1) * ob.es ≤ i' * ob.es := Nat.mul_le_mul_right _ hgt
          rw [Nat.add_mul] at this
          omega
      subst hii
      exact hne rfl ⟨by omega, by omega⟩
    by_cases hii : i' = i
    · subst hii
      rw [List.getElem?_set_self hil] at hi'
      cases hi'
      simp only [putAt, List.append_assoc] at hx'
      by_cases c1 : j' < j
      · rw [List.getElem?_append_left (by simp; omega), List.getElem?_take, if_pos c1] at hx'
        exact old row hrow hx' (fun _ => by omega)
      · rw [List.getElem?_append_right (by simp; omega)] at hx'
        simp only [List.length_take, show min j row.length = j from by omega] at hx'
        by_cases c2 : j' - j < y.cells.length
        · rw [List.getElem?_append_left c2] at hx'
          obtain ⟨u, u1, u2, u3, u4⟩ := hcy.2 _ x hx'
          refine ⟨u, ?_, u2, u3, fun hi => u4 (by simp at hi; simp [hi.2])⟩
          rw [hget, if_pos (by omega), show i' * ob.es + j' - (i' * ob.es + j) = j' - j from by omega]
          simpa using u1
        · rw [List.getElem?_append_right (by omega), List.getElem?_drop] at hx'
          rw [show j + y.cells.length + (j' - j - y.cells.length) = j' from by omega] at hx'
          exact old row hrow hx' (fun _ => by omega)
    · rw [List.getElem?_set_ne (fun e => hii e.symm)] at hi'
      exact old row' hi' hx' (fun e => absurd e hii)

theorem aop_upd (R : RB w0 I A0 n s a w β A) (o : Oper) {p : Prop} {q : Nat} {ob : Ob} (h : aop P o s.ev s.h = .upd p q ob) (hp : p) (hd : ∀ k, o.dst = some k → k < n) :
    ∃ w', (execOp a.eval o).run P w = .ok .skip w' ∧ RR w0 I A0 n ((s.setOb q ob).put o.dst .dead) (a.put o.dst undef) w' := by
  have hev := rel_ev R.slots
  obtain ⟨dst, op, ty, pos, after, guard⟩ := o
  unfold aop at h
  simp only at h
  split at h <;> try (cases h; done)
  · split at h <;> cases h
  · rename_i t
    rcases aalloc_cases P t with e | ⟨ob, e⟩ <;> rw [e] at h <;> cases h
  · unfold abuild at h
    split at h <;> try (cases h; done)
    split at h <;> try (cases h; done)
    split at h <;> cases h
  · unfold abuildSlice at h
    split at h <;> try (cases h; done)
    split at h <;> cases h
  · split at h <;> try (cases h; done)
    unfold aload at h
    split at h <;> try (cases h; done)
    · split at h <;> try (cases h; done)
      split at h <;> try (cases h; done)
      unfold loadR at h
      split at h <;> try (cases h; done)
      split at h <;> try (cases h; done)
      split at h <;> try (cases h; done)
      split at h <;> cases h
    · unfold loadR at h
      split at h <;> try (cases h; done)
      split at h <;> try (cases h; done)
      split at h <;> try (cases h; done)
      split at h <;> cases h
  · -- store
    rename_i t x y
    split at h <;> try (cases h; done)
    rename_i ht
    obtain ⟨w', hr, hR⟩ := R.store (P := P) (hev x) (hev y) h hp ht dst hd
    refine ⟨w', ?_, hR⟩
    simp only [execOp]
    rw [Sem.run_bind, hr]
    rfl
  · split at h <;> cases h
  · split at h <;> cases h
  · split at h <;> cases h
  · split at h <;> try (cases h; done)
    split at h <;> cases h
  · unfold aslice at h
    split at h <;> try (cases h; done)
    split at h <;> try (cases h; done)
    split at h <;> try (cases h; done)
    all_goals (split at h <;> cases h)
  · unfold afieldAddr at h
    split at h <;> try (cases h; done)
    · split at h <;> try (cases h; done)
      split at h <;> cases h
    · split at h <;> cases h
  · unfold afield at h
    split at h <;> try (cases h; done)
    split at h <;> try (cases h; done)
    split at h <;> try (cases h; done)
    split at h <;> try (cases h; done)
    split at h <;> cases h
  · split at h
    · unfold aindexRef at h
      split at h <;> try (cases h; done)
      split at h <;> try (cases h; done)
      split at h <;> try (cases h; done)
      split at h <;> cases h
    · unfold aindexArr at h
      split at h <;> try (cases h; done)
      split at h <;> try (cases h; done)
      split at h <;> try (cases h; done)
      split at h <;> cases h
    · unfold aindexAddr at h
      split at h <;> try (cases h; done)
      split at h <;> try (cases h; done)
      split at h <;> try (cases h; done)
      all_goals (split at h <;> cases h)
  · split at h <;> try (cases h; done)
    split at h <;> cases h
  · split at h <;> cases h
  · split at h <;> cases h
  · rename_i c
    obtain ⟨callee, args, argTypes⟩ := c
    unfold acall at h
    simp only at h
    split at h <;> try (cases h; done)
    · split at h <;> try (cases h; done)
      split at h <;> cases h
    · split at h <;> try (cases h; done)
      split at h <;> try (cases h; done)
      split at h <;> cases h
    · split at h <;> try (cases h; done)
      split at h <;> try (cases h; done)
      unfold aappend at h
      split at h <;> try (cases h; done)
      split at h <;> try (cases h; done)
      split at h <;> try (cases h; done)
      split at h <;> cases h
    · split at h <;> cases h
    · split at h <;> cases h
  · unfold amake at h
    split at h <;> try (cases h; done)
    split at h <;> try (cases h; done)
    split at h <;> cases h

theorem aop_app (R : RB w0 I A0 n s a w β A) (o : Oper) {p : Prop} {q : Nat} {ob : Ob} (h : aop P o s.ev s.h = .app p q ob) (hp : p) (hd : ∀ k, o.dst = some k → k < n) :
    ∃ u w', (execOp a.eval o).run P w = .ok (.value u) w' ∧ RR w0 I A0 n ((s.setOb q ob).put o.dst (.ref q ob.rows.length)) (a.put o.dst u) w' := by
  have hev := rel_ev R.slots
  obtain ⟨dst, op, ty, pos, after, guard⟩ := o
  unfold aop at h
  simp only at h
  split at h <;> try (cases h; done)
  · split at h <;> cases h
  · rename_i t
    rcases aalloc_cases P t with e | ⟨ob, e⟩ <;> rw [e] at h <;> cases h
  · unfold abuild at h
    split at h <;> try (cases h; done)
    split at h <;> try (cases h; done)
    split at h <;> cases h
  · unfold abuildSlice at h
    split at h <;> try (cases h; done)
    split at h <;> cases h
  · split at h <;> try (cases h; done)
    unfold aload at h
    split at h <;> try (cases h; done)
    · split at h <;> try (cases h; done)
      split at h <;> try (cases h; done)
      unfold loadR at h
      split at h <;> try (cases h; done)
      split at h <;> try (cases h; done)
      split at h <;> try (cases h; done)
      split at h <;> cases h
    · unfold loadR at h
      split at h <;> try (cases h; done)
      split at h <;> try (cases h; done)
      split at h <;> try (cases h; done)
      split at h <;> cases h
  · split at h <;> try (cases h; done)
    unfold astore at h
    split at h <;> try (cases h; done)
    split at h <;> try (cases h; done)
    split at h <;> cases h
  · split at h <;> cases h
  · split at h <;> cases h
  · split at h <;> cases h
  · split at h <;> try (cases h; done)
    split at h <;> cases h
  · unfold aslice at h
    split at h <;> try (cases h; done)
    split at h <;> try (cases h; done)
    split at h <;> try (cases h; done)
    all_goals (split at h <;> cases h)
  · unfold afieldAddr at h
    split at h <;> try (cases h; done)
    · split at h <;> try (cases h; done)
      split at h <;> cases h
    · split at h <;> cases h
  · unfold afield at h
    split at h <;> try (cases h; done)
    split at h <;> try (cases h; done)
    split at h <;> try (cases h; done)
    split at h <;> try (cases h; done)
    split at h <;> cases h
  · split at h
    · unfold aindexRef at h
      split at h <;> try (cases h; done)
      split at h <;> try (cases h; done)
      split at h <;> try (cases h; done)
      split at h <;> cases h
    · unfold aindexArr at h
      split at h <;> try (cases h; done)
      split at h <;> try (cases h; done)
      split at h <;> try (cases h; done)
      split at h <;> cases h
    · unfold aindexAddr at h
      split at h <;> try (cases h; done)
      split at h <;> try (cases h; done)
      split at h <;> try (cases h; done)
      all_goals (split at h <;> cases h)
  · split at h <;> try (cases h; done)
    split at h <;> cases h
  · split at h <;> cases h
  · split at h <;> cases h
  · rename_i c
    obtain ⟨callee, args, argTypes⟩ := c
    unfold acall at h
    simp only at h
    split at h <;> try (cases h; done)
    · split at h <;> try (cases h; done)
      split at h <;> cases h
    · split at h <;> try (cases h; done)
      split at h <;> try (cases h; done)
      split at h <;> cases h
    · split at h <;> try (cases h; done)
      rename_i x y t t' hargs hts
      split at h <;> try (cases h; done)
      rename_i htt
      subst htt
      unfold aappend at h
      split at h <;> try (cases h; done)
      rename_i e new he hrows
      split at h <;> try (cases h; done)
      rename_i hz
      split at h <;> try (cases h; done)
      rename_i o m hxe
      split at h <;> try (cases h; done)
      rename_i ob0 ho
      simp only [AR.app.injEq] at h
      obtain ⟨rfl, rfl, rfl⟩ := h
      obtain ⟨p1, p2, p3, p4, p5, p6⟩ := hp
      have hx := hev x
      rw [hxe] at hx
      have hm : args.map a.eval = #[a.eval x, a.eval y] := by
        apply Array.ext'; simp [hargs]
      have hmt : argTypes = #[t, t] := by apply Array.ext'; simpa using hts
      simp only [not_or] at hz
      obtain ⟨r, w', hr, hR⟩ := R.appendRef (P := P) he (by omega) (Option.isSome_iff_ne_none.2 (by simpa using hz.2)) (hev y) hrows p4 ho hx p1 p2 p3 p5 p6 ty dst hd
      refine ⟨r, w', ?_, hR⟩
      simp only [execOp, resolve, invoke, builtin, hm, hmt, Sem.run_bind, Sem.run_pure, Result.andThen_ok, hr]
    · split at h <;> cases h
    · split at h <;> cases h
  · unfold amake at h
    split at h <;> try (cases h; done)
    split at h <;> try (cases h; done)
    split at h <;> cases h
end
end Go.AL
