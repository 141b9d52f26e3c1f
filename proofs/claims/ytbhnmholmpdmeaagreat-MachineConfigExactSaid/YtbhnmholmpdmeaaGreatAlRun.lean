/-
  THE ABSTRACT LAYER, NINTH PART: arguments as a callee sees them; guards; a call's operands. By an AI agent.
-/
import Derived.Test.YtbhnmholmpdmeaaGreatAlCall
import Derived.Deep.LoopGhost
import Derived.Scope
namespace Go.AL
set_option linter.unusedVariables false
set_option linter.unusedSimpArgs false
set_option linter.unusedSectionVars false

def weakL : List V → List V → Prop
  | [], [] => True
  | x :: xs, y :: ys => (y = x ∨ (x = .nil ∧ y = .sl [])) ∧ weakL xs ys
  | _, _ => False

def cpOK (ob : Ob) (i : Nat) (row : List V) : Prop := (ob.imp = false ∧ ob.rows[i]? = some row) ∨ ∃ full, ob.rows[i]? = some full ∧ row = full.take row.length ∧ row.all V.atom = true
theorem cpOK_cells {E : Env} {ob : Ob} {b : Nat} (hok : ObOK E ob (some b)) {i : Nat} {row : List V} (h : cpOK ob i row) : ∃ f : Nat → Value, ∀ (k : Nat) (x : V), row[k]? = some x → E.w.cell? ⟨b, i * ob.es + k, none⟩ = some (f k) ∧ RelP E.w E.A x (f k) := by
  rcases h with ⟨himp, hrow⟩ | ⟨full, hrow, he, hat⟩
  · obtain ⟨f, _, hc⟩ := cells_row hok hrow
    exact ⟨f, fun k x hk => ⟨(hc k x hk).1, (hc k x hk).2.2.2 himp⟩⟩
  · obtain ⟨f, _, hc⟩ := cells_row hok hrow
    refine ⟨f, fun k x hk => ?_⟩
    have hx := List.all_eq_true.1 hat x (List.mem_of_getElem? hk)
    have hk' : full[k]? = some x := by
      rw [he, List.getElem?_take] at hk
      split at hk
      · exact hk
      · cases hk
    refine ⟨(hc k x hk').1, ?_⟩
    have h3 := (hc k x hk').2.2.1
    cases x <;> first | exact h3 | (simp [V.atom] at hx; done)

def capOK1 (h : Nat → Option Ob) : V → V → Prop
  | .ptr o n i j, .cp row j' => ∃ ob, h o = some ob ∧ n = ob.rows.length ∧ cpOK ob i row ∧ j' = j
  | .cp row j, .cp row' j' => row' = row ∧ j' = j
  | x, y => y = x ∧ x.pure = true ∧ ∀ cs, x ≠ .agg cs
def capsOK (h : Nat → Option Ob) : List V → List V → Prop
  | [], [] => True
  | x :: xs, y :: ys => capOK1 h x y ∧ capsOK h xs ys
  | _, _ => False

def argOK (h : Nat → Option Ob) : V → V → Prop
  | .ref o n, .rd rows => ∃ ob, h o = some ob ∧ n = ob.rows.length ∧ ob.imp = false ∧ rows = ob.rows
  | .sl rows, .rd rows' => rows' = rows
  | .rd rows, .rd rows' => rows' = rows
  | .nil, .rd rows' => rows' = []
  | .nil, .sl rows' => rows' = []
  | .agg cs, .agg cs' => cs' = cs ∨ weakL cs cs'
  | .ptr o n i j, .cp row j' => ∃ ob, h o = some ob ∧ n = ob.rows.length ∧ cpOK ob i row ∧ j' = j
  | .cp row j, .cp row' j' => row' = row ∧ j' = j
  | .fn f xs, .fn g ys => g = f ∧ capsOK h xs ys
  | x, y => y = x ∧ x.pure = true

def argsOK (h : Nat → Option Ob) : List V → List V → Prop
  | [], [] => True
  | x :: xs, y :: ys => argOK h x y ∧ argsOK h xs ys
  | _, _ => False

def gst (ops : Array Oper) (o : Oper) (s : St) : Option (V × Bool) :=
  match o.guard with
  | none => none
  | some (j, want) => match (ops[j]?).bind (·.dst) with
    | some d => some (if d < 100000 then s.t d else .dead, want)
    | none => some (.dead, want)

def dOK (n : Nat) : Option Nat → Prop
  | some d => d < n
  | none => True

theorem weak_rel {w : World} {A : Nat → Prop} {x y : V} {u : Value} (h : y = x ∨ (x = .nil ∧ y = .sl [])) (hr : RelP w A x u) : RelP w A y u := by
  rcases h with rfl | ⟨rfl, rfl⟩
  · exact hr
  · cases hr; exact .slnil _

theorem weakL_get : ∀ {xs ys : List V}, weakL xs ys → xs.length = ys.length ∧ ∀ (i : Nat) (y : V), ys[i]? = some y → ∃ x, xs[i]? = some x ∧ (y = x ∨ (x = .nil ∧ y = .sl []))
  | [], [], _ => ⟨rfl, fun i y h => by simp at h⟩
  | x :: xs, y :: ys, h => by
    obtain ⟨h, t⟩ := h
    obtain ⟨h1, h2⟩ := weakL_get t
    refine ⟨by simp [h1], fun i z hz => ?_⟩
    cases i with
    | zero => simp at hz; subst hz; exact ⟨x, rfl, h⟩
    | succ i => exact h2 i z (by simpa using hz)
  | [], _ :: _, h => h.elim
  | _ :: _, [], h => h.elim

theorem ptr_cp {w : World} {A : Nat → Prop} {h : Nat → Option Ob} {β : Nat → Option Nat} (H : ObsOK ⟨w, A, h, β⟩) {o n i j j' : Nat} {row : List V} {u : Value} (hr : Rel1 ⟨w, A, h, β⟩ (.ptr o n i j) u)
    (ha : ∃ ob, h o = some ob ∧ n = ob.rows.length ∧ cpOK ob i row ∧ j' = j) : Rel1 ⟨w, A, noH, noB⟩ (.cp row j') u := by
  obtain ⟨ob, ho, hn, hcp, rfl⟩ := ha
  obtain ⟨b, hb, rfl⟩ := (hr ob ho).2 hn
  have hok := H.ok o ob ho
  simp only at hb hok
  rw [hb] at hok
  have hlt := H.lt b hok.1
  obtain ⟨f, hc⟩ := cpOK_cells hok hcp
  exact ⟨b, i * ob.es, f, rfl, hlt, fun ⟨_, _, h, _⟩ => by simp [noH] at h, fun k x hk => (hc k x hk).1, fun k x hk => (hc k x hk).2⟩

theorem caps_rel {w : World} {A : Nat → Prop} {h : Nat → Option Ob} {β : Nat → Option Nat} (H : ObsOK ⟨w, A, h, β⟩) : ∀ {xs ys : List V}, capsOK h xs ys →
    xs.length = ys.length ∧ ∀ (i : Nat) (y : V), ys[i]? = some y → ∃ x, xs[i]? = some x ∧ ∀ u, Rel1 ⟨w, A, h, β⟩ x u → Rel1 ⟨w, A, noH, noB⟩ y u
  | [], [], _ => ⟨rfl, fun i y h => by simp at h⟩
  | x :: xs, y :: ys, ha => by
    obtain ⟨e1, e2⟩ := caps_rel H ha.2
    refine ⟨by simp [e1], fun i z hz => ?_⟩
    cases i with
    | zero =>
      simp at hz
      subst hz
      refine ⟨x, rfl, fun u hu => ?_⟩
      have h1 := ha.1
      unfold capOK1 at h1
      split at h1
      · exact ptr_cp H hu h1
      · obtain ⟨rfl, rfl⟩ := h1
        obtain ⟨b, off, f, g1, g2, _, g4, g5⟩ := hu
        exact ⟨b, off, f, g1, g2, (fun ⟨_, _, h, _⟩ => by simp [noH] at h), g4, g5⟩
      · obtain ⟨rfl, hp, hna⟩ := h1
        refine Rel1.of_relP (E := ⟨w, A, noH, noB⟩) (?_ : RelP w A y u)
        cases y <;> first | exact hu | (simp [V.pure] at hp; done) | exact absurd rfl (hna _)
    | succ i =>
      obtain ⟨x', h1, h2⟩ := e2 i z (by simpa using hz)
      exact ⟨x', by simpa using h1, h2⟩
  | [], _ :: _, ha => ha.elim
  | _ :: _, [], ha => ha.elim

theorem arg_rel {w : World} {A : Nat → Prop} {h : Nat → Option Ob} {β : Nat → Option Nat} (H : ObsOK ⟨w, A, h, β⟩) {x y : V} {u : Value} (hr : Rel ⟨w, A, h, β⟩ x u) (ha : argOK h x y) : Rel ⟨w, A, noH, noB⟩ y u := by
  have nM : ∀ b, ¬ (⟨w, A, noH, noB⟩ : Env).M b := fun b ⟨_, _, h, _⟩ => by simp [noH] at h
  have toRd : ∀ (X : Nat → Prop) (rows : List (List V)), SlAt w A X rows u → Rel ⟨w, A, noH, noB⟩ (.rd rows) u := by
    intro X rows hs
    rcases hs with h1 | ⟨b, off, cap, es, f, hv, hcap, hb, hes, hc, hrr⟩
    · exact .inl h1
    · exact .inr ⟨b, off, cap, es, f, hv, hcap, fun hne => ⟨(hb hne).1, nM b⟩, hes, hc, hrr⟩
  unfold argOK at ha
  split at ha
  · obtain ⟨ob, ho, hn, himp, rfl⟩ := ha
    rename_i o n
    have h2 := (hr ob ho).2 hn
    have hok := H.ok o ob ho
    simp only at h2 hok
    cases hb : β o with
    | none => rw [hb] at h2 hok; exact .inl ⟨⟨_, h2⟩, hok⟩
    | some b =>
      rw [hb] at h2 hok
      obtain ⟨cap, cur, rfl, h3, h4, h5, h6⟩ := h2
      obtain ⟨hA, cur', hh, hes', hlen, hcc⟩ := hok
      simp only at hh h5 hcc
      have : cur' = cur := by rw [h5] at hh; simp at hh; exact hh.symm
      subst this
      refine .inr ⟨b, 0, cap, ob.es, fun i j => (cur'[i * ob.es + j]?).getD undef, by rw [hn], by rw [← hn]; exact h3, fun _ => ⟨H.lt b hA, nM b⟩, hes', fun i row hi j x hx => ?_, fun i row hi j x hx => ?_⟩
      · obtain ⟨v, c1, _⟩ := hcc i row hi j x hx
        rw [Nat.zero_add, cell_of_row w b _ cur' ob.ty (0, 0) hh, c1]
        simp [c1]
      · obtain ⟨v, c1, _, _, c4⟩ := hcc i row hi j x hx
        simp only [c1, Option.getD_some]
        exact c4 himp
  · subst ha; exact toRd _ _ (rel_slAt_sl hr)
  · subst ha; exact toRd _ _ hr
  · subst ha
    have : u = .slice none 0 0 := by cases hr; rfl
    exact .inl ⟨⟨_, this⟩, rfl⟩
  · subst ha
    have : u = .slice none 0 0 := by cases hr; rfl
    subst this
    exact .slnil _
  · rename_i cs cs'
    obtain ⟨vs, rfl, hs, hc⟩ := hr
    rcases ha with rfl | ha
    · exact ⟨vs, rfl, hs, hc⟩
    · obtain ⟨hl, hg⟩ := weakL_get ha
      refine ⟨vs, rfl, by rw [hs, hl], fun i y hy => ?_⟩
      obtain ⟨x, hx, hw⟩ := hg i y hy
      obtain ⟨u, h1, h2⟩ := hc i x hx
      exact ⟨u, h1, weak_rel hw h2⟩
  · exact ptr_cp H hr ha
  · obtain ⟨rfl, rfl⟩ := ha
    obtain ⟨b, off, f, h1, h2, _, h4, h5⟩ := hr
    exact ⟨b, off, f, h1, h2, nM b, h4, h5⟩
  · obtain ⟨rfl, ha⟩ := ha
    obtain ⟨vs, h1, h2, h3⟩ := hr
    obtain ⟨e1, e2⟩ := caps_rel H ha
    refine ⟨vs, h1, by rw [h2, e1], fun i y hy => ?_⟩
    obtain ⟨x, hx, hxy⟩ := e2 i y hy
    obtain ⟨u, u1, u2⟩ := h3 i x hx
    exact ⟨u, u1, hxy u u2⟩
  · obtain ⟨rfl, hp⟩ := ha
    have : RelA ⟨w, A, h, β⟩ y u := by cases y <;> first | exact hr | (simp [V.pure] at hp)
    exact (relA_pure (E := ⟨w, A, h, β⟩) (E' := ⟨w, A, noH, noB⟩) hp rfl (fun _ _ h => h) this).rel

theorem args_rel {w : World} {A : Nat → Prop} {h : Nat → Option Ob} {β : Nat → Option Nat} (H : ObsOK ⟨w, A, h, β⟩) : ∀ {xs ys : List V} {vs : Array Value} (k : Nat), argsOK h xs ys → (∀ (i : Nat) (x : V), xs[i]? = some x → ∃ u, vs[k + i]? = some u ∧ Rel ⟨w, A, h, β⟩ x u) →
    xs.length = ys.length ∧ ∀ (i : Nat) (y : V), ys[i]? = some y → ∃ u, vs[k + i]? = some u ∧ Rel ⟨w, A, noH, noB⟩ y u
  | [], [], _, _, _, _ => ⟨rfl, fun i y h => by simp at h⟩
  | x :: xs, y :: ys, vs, k, ha, hr => by
    obtain ⟨h1, h2⟩ := ha
    obtain ⟨e1, e2⟩ := args_rel H (vs := vs) (k + 1) h2 (fun i z hz => by
      have := hr (i + 1) z (by simpa using hz)
      rwa [show k + (i + 1) = k + 1 + i from by omega] at this)
    refine ⟨by simp [e1], fun i z hz => ?_⟩
    cases i with
    | zero =>
      simp at hz
      subst hz
      obtain ⟨u, u1, u2⟩ := hr 0 x rfl
      exact ⟨u, u1, arg_rel H u2 h1⟩
    | succ i =>
      have := e2 i z (by simpa using hz)
      rwa [show k + 1 + i = k + (i + 1) from by omega] at this
  | [], _ :: _, _, _, ha, _ => ha.elim
  | _ :: _, [], _, _, ha, _ => ha.elim


section
variable {P : Program} {n : Nat} {w0 : World} {I : Imp} {A0 : Nat → Prop}

theorem wanted_of_gst {ops : Array Oper} {o : Oper} {s : St} {a : Act} {w : World} {β : Nat → Option Nat} {A : Nat → Prop} (R : RB w0 I A0 n s a w β A) :
    (gst ops o s = none → Region.wanted o (yielded ops a.tmps) = true) ∧
    (∀ b want, gst ops o s = some (.bool b, want) → Region.wanted o (yielded ops a.tmps) = (b == want)) ∧
    (∀ xs want, gst ops o s = some (.tup xs, want) → Region.wanted o (yielded ops a.tmps) = false) := by
  unfold gst Region.wanted
  cases hg : o.guard with
  | none => simp
  | some jw =>
    obtain ⟨j, want'⟩ := jw
    simp only
    cases hd : (ops[j]?).bind (·.dst) with
    | none => simp
    | some d =>
      have hs : Rel ⟨w, A, s.h, β⟩ (if d < 100000 then s.t d else .dead) (a.tmps.getD d undef) := rel_ev R.slots (.tmp d)
      refine ⟨by simp, fun b want h => ?_, fun xs want h => ?_⟩
      · simp only [Option.some.injEq, Prod.mk.injEq] at h
        obtain ⟨h1, rfl⟩ := h
        rw [h1] at hs
        have hv := rel_bool hs
        have : yielded ops a.tmps j = some b := by
          unfold yielded
          rw [hd]
          simp only [Option.bind_some]
          rw [Array.getD_eq_getD_getElem?] at hv
          cases ht : a.tmps[d]? with
          | none => rw [ht] at hv; cases hv
          | some u => rw [ht] at hv; simp at hv; subst hv; rfl
        rw [this]
        cases b <;> cases want' <;> rfl
      · simp only [Option.some.injEq, Prod.mk.injEq] at h
        obtain ⟨h1, rfl⟩ := h
        rw [h1] at hs
        obtain ⟨vs, hv, _⟩ := rel_tup hs
        have : yielded ops a.tmps j = none := by
          unfold yielded
          rw [hd]
          simp only [Option.bind_some]
          rw [Array.getD_eq_getD_getElem?] at hv
          cases ht : a.tmps[d]? with
          | none => rfl
          | some u => rw [ht] at hv; simp at hv; subst hv; rfl
        rw [this]
        rfl

theorem rel_undef {E : Env} : Rel E (.tup []) undef := ⟨#[], rfl, rfl, fun i x h => by simp at h⟩

theorem dOK_some {n : Nat} {d : Option Nat} (h : dOK n d) : ∀ k, d = some k → k < n := by
  intro k hk; subst hk; exact h

theorem acall_call {s : St} {a : Act} {w : World} {β : Nat → Option Nat} {A : Nat → Prop} {sv : Nat → Value} (hslots : ∀ i, Rel ⟨w, A, s.h, β⟩ (s.t i) (slotV sv a i)) (o : Oper) {g : FuncId} {args : List V} (h : aop P o s.ev s.h = .call g args) :
    ∃ vs : Array Value, (execOp a.eval o).run P w = .ok (.enter g vs) w ∧ vs.size = args.length ∧ ∀ (i : Nat) (x : V), args[i]? = some x → ∃ u, vs[i]? = some u ∧ Rel ⟨w, A, s.h, β⟩ x u := by
  have hev := rel_ev hslots
  obtain ⟨dst, op, ty, pos, after, guard⟩ := o
  unfold aop at h
  simp only at h
  split at h <;> try (cases h; done)
  · split at h <;> cases h
  · rename_i t
    rcases aalloc_cases P t with e | ⟨ob, e⟩ <;> rw [e] at h <;> cases h
  · unfold abuild at h
    split at h <;> try (cases h; done)
    split at h <;> try (cases h; done)
    split at h <;> cases h
  · unfold abuildSlice at h
    split at h <;> try (cases h; done)
    split at h <;> cases h
  · split at h <;> try (cases h; done)
    unfold aload at h
    split at h <;> try (cases h; done)
    · split at h <;> try (cases h; done)
      split at h <;> try (cases h; done)
      unfold loadR at h
      split at h <;> try (cases h; done)
      split at h <;> try (cases h; done)
      split at h <;> try (cases h; done)
      split at h <;> cases h
    · unfold loadR at h
      split at h <;> try (cases h; done)
      split at h <;> try (cases h; done)
      split at h <;> try (cases h; done)
      split at h <;> cases h
  · split at h <;> try (cases h; done)
    unfold astore at h
    split at h <;> try (cases h; done)
    split at h <;> try (cases h; done)
    split at h <;> cases h
  · split at h <;> cases h
  · split at h <;> cases h
  · split at h <;> cases h
  · split at h <;> try (cases h; done)
    split at h <;> cases h
  · unfold aslice at h
    split at h <;> try (cases h; done)
    split at h <;> try (cases h; done)
    split at h <;> try (cases h; done)
    all_goals (split at h <;> cases h)
  · unfold afieldAddr at h
    split at h <;> try (cases h; done)
    · split at h <;> try (cases h; done)
      split at h <;> cases h
    · split at h <;> cases h
  · unfold afield at h
    split at h <;> try (cases h; done)
    split at h <;> try (cases h; done)
    split at h <;> try (cases h; done)
    split at h <;> try (cases h; done)
    split at h <;> cases h
  · split at h
    · unfold aindexRef at h
      split at h <;> try (cases h; done)
      split at h <;> try (cases h; done)
      split at h <;> try (cases h; done)
      split at h <;> cases h
    · unfold aindexArr at h
      split at h <;> try (cases h; done)
      split at h <;> try (cases h; done)
      split at h <;> try (cases h; done)
      split at h <;> cases h
    · unfold aindexAddr at h
      split at h <;> try (cases h; done)
      split at h <;> try (cases h; done)
      split at h <;> try (cases h; done)
      all_goals (split at h <;> cases h)
  · split at h <;> try (cases h; done)
    split at h <;> cases h
  · split at h <;> cases h
  · split at h <;> cases h
  · rename_i c
    obtain ⟨callee, args', argTypes⟩ := c
    unfold acall at h
    simp only at h
    split at h <;> try (cases h; done)
    · rename_i F
      split at h <;> try (cases h; done)
      rename_i g' caps hF
      split at h <;> try (cases h; done)
      rename_i hcal
      simp only [AR.call.injEq] at h
      obtain ⟨rfl, rfl⟩ := h
      have hx := hev F
      rw [hF] at hx
      obtain ⟨cvs, hv, hsz, hc⟩ := hx
      unfold callable at hcal
      split at hcal <;> try (cases hcal; done)
      rename_i fn hfn
      simp only [Bool.and_eq_true, Bool.not_eq_true'] at hcal
      refine ⟨args'.map a.eval ++ cvs, ?_, by simp [hsz], fun i x hx => ?_⟩
      · have hb : fn.body.isNone = false := by cases hfb : fn.body <;> simp_all
        simp only [execOp, resolve, hv, Deferred.ofValue, Sem.run_bind, Sem.run_pure, Result.andThen_ok, invoke, callFunc]
        have hn : ¬ fn.name = "runtime.NumGoroutine" := by simpa using hcal.2
        have hb2 : ¬ fn.body = none := by intro e; rw [e] at hb; cases hb
        simp [Sem.run, program, hfn, hn, hb2]
      · by_cases hi : i < args'.size
        · rw [List.getElem?_append_left (by simpa using hi), List.getElem?_map] at hx
          have hg : args'.toList[i]? = some args'[i] := by simp [hi]
          rw [hg] at hx
          simp at hx
          subst hx
          refine ⟨a.eval args'[i], ?_, hev _⟩
          rw [Array.getElem?_append_left (by simpa using hi)]
          simp [hi]
        · rw [List.getElem?_append_right (by simp; omega)] at hx
          simp only [List.length_map, Array.length_toList] at hx
          obtain ⟨u, h1, h2⟩ := hc _ x hx
          refine ⟨u, ?_, Rel.of_rel1 h2⟩
          rw [Array.getElem?_append_right (by simp; omega)]
          simpa using h1
    · split at h <;> try (cases h; done)
      split at h <;> try (cases h; done)
      split at h <;> cases h
    · split at h <;> try (cases h; done)
      split at h <;> try (cases h; done)
      unfold aappend at h
      split at h <;> try (cases h; done)
      split at h <;> try (cases h; done)
      split at h <;> try (cases h; done)
      split at h <;> cases h
    · split at h <;> cases h
    · split at h <;> cases h
  · unfold amake at h
    split at h <;> try (cases h; done)
    split at h <;> try (cases h; done)
    split at h <;> cases h

end
end Go.AL
