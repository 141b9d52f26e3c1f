/-
  THE ABSTRACT LAYER, TENTH PART: from a function's body, evaluated, to its contract; from a contract to a call. By an AI agent.
-/
import Derived.Test.YtbhnmholmpdmeaaGreatAlDraw6
namespace Go.AL
set_option linter.unusedVariables false
set_option linter.unusedSimpArgs false
set_option linter.unusedSectionVars false

def finR (P : Program) (s : St) : List ResultVar → (List V → Prop) → Prop
  | [], K => K []
  | .tmp t :: r, K => finR P s r fun xs => K (s.ev (.tmp t) :: xs)
  | .cell p ty :: r, K => 0 < szOf P ty ∧ match aload P s.h ty (s.ev (.tmp p)) with
    | .val q v => q ∧ finR P s r fun xs => K (v :: xs)
    | _ => False

def retC (h : Nat → Option Ob) (x y : V) : Prop :=
  match x with
  | .ref o n => ∃ ob, h o = some ob ∧ n = ob.rows.length ∧ ob.imp = false ∧ y = .sl ob.rows
  | x => (y = x ∧ x.pure = true) ∨ (x = .nil ∧ y = .sl [])

def retCs (h : Nat → Option Ob) : List V → List V → Prop
  | [], [] => True
  | x :: xs, y :: ys => retC h x y ∧ retCs h xs ys
  | _, _ => False

def retX (h : Nat → Option Ob) (x : V) (rd : RD) : Prop :=
  match x, rd with
  | .ref o n, .o ty es rows => ∃ ob, h o = some ob ∧ n = ob.rows.length ∧ ob.ty = ty ∧ ob.es = es ∧ ob.imp = false ∧ ob.rows = rows
  | .nil, .o _ _ rows => rows = []
  | .agg cs, .v (.agg cs') => cs' = cs ∨ retCs h cs cs'
  | .aggi cs, .v (.agg cs') => retCs h cs cs'
  | x, .v y => retC h x y
  | _, _ => False

def ownN (x : V) (rd : RD) : Option Nat :=
  match x, rd with
  | .ref o _, .o .. => some o
  | _, _ => none

def refN : V → List Nat
  | .ref o _ => [o]
  | _ => []

def frzN (x : V) (rd : RD) : List Nat :=
  match x, rd with
  | .ref o _, .v _ => [o]
  | .agg cs, .v _ => cs.flatMap refN
  | .aggi cs, .v _ => cs.flatMap refN
  | _, _ => []

def retL (h : Nat → Option Ob) : List V → List RD → Prop
  | [], [] => True
  | x :: xs, rd :: rds => retX h x rd ∧ retL h xs rds
  | _, _ => False

def owns : List V → List RD → List (Option Nat)
  | x :: xs, rd :: rds => ownN x rd :: owns xs rds
  | _, _ => []

def frzs : List V → List RD → List Nat
  | x :: xs, rd :: rds => frzN x rd ++ frzs xs rds
  | _, _ => []

def RetOK (P : Program) (rs : List ResultVar) (rds : List RD) (s : St) : Prop :=
  finR P s rs fun xs => retL s.h xs rds ∧ ((owns xs rds).filterMap id).Nodup ∧ ∀ o ∈ frzs xs rds, o ∉ (owns xs rds).filterMap id

theorem owns_inj : ∀ (L : List (Option Nat)), (L.filterMap id).Nodup → ∀ (i j o : Nat), L[i]? = some (some o) → L[j]? = some (some o) → i = j
  | [], _, i, j, o, h, _ => by simp at h
  | x :: L, hn, i, j, o, hi, hj => by
    have hmem : ∀ (k : Nat), L[k]? = some (some o) → o ∈ L.filterMap id := fun k hk => List.mem_filterMap.2 ⟨some o, List.mem_of_getElem? hk, rfl⟩
    cases x with
    | none =>
      simp only [List.filterMap_cons, id_eq] at hn
      cases i with
      | zero => simp at hi
      | succ i =>
        cases j with
        | zero => simp at hj
        | succ j => rw [owns_inj L hn i j o (by simpa using hi) (by simpa using hj)]
    | some p =>
      simp only [List.filterMap_cons, id_eq, List.nodup_cons] at hn
      cases i with
      | zero =>
        cases j with
        | zero => rfl
        | succ j =>
          simp at hi
          subst hi
          exact absurd (hmem j (by simpa using hj)) hn.1
      | succ i =>
        cases j with
        | zero =>
          simp at hj
          subst hj
          exact absurd (hmem i (by simpa using hi)) hn.1
        | succ j => rw [owns_inj L hn.2 i j o (by simpa using hi) (by simpa using hj)]

theorem owns_get : ∀ (xs : List V) (rds : List RD) (k : Nat) (x : V) (rd : RD), xs[k]? = some x → rds[k]? = some rd → (owns xs rds)[k]? = some (ownN x rd)
  | x :: xs, rd :: rds, 0, _, _, h1, h2 => by simp at h1 h2; subst h1 h2; rfl
  | x :: xs, rd :: rds, k + 1, y, r, h1, h2 => by
    simp only [owns, List.getElem?_cons_succ]
    exact owns_get xs rds k y r (by simpa using h1) (by simpa using h2)
  | [], _, _, _, _, h, _ => by simp at h
  | _ :: _, [], _, _, _, _, h => by simp at h

theorem frzs_mem : ∀ (xs : List V) (rds : List RD) (k : Nat) (x : V) (rd : RD), xs[k]? = some x → rds[k]? = some rd → ∀ o ∈ frzN x rd, o ∈ frzs xs rds
  | x :: xs, rd :: rds, 0, _, _, h1, h2, o, ho => by simp at h1 h2; subst h1 h2; exact List.mem_append_left _ ho
  | x :: xs, rd :: rds, k + 1, y, r, h1, h2, o, ho => List.mem_append_right _ (frzs_mem xs rds k y r (by simpa using h1) (by simpa using h2) o ho)
  | [], _, _, _, _, h, _, _, _ => by simp at h
  | _ :: _, [], _, _, _, _, h, _, _ => by simp at h

theorem retL_get {h : Nat → Option Ob} : ∀ {xs : List V} {rds : List RD}, retL h xs rds → xs.length = rds.length ∧ ∀ (k : Nat) (rd : RD), rds[k]? = some rd → ∃ x, xs[k]? = some x ∧ retX h x rd
  | [], [], _ => ⟨rfl, fun k rd h => by simp at h⟩
  | x :: xs, rd :: rds, hr => by
    obtain ⟨h1, h2⟩ := hr
    obtain ⟨e1, e2⟩ := retL_get h2
    refine ⟨by simp [e1], fun k r hk => ?_⟩
    cases k with
    | zero => simp at hk; subst hk; exact ⟨x, rfl, h1⟩
    | succ k => exact e2 k r (by simpa using hk)
  | [], _ :: _, hr => hr.elim
  | _ :: _, [], hr => hr.elim

section
variable {P : Program} {n : Nat} {w0 : World} {A0 : Nat → Prop} {s : St} {a : Act} {w : World} {β : Nat → Option Nat} {A : Nat → Prop}

def rvF (tmps : Array Value) : ResultVar → Sem Value
  | .tmp t => pure (tmps.getD t undef)
  | .cell b t => do loadVar t (← asAddr (tmps.getD b undef))

theorem results_eq (fn : Func) (tmps : Array Value) : results fn tmps = (do
    let vs ← fn.results.mapM (rvF tmps)
    pure (if h : vs.size = 1 then vs[0] else .tuple vs)) := by
  unfold results
  congr 1

theorem finR_run {I : Imp} (R : RB w0 I A0 n s a w β A) : ∀ (rs : List ResultVar) (K : List V → Prop), finR P s rs K →
    ∃ xs us, K xs ∧ us.length = xs.length ∧ (∀ (k : Nat) (x : V), xs[k]? = some x → ∃ u, us[k]? = some u ∧ Rel ⟨w, A, s.h, β⟩ x u) ∧
      (rs.mapM (rvF a.tmps)).run P w = .ok us w
  | [], K, h => ⟨[], [], h, rfl, fun k x hk => by simp at hk, by simp⟩
  | .tmp t :: rs, K, h => by
    obtain ⟨xs, us, h1, h2, h3, h4⟩ := finR_run R rs _ h
    refine ⟨s.ev (.tmp t) :: xs, a.tmps.getD t undef :: us, h1, by simp [h2], fun k x hk => ?_, ?_⟩
    · cases k with
      | zero => simp at hk; subst hk; exact ⟨_, rfl, rel_ev R.slots (.tmp t)⟩
      | succ k => exact h3 k x (by simpa using hk)
    · simp only [List.mapM_cons, rvF, Sem.run_bind, Sem.run_pure, Result.andThen_ok]
      rw [h4]
      rfl
  | .cell p ty :: rs, K, h => by
    obtain ⟨hpos, h⟩ := h
    split at h <;> try (exact h.elim)
    rename_i q v hl
    obtain ⟨hq, h⟩ := h
    obtain ⟨xs, us, h1, h2, h3, h4⟩ := finR_run R rs _ h
    obtain ⟨r, r1, r2⟩ := run_aload (P := P) R.obs (rel_ev R.slots (.tmp p)) hpos hl hq
    simp only at r1
    rw [show a.eval (.tmp p) = a.tmps.getD p undef from rfl] at r1
    have hr : (do loadVar ty (← asAddr (a.tmps.getD p undef)) : Sem Value).run P w = .ok r w := by
      unfold Instr.loadAt at r1
      have hp : ∃ ad, a.tmps.getD p undef = .pointer (some ad) := by
        have hsl : Rel ⟨w, A, s.h, β⟩ (s.ev (.tmp p)) (a.tmps.getD p undef) := rel_ev R.slots (.tmp p)
        unfold aload at hl
        split at hl <;> try (cases hl; done)
        · rename_i o m i j hpe
          split at hl <;> try (cases hl; done)
          rename_i ob ho
          split at hl <;> try (cases hl; done)
          rename_i row hrow
          have hpp : m = ob.rows.length := by
            unfold loadR at hl
            split at hl
            · simp only [AR.val.injEq] at hl; rw [← hl.1] at hq; exact hq.1
            · split at hl <;> try (cases hl; done)
              split at hl <;> try (cases hl; done)
              split at hl <;> try (cases hl; done)
              simp only [AR.val.injEq] at hl; rw [← hl.1] at hq; exact hq
          rw [hpe] at hsl
          obtain ⟨b, _, hv⟩ := (hsl ob ho).2 hpp
          exact ⟨_, hv⟩
        · rename_i row j hpe
          rw [hpe] at hsl
          obtain ⟨b, off, f, hv, _⟩ := hsl
          exact ⟨_, hv⟩
      obtain ⟨ad, had⟩ := hp
      rw [had] at r1 ⊢
      simpa [Instr.sureAddr, asAddr] using r1
    refine ⟨v :: xs, r :: us, h1, by simp [h2], fun k x hk => ?_, ?_⟩
    · cases k with
      | zero => simp at hk; subst hk; exact ⟨_, rfl, r2⟩
      | succ k => exact h3 k x (by simpa using hk)
    · rw [List.mapM_cons, Sem.run_bind]
      simp only [rvF]
      rw [hr]
      simp only [Result.andThen_ok, Sem.run_bind, Sem.run_pure]
      rw [h4]
      rfl


theorem run_results {I : Imp} (R : RB w0 I A0 n s a w β A) (fn : Func) (K : List V → Prop) (h : finR P s fn.results.toList K) :
    ∃ xs us, K xs ∧ us.length = xs.length ∧ (∀ (k : Nat) (x : V), xs[k]? = some x → ∃ u, us[k]? = some u ∧ Rel ⟨w, A, s.h, β⟩ x u) ∧ (results fn a.tmps).run P w = .ok (packV us) w := by
  obtain ⟨xs, us, h1, h2, h3, h4⟩ := finR_run R fn.results.toList K h
  refine ⟨xs, us, h1, h2, h3, ?_⟩
  rw [results_eq, Array.mapM_eq_mapM_toList, map_eq_pure_bind]
  simp only [Sem.run_bind, h4, Result.andThen_ok, Sem.run_pure]
  match us with
  | [] => rfl
  | [u] => rfl
  | u :: v :: us => simp [packV]

theorem retC_rel {I : Imp} {β' : Nat → Option Nat} {rds : List RD} {A' : Nat → Prop} (R : RB w0 I A0 n s a w β A) (hA : ∀ b, b < w.heap.size → A' b → A b) {x y : V} {u : Value} (hr : Rel1 ⟨w, A, s.h, β⟩ x u) (hx : retC s.h x y)
    (hf : ∀ o ∈ refN x, ∀ b, β o = some b → ¬ A' b) : RelP w A' y u := by
  have fr : ∀ y v, RelP w A y v → RelP w A' y v := fun y v h => h.frame (fun _ _ _ => rfl) (Nat.le_refl _) hA
  unfold retC at hx
  split at hx
  · rename_i o m
    obtain ⟨ob, ho, hn, himp, rfl⟩ := hx
    have h2 := (hr ob ho).2 hn
    have hok := R.obs.ok o ob ho
    simp only at h2 hok
    cases hb : β o with
    | none =>
      rw [hb] at h2 hok
      have h0 : ob.rows = [] := hok
      rw [h0, h2]
      exact .slnil _
    | some b =>
      rw [hb] at h2 hok
      obtain ⟨cap, cur, rfl, h3, h4, h5, h6⟩ := h2
      obtain ⟨hA0, cur', hh, hes', hlen, hcc⟩ := hok
      simp only at hh h5 hcc
      have : cur' = cur := by rw [h5] at hh; simp at hh; exact hh.symm
      subst this
      rw [hn]
      refine .sl ob.rows b 0 cap ob.es (fun i j => (cur'[i * ob.es + j]?).getD undef) (by rw [← hn]; exact h3) (fun _ => ⟨R.obs.lt b hA0, hf o (by simp [refN]) b hb⟩) hes' (fun i row hi j x hx => ?_) (fun i row hi j x hx => ?_)
      · obtain ⟨v, c1, _⟩ := hcc i row hi j x hx
        rw [Nat.zero_add, cell_of_row w b _ cur' ob.ty (0, 0) hh, c1]
        simp [c1]
      · obtain ⟨v, c1, _, _, c4⟩ := hcc i row hi j x hx
        simp only [c1, Option.getD_some]
        exact fr _ _ (c4 himp)
  · rcases hx with ⟨rfl, hp⟩ | ⟨rfl, rfl⟩
    · cases y <;> first | exact fr _ _ hr | (simp [V.pure] at hp; done) | (cases hr; done)
    · have : u = .slice none 0 0 := by cases hr; rfl
      rw [this]; exact .slnil _

theorem retCs_get {h : Nat → Option Ob} : ∀ {xs ys : List V}, retCs h xs ys → xs.length = ys.length ∧ ∀ (i : Nat) (y : V), ys[i]? = some y → ∃ x, xs[i]? = some x ∧ retC h x y
  | [], [], _ => ⟨rfl, fun i y h => by simp at h⟩
  | x :: xs, y :: ys, h => by
    obtain ⟨h, t⟩ := h
    obtain ⟨h1, h2⟩ := retCs_get t
    refine ⟨by simp [h1], fun i z hz => ?_⟩
    cases i with
    | zero => simp at hz; subst hz; exact ⟨x, rfl, h⟩
    | succ i => exact h2 i z (by simpa using hz)
  | [], _ :: _, h => h.elim
  | _ :: _, [], h => h.elim

def initS (args : List V) : St := ⟨fun i => (args[i]?).getD (.tup []), noH⟩

theorem RB.ret (R : RB w0 noI A0 n s a w β A) {rds : List RD} {xs : List V} {us : List Value} (hl : us.length = xs.length) (hrel : ∀ (k : Nat) (x : V), xs[k]? = some x → ∃ u, us[k]? = some u ∧ Rel ⟨w, A, s.h, β⟩ x u)
    (h1 : retL s.h xs rds) (h2 : ((owns xs rds).filterMap id).Nodup) (h3 : ∀ o ∈ frzs xs rds, o ∉ (owns xs rds).filterMap id) : ∃ β' A', PostR w0 A0 rds w us β' A' := by
  obtain ⟨e1, e2⟩ := retL_get h1
  let β' : Nat → Option Nat := fun k => ((owns xs rds)[k]?).bind fun o => o.bind β
  let A' : Nat → Prop := fun b => (b < w0.heap.size ∧ A0 b) ∨ ∃ k ob, rdH rds k = some ob ∧ β' k = some b
  have nI : ∀ o ob b, s.h o = some ob → β o = some b → w0.heap.size ≤ b := fun o ob b ho hb => (R.own o ob b ho hb).resolve_right (fun h => h)
  -- an owned part
  have own : ∀ k ob, rdH rds k = some ob → (∃ o ob0, (owns xs rds)[k]? = some (some o) ∧ s.h o = some ob0 ∧ β' k = β o ∧ ob0.ty = ob.ty ∧ ob0.es = ob.es ∧ ob0.imp = false ∧ ob0.rows = ob.rows ∧ ob.imp = false ∧ ∀ ty es rows, rds[k]? = some (.o ty es rows) → xs[k]? = some (.ref o ob.rows.length)) ∨
      (β' k = none ∧ ob.rows = [] ∧ (∀ ty es rows, rds[k]? = some (.o ty es rows) → xs[k]? = some .nil) ∧ ob.imp = false) := by
    intro k ob hk
    unfold rdH at hk
    cases hr : rds[k]? with
    | none => simp [hr] at hk
    | some rd =>
      cases rd with
      | v x => simp [hr, RD.ob] at hk
      | o ty es rows =>
        simp [hr, RD.ob] at hk
        subst hk
        obtain ⟨x, hx, hxx⟩ := e2 k _ hr
        have hog := owns_get xs rds k x _ hx hr
        cases x <;> simp only [retX, retC] at hxx
        case ref o m =>
          obtain ⟨ob0, ho, hn, ht, he, hi, hrw⟩ := hxx
          exact .inl ⟨o, ob0, hog, ho, by simp only [β', hog, ownN, Option.bind_some], ht, he, hi, hrw, rfl, fun _ _ _ _ => by rw [hx, hn, hrw]⟩
        case nil => exact .inr ⟨by simp only [β', hog, ownN, Option.bind_some, Option.bind_none], hxx, fun _ _ _ _ => hx, rfl⟩
  have hA'A : ∀ b, b < w.heap.size → A' b → A b := by
    rintro b _ (⟨hb, h0⟩ | ⟨k, ob, hk, hb⟩)
    · exact R.a0 b hb h0
    · rcases own k ob hk with ⟨o, ob0, _, ho, hβ, _⟩ | ⟨hβ, _⟩
      · rw [hβ] at hb
        have := R.obs.ok o ob0 ho
        simp only at this
        rw [hb] at this
        exact this.1
      · rw [hβ] at hb; cases hb
  -- what is frozen is nobody's
  have frz : ∀ o ob0, s.h o = some ob0 → o ∈ frzs xs rds → ∀ b, β o = some b → ¬ A' b := by
    rintro o ob0 ho hf b hb (⟨h4, _⟩ | ⟨k, ob, hk, hb'⟩)
    · have := nI o ob0 b ho hb
      omega
    · rcases own k ob hk with ⟨o2, ob2, hog, ho2, hβ, _⟩ | ⟨hβ, _⟩
      · rw [hβ] at hb'
        have : o = o2 := R.obs.inj o o2 ob0 ob2 b ho ho2 hb hb'
        subst this
        exact h3 o hf (List.mem_filterMap.2 ⟨some o, List.mem_of_getElem? hog, rfl⟩)
      · rw [hβ] at hb'; cases hb'
  have frz' : ∀ (k : Nat) (x : V) (rd : RD), xs[k]? = some x → rds[k]? = some rd → ∀ o ∈ frzN x rd, ∀ (_ : ∃ ob, s.h o = some ob), ∀ b, β o = some b → ¬ A' b :=
    fun k x rd hx hrd o ho ⟨ob, hob⟩ b hb => frz o ob hob (frzs_mem xs rds k x rd hx hrd o ho) b hb
  have fr : ∀ y v, RelP w A y v → RelP w A' y v := fun y v h => h.frame (fun _ _ _ => rfl) (Nat.le_refl _) hA'A
  have hobs : ObsOK ⟨w, A', rdH rds, β'⟩ := by
    refine ⟨fun k ob hk => ?_, fun k k' ob ob' b hk hk' hb hb' => ?_, fun b hb => ?_⟩
    · rcases own k ob hk with ⟨o, ob0, _, ho, hβ, hty, hes, himp, hrows, himp', _⟩ | ⟨hβ, hr0, _⟩
      · simp only [hβ]
        have hok := R.obs.ok o ob0 ho
        simp only at hok
        cases hb : β o with
        | none => rw [hb] at hok; have h0 : ob0.rows = [] := hok; show ob.rows = []; rw [← hrows]; exact h0
        | some b =>
          rw [hb] at hok
          obtain ⟨_, cur, c1, c2, c3, c4⟩ := hok
          refine ⟨.inr ⟨k, ob, hk, by rw [hβ]; exact hb⟩, cur, by rw [← hty]; exact c1, by rw [← hrows, ← hes]; exact c2, by rw [← hrows, ← hes]; exact c3, fun i row hi j x hx => ?_⟩
          obtain ⟨v, d1, d2, _, d4⟩ := c4 i row (by rw [hrows]; exact hi) j x hx
          have d5 := fr _ _ (d4 himp)
          exact ⟨v, by rw [← hes]; exact d1, d2, Rel1.of_relP d5, fun _ => d5⟩
      · simp only [hβ]; exact hr0
    · rcases own k ob hk with ⟨o, ob0, hog, ho, hβ, _⟩ | ⟨hβ, _⟩
      · rcases own k' ob' hk' with ⟨o', ob0', hog', ho', hβ', _⟩ | ⟨hβ', _⟩
        · simp only [hβ] at hb
          simp only [hβ'] at hb'
          have : o = o' := R.obs.inj o o' ob0 ob0' b ho ho' hb hb'
          subst this
          exact owns_inj _ h2 k k' o hog hog'
        · simp only [hβ'] at hb'; cases hb'
      · simp only [hβ] at hb; cases hb
    · rcases hb with ⟨h4, _⟩ | ⟨k, ob, hk, hb⟩
      · exact Nat.lt_of_lt_of_le h4 R.ev.size
      · rcases own k ob hk with ⟨o, ob0, _, ho, hβ, _⟩ | ⟨hβ, _⟩
        · rw [hβ] at hb
          have := R.obs.ok o ob0 ho
          simp only at this
          rw [hb] at this
          exact R.obs.lt b this.1
        · rw [hβ] at hb; cases hb
  refine ⟨β', A', by rw [hl, e1], hobs, fun k rd hk => ?_, fun b hb h0 => .inl ⟨hb, h0⟩, R.ev, fun k ob b hk hb => ?_⟩
  · obtain ⟨x, hx, hxx⟩ := e2 k rd hk
    obtain ⟨u, hu, hru⟩ := hrel k x hx
    refine ⟨u, hu, ?_⟩
    have hfz := frz' k x rd hx hk
    cases rd with
    | o ty es rows =>
      have hk' : rdH rds k = some ⟨ty, es, false, rows⟩ := by simp [rdH, hk, RD.ob]
      intro ob hob
      simp only at hob
      rw [hk'] at hob
      cases hob
      rcases own k _ hk' with ⟨o, ob0, hog, ho, hβ, hty, hes, himp, hrows, _, hxk⟩ | ⟨hβ, hr0, hxk, _⟩
      · have hxk := hxk _ _ _ hk
        rw [hx] at hxk
        cases hxk
        obtain ⟨r1, r2⟩ := hru ob0 ho
        refine ⟨Nat.le_refl _, fun hn => ?_⟩
        simp only at hn hrows hty hes
        have r3 := r2 (by rw [hrows])
        simp only [hβ]
        cases hb : β o with
        | none => simp only [hb] at r3; exact r3
        | some b =>
          simp only [hb] at r3
          obtain ⟨cap, cur, q1, q2, q3, q4, q5⟩ := r3
          exact ⟨cap, cur, q1, q2, q3, by rw [← hty]; exact q4, by rw [← hes]; exact q5⟩
      · have hxk := hxk _ _ _ hk
        rw [hx] at hxk
        cases hxk
        simp only at hr0
        subst hr0
        refine ⟨Nat.le_refl _, fun _ => ?_⟩
        simp only [hβ]
        cases hru; rfl
    | v y =>
      have one : Rel1 ⟨w, A, s.h, β⟩ x u → retC s.h x y → (∀ o ∈ refN x, o ∈ frzN x (.v y)) → RelP w A' y u := by
        intro hr hc hsub
        refine retC_rel (rds := rds) (β' := β') R hA'A hr hc fun o ho b hb => ?_
        have hex : ∃ ob, s.h o = some ob := by
          cases x <;> simp only [refN] at ho <;> simp at ho
          subst ho
          obtain ⟨ob, h5, _⟩ := hc
          exact ⟨ob, h5⟩
        exact hfz o (hsub o ho) hex b hb
      have many : ∀ (cs cs' : List V) (vs : Array Value), u = .agg vs → vs.size = cs.length → (∀ (i : Nat) (z : V), cs[i]? = some z → ∃ q, vs[i]? = some q ∧ Rel1 ⟨w, A, s.h, β⟩ z q) → retCs s.h cs cs' → (∀ o ∈ cs.flatMap refN, o ∈ frzN x (.v y)) →
          RelA ⟨w, A', rdH rds, β'⟩ (.agg cs') u := by
        intro cs cs' vs hu hs hc hr hsub
        obtain ⟨f1, f2⟩ := retCs_get hr
        refine ⟨vs, hu, by rw [hs, f1], fun i z hz => ?_⟩
        obtain ⟨x0, hx0, hcc⟩ := f2 i z hz
        obtain ⟨q, hq, hrq⟩ := hc i x0 hx0
        refine ⟨q, hq, retC_rel (rds := rds) (β' := β') R hA'A hrq hcc fun o ho b hb => ?_⟩
        have hex : ∃ ob, s.h o = some ob := by
          cases x0 <;> simp only [refN] at ho <;> simp at ho
          subst ho
          obtain ⟨ob, h5, _⟩ := hcc
          exact ⟨ob, h5⟩
        exact hfz o (hsub o (List.mem_flatMap.2 ⟨x0, List.mem_of_getElem? hx0, ho⟩)) hex b hb
      cases x with
      | agg cs =>
        obtain ⟨vs, hv, hs, hc⟩ := hru
        cases y <;> simp only [retX, retC] at hxx <;> try (simp at hxx; done)
        rename_i cs'
        rcases hxx with rfl | hxx
        · exact ⟨vs, hv, hs, fun i z hz => let ⟨q, q1, q2⟩ := hc i z hz; ⟨q, q1, fr _ _ q2⟩⟩
        · exact many cs cs' vs hv hs (fun i z hz => let ⟨q, q1, q2⟩ := hc i z hz; ⟨q, q1, Rel1.of_relP q2⟩) hxx (fun o ho => by simpa [frzN] using ho)
      | aggi cs =>
        obtain ⟨vs, hv, hs, hc⟩ := hru
        cases y <;> simp only [retX, retC] at hxx <;> try (simp [V.pure] at hxx; done)
        rename_i cs'
        exact many cs cs' vs hv hs (fun i z hz => let ⟨q, q1, q2, q3⟩ := hc i z hz; ⟨q, q1, q3⟩) hxx (fun o ho => by simpa [frzN] using ho)
      | tup vs => simp [retX, retC, V.pure] at hxx
      | fn f cs => simp [retX, retC, V.pure] at hxx
      | rd rows => simp [retX, retC, V.pure] at hxx
      | ptr o n i j => simp [retX, retC, V.pure] at hxx
      | cp row j => simp [retX, retC, V.pure] at hxx
      | dead => simp [retX, retC, V.pure] at hxx
      | ref o m => exact RelA.of_relP (one hru hxx (fun o ho => by simpa [frzN, refN] using ho))
      | int k m => exact RelA.of_relP (one hru hxx (fun o ho => by simp [refN] at ho))
      | bool b => exact RelA.of_relP (one hru hxx (fun o ho => by simp [refN] at ho))
      | str b => exact RelA.of_relP (one hru hxx (fun o ho => by simp [refN] at ho))
      | nil => exact RelA.of_relP (one hru hxx (fun o ho => by simp [refN] at ho))
      | sl rows => exact RelA.of_relP (one hru hxx (fun o ho => by simp [refN] at ho))
      | raw v => exact RelA.of_relP (one hru hxx (fun o ho => by simp [refN] at ho))
  · rcases own k ob hk with ⟨o, ob0, _, ho, hβ, _⟩ | ⟨hβ, _⟩
    · rw [hβ] at hb; exact nI o ob0 b ho hb
    · rw [hβ] at hb; cases hb

end

theorem fnP_intro {P : Program} {f : FuncId} {fn : Func} {c : Code} {args : List V} {Pd : List RD → Prop} (hf : P.funcs[f]? = some fn) (hb : fn.body = some c) (hn : args.length ≤ fn.ntmps)
    (hok : ∀ rds, Pd rds → ∀ rd ∈ rds, rd.ok = true)
    (h : ∀ w0 A0 a w, RR w0 noI A0 fn.ntmps (initS args) a w → c.wp P (fun e a' w' => (e = .normal ∨ e = .ret) ∧ ∃ s', (∃ rds, Pd rds ∧ RetOK P fn.results.toList rds s') ∧ RR w0 noI A0 fn.ntmps s' a' w') a w) : FnP P f args Pd := by
  refine ⟨hok, fun w A vs hA hvs hrel => calls_of_wp hf hb ?_⟩
  have R : RB w noI A fn.ntmps (initS args) { tmps := vs ++ Array.replicate (fn.ntmps - vs.size) undef, defers := [] } w noB A := by
    refine ⟨rfl, by simp; omega, fun i => ?_, ⟨fun o ob ho => by simp [initS, noH] at ho, fun o o' ob ob' b ho => by simp [initS, noH] at ho, hA⟩, fun b _ h => h, ⟨rfl, rfl, rfl, Nat.le_refl _, fun _ _ _ => rfl⟩, fun o ob b ho => by simp [initS, noH] at ho, fun o hq => hq.elim, fun o ob hq => hq.elim⟩
    rw [show noI.sv = fun _ => undef from rfl, slotV_un]
    simp only [initS]
    cases hi : args[i]? with
    | some x =>
      obtain ⟨u, h1, h2⟩ := hrel i x hi
      have hlt : i < vs.size := by rw [hvs]; exact (List.getElem?_eq_some_iff.1 hi).1
      simp only [Option.getD_some]
      rw [Array.getD_eq_getD_getElem?, Array.getElem?_append_left hlt, h1]
      exact h2
    | none =>
      have hge : vs.size ≤ i := by rw [hvs]; simpa using hi
      simp only [Option.getD_none]
      rw [Array.getD_eq_getD_getElem?, Array.getElem?_append_right hge]
      have : ((Array.replicate (fn.ntmps - vs.size) undef)[i - vs.size]?).getD undef = undef := by
        cases hq : (Array.replicate (fn.ntmps - vs.size) undef)[i - vs.size]? with
        | none => rfl
        | some q =>
          have := Array.getElem?_replicate (n := fn.ntmps - vs.size) (v := undef) (i := i - vs.size)
          rw [hq] at this
          split at this <;> simp at this
          subst this; rfl
      rw [this]
      exact rel_undef
  refine wp_mono (h w A _ w ⟨_, _, R⟩) ?_
  rintro e a' w' ⟨he, s', ⟨rds, hPd, hr⟩, β', A', R'⟩
  have fin : a'.defers = [] ∧ ∃ v, (results fn a'.tmps).run P w' = .ok v w' ∧ ∃ rds us β' A', Pd rds ∧ Ending.returned v = .returned (packV us) ∧ PostR w A rds w' us β' A' := by
    obtain ⟨xs, us, ⟨k1, k2, k3⟩, hl, hrl, hrun⟩ := run_results R' fn _ hr
    obtain ⟨β2, A2, hp⟩ := R'.ret hl hrl k1 k2 k3
    exact ⟨R'.defers, _, hrun, rds, us, β2, A2, hPd, rfl, hp⟩
  rcases he with rfl | rfl <;> exact fin

end Go.AL
