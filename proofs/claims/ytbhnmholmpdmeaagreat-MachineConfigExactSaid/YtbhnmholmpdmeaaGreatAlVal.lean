/-
  THE ABSTRACT LAYER, FOURTH PART: the operations that leave the world alone. By an AI agent.
-/
import Derived.Test.YtbhnmholmpdmeaaGreatAlSound
namespace Go.AL
set_option linter.unusedVariables false
set_option linter.unusedSimpArgs false
set_option linter.unusedSectionVars false
section
variable {P : Program} {E : Env}

theorem run_sliceAt {t e : TypeId} (ht : elemT P t = some e) {n : Nat} (hn : szOf P e = n) (hpos : 0 < n) (a : Option Addr) (len cap l h : Nat) (lo hi : Option Value)
    (hlo : (lo = none ∧ l = 0) ∨ ∃ k, lo = some (.int k l)) (hhi : (hi = none ∧ h = len) ∨ ∃ k, hi = some (.int k h)) (hl : l ≤ h) (hh : h ≤ cap) (w : World) :
    (Instr.sliceAt t (.slice a len cap) lo hi none).run P w = .ok (.slice (if cap = l then a else a.map (·.add (l * n))) (h - l) (cap - l)) w := by
  have hu := elemT_some ht
  obtain ⟨ti, hti, hsz⟩ := szOf_eq hn hpos
  have e1 : (Instr.sliceAt t (.slice a len cap) lo hi none).run P w = (Instr.slice t (.slice a len cap) lo hi none).run P w := by
    simp only [Instr.sliceAt, Sem.run_bind, run_underlying hu, Result.andThen_ok]
  rw [e1]
  have hb : (Instr.sliceBounds true len cap lo hi none).run P w = .ok (l, h, cap) w := by
    rcases hlo with ⟨rfl, rfl⟩ | ⟨k, rfl⟩ <;> rcases hhi with ⟨rfl, rfl⟩ | ⟨k', rfl⟩
    · simp [Instr.sliceBounds]
    · simp [Instr.sliceBounds, Instr.sliceBound, asIntOf, hh]
    · simp [Instr.sliceBounds, Instr.sliceBound, asIntOf, hl]
    · simp [Instr.sliceBounds, Instr.sliceBound, asIntOf, hl, hh]
  simp only [Instr.slice, Sem.run_bind, run_underlying hu, Result.andThen_ok, hb, sizeOf, typeInfo]
  simp [hti, hsz]

theorem SlAt.cut {w : World} {A X : Nat → Prop} {rows : List (List V)} {n : Nat} {v : Value} (hv : SlAt w A X rows v) (l h : Nat) (hl : l ≤ h) (hh : h ≤ rows.length) (hes : l = 0 ∨ ∀ r ∈ rows, r.length = n)
    {P : Program} {t e : TypeId} (ht : elemT P t = some e) (hn : szOf P e = n) (hpos : 0 < n) (lo hi : Option Value)
    (hlo : (lo = none ∧ l = 0) ∨ ∃ k, lo = some (.int k l)) (hhi : (hi = none ∧ h = rows.length) ∨ ∃ k, hi = some (.int k h)) (w' : World) :
    ∃ u, (Instr.sliceAt t v lo hi none).run P w' = .ok u w' ∧ SlAt w A X ((rows.take h).drop l) u := by
  rcases hv with ⟨⟨a, rfl⟩, rfl⟩ | ⟨b, off, cap, es, f, rfl, hcap, hb, hes', hc, hr⟩
  · have h0 : h = 0 := by simpa using hh
    subst h0
    have l0 : l = 0 := by omega
    subst l0
    refine ⟨_, run_sliceAt ht hn hpos a 0 0 0 0 lo hi hlo (by simpa using hhi) (Nat.le_refl _) (Nat.le_refl _) w', .inl ⟨⟨a, by simp⟩, by simp⟩⟩
  · refine ⟨_, run_sliceAt ht hn hpos (some ⟨b, off, none⟩) rows.length cap l h lo hi hlo hhi hl (by omega) w', ?_⟩
    have hlen : ((rows.take h).drop l).length = h - l := by simp; omega
    have mem : ∀ (i : Nat) (row : List V), ((rows.take h).drop l)[i]? = some row → rows[l + i]? = some row := by
      intro i row hi
      rw [List.getElem?_drop, List.getElem?_take] at hi
      split at hi
      · exact hi
      · cases hi
    by_cases hcl : cap = l
    · rw [if_pos hcl]
      have he : (rows.take h).drop l = [] := List.eq_nil_of_length_eq_zero (by omega)
      rw [he]
      refine .inr ⟨b, off, cap - l, es, f, by simp; omega, by simp, fun h => absurd rfl h, by simp, fun i row hi => by simp at hi, fun i row hi => by simp at hi⟩
    · rw [if_neg hcl]
      refine .inr ⟨b, off + l * n, cap - l, es, fun i j => f (l + i) j, ?_, by rw [hlen]; omega, ?_, ?_, ?_, ?_⟩
      · simp [hlen, Addr.add_mid]
      · intro hne
        refine hb (fun e => hne ?_)
        rw [e]; simp
      · intro row hrow
        exact hes' row (List.mem_of_mem_take (List.mem_of_mem_drop hrow))
      · intro i row hi j x hx
        have h1 := mem i row hi
        have := hc (l + i) row h1 j x hx
        have hee : l * n = l * es := by
          rcases hes with rfl | hes
          · simp
          · have r1 := hes row (List.mem_of_getElem? h1)
            have r2 := hes' row (List.mem_of_getElem? h1)
            rw [← r1, ← r2]
        rw [← this]
        congr 2
        rw [hee, Nat.add_mul]
        omega
      · intro i row hi j x hx
        exact hr (l + i) row (mem i row hi) j x hx

theorem slAt_index {w : World} {A X : Nat → Prop} {rows : List (List V)} {v : Value} (hv : SlAt w A X rows v) {i : Nat} {row : List V} (hi : rows[i]? = some row)
    {P : Program} {t e : TypeId} (ht : elemT P t = some e) (hlen : row.length = szOf P e) (hpos : 0 < szOf P e) (k : IntKind) (w' : World) :
    ∃ (b off : Nat) (f : Nat → Value), (Instr.indexAt t v (.int k i)).run P w' = .ok (.pointer (some ⟨b, off, none⟩)) w' ∧ b < w.heap.size ∧ ¬ X b ∧
      (∀ (j : Nat) (x : V), row[j]? = some x → w.cell? ⟨b, off + j, none⟩ = some (f j)) ∧ (∀ (j : Nat) (x : V), row[j]? = some x → RelP w A x (f j)) := by
  rcases hv with ⟨⟨a, rfl⟩, rfl⟩ | ⟨b, off, cap, es, f, rfl, hcap, hb, hes', hc, hr⟩
  · simp at hi
  · have hlt := (List.getElem?_eq_some_iff.1 hi).1
    have hne : rows ≠ [] := fun e => by rw [e] at hi; simp at hi
    obtain ⟨h1, h2⟩ := hb hne
    have h3 := hes' row (List.mem_of_getElem? hi)
    refine ⟨b, off + i * szOf P e, f i, ?_, h1, h2, fun j x hx => ?_, fun j x hx => hr i row hi j x hx⟩
    · have := run_indexAt ht hpos (k := k) (i := (i : Int)) b off rows.length cap (by omega) (by omega) w'
      simpa using this
    · rw [← hlen, h3]
      exact hc i row hi j x hx

theorem rel_slAt_sl {rows : List (List V)} {v : Value} (h : Rel E (.sl rows) v) : SlAt E.w E.A E.A rows v := relP_sl.1 h
theorem slAt_rel_sl {rows : List (List V)} {v : Value} (h : SlAt E.w E.A E.A rows v) : Rel E (.sl rows) v := (relP_sl.2 h : RelP E.w E.A _ _)

theorem run_lenOf (H : ObsOK E) {x : V} {u : Value} {n : Nat} (hx : Rel E x u) (h : lenOf x = some n) (hd : x.live E.h) {t : TypeId} (ht : (elemT P t).isSome) (ty : TypeId) (w : World) :
    (Builtin.len_ #[t] ty #[u]).run P w = .ok (.int .i64 n) w := by
  obtain ⟨e, he⟩ := Option.isSome_iff_exists.1 ht
  have hu := elemT_some he
  have key : ∃ a c, u = .slice a n c := by
    unfold lenOf at h
    split at h <;> try (cases h; done)
    · cases h; cases hx; exact ⟨_, _, rfl⟩
    · cases h; rcases rel_slAt_sl hx with ⟨⟨a, rfl⟩, rfl⟩ | ⟨b, off, cap, es, f, rfl, _⟩ <;> exact ⟨_, _, rfl⟩
    · cases h; rcases hx with ⟨⟨a, rfl⟩, rfl⟩ | ⟨b, off, cap, es, f, rfl, _⟩ <;> exact ⟨_, _, rfl⟩
    · cases h
      rename_i o
      obtain ⟨ob, ho, hm⟩ := hd
      have hok := H.ok o ob ho
      have h2 := (hx ob ho).2 hm
      cases hb : E.β o with
      | none => rw [hb] at h2 hok; subst h2; have h0 : ob.rows = [] := hok; rw [h0] at hm; subst hm; exact ⟨_, _, rfl⟩
      | some b => rw [hb] at h2; obtain ⟨_, _, rfl, _⟩ := h2; exact ⟨_, _, rfl⟩
  obtain ⟨a, c, rfl⟩ := key
  simp [Builtin.len_, run_underlying hu, goInt]

theorem rel_int {k : IntKind} {n : Int} {u : Value} (h : Rel E (.int k n) u) : u = .int k n := by cases h; rfl
theorem rel_bool {b : Bool} {u : Value} (h : Rel E (.bool b) u) : u = .bool b := by cases h; rfl

theorem run_foldlM_one (f : Value → Value → Sem Value) (x y : Value) (w : World) : ([y].foldlM f x : Sem Value).run P w = (f x y).run P w := by
  simp only [List.foldlM_cons, List.foldlM_nil, Sem.run_bind]
  cases (f x y).run P w <;> rfl

theorem acall_val (H : ObsOK E) (a : Act) (ev : Operand → V) (hev : ∀ x, Rel E (ev x) (a.eval x)) (c : Call) (ty : TypeId) {p : Prop} {v : V} (h : acall P ev E.h c = .val p v) (hp : p) :
    ∃ u, ((do let d ← resolve a.eval c ty; invoke d.target d.args) : Sem Next).run P E.w = .ok (.value u) E.w ∧ Rel E v u := by
  obtain ⟨callee, args, argTypes⟩ := c
  unfold acall at h
  simp only at h
  split at h
  · split at h <;> try (cases h; done)
    split at h <;> cases h
  · -- len
    split at h <;> try (cases h; done)
    rename_i x hargs
    have hx := hev x
    have hm : args.map a.eval = #[a.eval x] := by
      apply Array.ext'; simp [hargs]
    split at h
    · rename_i s hs
      simp only [AR.val.injEq] at h
      obtain ⟨rfl, rfl⟩ := h
      rw [hs] at hx
      cases argTypes with | mk ts =>
      cases ts with
      | nil => simp at hp
      | cons t ts =>
        simp at hp
        obtain ⟨hp, rfl⟩ := hp
        have hu : a.eval x = .string s := by generalize a.eval x = u at hx; cases hx; rfl
        refine ⟨.int .i64 s.size, ?_, .int _ _⟩
        simp [resolve, invoke, builtin, Builtin.len_, run_underlying hp, hm, hu, goInt]
    · split at h <;> try (cases h; done)
      rename_i n hn
      simp only [AR.val.injEq] at h
      obtain ⟨rfl, rfl⟩ := h
      obtain ⟨hp1, hp2⟩ := hp
      cases argTypes with | mk ts =>
      cases ts with
      | nil => simp at hp2
      | cons t ts =>
        simp at hp2
        obtain ⟨hp2, rfl⟩ := hp2
        refine ⟨.int .i64 n, ?_, .int _ _⟩
        have := run_lenOf (P := P) H hx hn hp1 hp2 ty E.w
        simp only [resolve, invoke, builtin, hm, Sem.run_bind, Sem.run_pure, Result.andThen_ok, this]
  · -- append
    split at h <;> try (cases h; done)
    split at h <;> try (cases h; done)
    unfold aappend at h
    split at h <;> try (cases h; done)
    split at h <;> try (cases h; done)
    split at h <;> try (cases h; done)
    split at h <;> cases h
  · -- max
    split at h <;> try (cases h; done)
    rename_i r hr
    simp only [AR.val.injEq] at h
    obtain ⟨rfl, rfl⟩ := h
    unfold amax at hr
    split at hr <;> try (cases hr; done)
    rename_i k x k' y hl
    split at hr <;> try (cases hr; done)
    rename_i hk
    subst hk
    cases hr
    have hargs : ∃ X Y, args.toList = [X, Y] ∧ ev X = .int k x ∧ ev Y = .int k y := by
      cases hal : args.toList with
      | nil => simp [hal] at hl
      | cons X l => cases l with
        | nil => simp [hal] at hl
        | cons Y l => cases l with
          | nil => simp [hal] at hl; exact ⟨X, Y, rfl, hl.1, hl.2⟩
          | cons Z l => simp [hal] at hl
    obtain ⟨X, Y, hal, hX, hY⟩ := hargs
    have h1 := rel_int (hX ▸ hev X)
    have h2 := rel_int (hY ▸ hev Y)
    have hm : args.map a.eval = #[.int k x, .int k y] := by
      apply Array.ext'; simp [hal, h1, h2]
    refine ⟨_, ?_, .int k _⟩
    simp only [resolve, invoke, builtin, hm, Sem.run_bind, Sem.run_pure, Result.andThen_ok, Builtin.max_, run_foldlM_one, Builtin.max2]
  · -- min
    split at h <;> try (cases h; done)
    rename_i r hr
    simp only [AR.val.injEq] at h
    obtain ⟨rfl, rfl⟩ := h
    unfold amin at hr
    split at hr <;> try (cases hr; done)
    rename_i k x k' y hl
    split at hr <;> try (cases hr; done)
    rename_i hk
    subst hk
    cases hr
    have hargs : ∃ X Y, args.toList = [X, Y] ∧ ev X = .int k x ∧ ev Y = .int k y := by
      cases hal : args.toList with
      | nil => simp [hal] at hl
      | cons X l => cases l with
        | nil => simp [hal] at hl
        | cons Y l => cases l with
          | nil => simp [hal] at hl; exact ⟨X, Y, rfl, hl.1, hl.2⟩
          | cons Z l => simp [hal] at hl
    obtain ⟨X, Y, hal, hX, hY⟩ := hargs
    have h1 := rel_int (hX ▸ hev X)
    have h2 := rel_int (hY ▸ hev Y)
    have hm : args.map a.eval = #[.int k x, .int k y] := by
      apply Array.ext'; simp [hal, h1, h2]
    refine ⟨_, ?_, .int k _⟩
    simp only [resolve, invoke, builtin, hm, Sem.run_bind, Sem.run_pure, Result.andThen_ok, Builtin.min_, run_foldlM_one, Builtin.min2]
  · cases h

theorem zeroCs_some {t : TypeId} {z : List V} (h : zeroCs P t = some z) : ∃ i v, P.info? t = some i ∧ i.zero = some v ∧ v.cells.size = szOf P t ∧ ∀ (E : Env), Cells E false z v.cells.toList := by
  unfold zeroCs at h
  cases hi : P.info? t with
  | none => simp [hi] at h
  | some i =>
    cases hz : i.zero with
    | none => simp [hi, hz] at h
    | some v =>
      simp only [hi, hz, Option.bind_some] at h
      split at h <;> try (cases h; done)
      rename_i hc
      simp only [Bool.and_eq_true, beq_iff_eq] at hc
      cases h
      refine ⟨i, v, rfl, hz, hc.2, fun E => ⟨by simp, fun n x hx => ?_⟩⟩
      rw [List.getElem?_map] at hx
      cases hn : v.cells.toList[n]? with
      | none => simp [hn] at hx
      | some u =>
        simp [hn] at hx
        subst hx
        have h1 := List.all_eq_true.1 hc.1 u (List.mem_of_getElem? hn)
        exact ⟨u, rfl, h1, Rel1.of_relP (relP_ofCell u h1), fun _ => relP_ofCell u h1⟩

theorem Cells.weaken {E : Env} {b : Bool} {cs : List V} {vs : List Value} (b' : Bool) (hb : b' = false → b = false) (h : Cells E b cs vs) : Cells E b' cs vs :=
  ⟨h.1, fun i x hx => let ⟨u, h1, h2, h3, h4⟩ := h.2 i x hx; ⟨u, h1, h2, h3, fun hh => h4 (hb hh)⟩⟩

theorem mapM_get {fs : List Field} {f : Field → Option (Nat × Nat)} : ∀ {places : List (Nat × Nat)}, fs.mapM f = some places → ∀ (i : Nat), places[i]? = (fs[i]?).bind f := by
  induction fs with
  | nil => intro places h i; simp at h; subst h; simp
  | cons x fs ih =>
    intro places h i
    simp only [List.mapM_cons, Option.bind_eq_bind, Option.pure_def] at h
    cases hx : f x with
    | none => simp [hx] at h
    | some p =>
      cases hr : fs.mapM f with
      | none => simp [hx, hr] at h
      | some ps =>
        simp [hx, hr] at h
        subst h
        cases i with
        | zero => simp [hx]
        | succ i => simpa using ih hr i

theorem run_abuild {t : TypeId} {parts : List (Nat × V)} {cparts : Array (Nat × Value)} {p : Prop} {v : V}
    (hl : cparts.size = parts.length) (hp : ∀ (i : Nat) (q : Nat × V), parts[i]? = some q → ∃ u, cparts[i]? = some (q.1, u) ∧ Rel E q.2 u)
    (h : abuild P E.h t parts = .val p v) (hpp : p) (w : World) : ∃ u, (Instr.build t cparts).run P w = .ok u w ∧ Rel E v u := by
  unfold abuild at h
  split at h <;> try (cases h; done)
  rename_i hpl
  split at h <;> try (cases h; done)
  rename_i z hz
  split at h <;> try (cases h; done)
  rename_i cs hcs
  simp only [AR.val.injEq] at h
  obtain ⟨rfl, rfl⟩ := h
  obtain ⟨it, zv, hit, hzv, _, hzc⟩ := zeroCs_some hz
  unfold placesOK at hpl
  split at hpl <;> try (cases hpl; done)
  rename_i fs hu
  obtain ⟨places, hplaces⟩ := Option.isSome_iff_exists.1 hpl
  have hget := mapM_get hplaces
  have hsub : ∀ (i : Nat) (q : Nat × Nat), (fieldOf P t i).map (fun f => (f.1, szOf P f.2)) = some q → places.toArray[i]? = some q := by
    intro i q hq
    unfold fieldOf at hq
    rw [hu] at hq
    simp only at hq
    rw [List.getElem?_toArray, hget i, Array.getElem?_toList]
    cases hf : fs[i]? with
    | none => simp [hf] at hq
    | some fd =>
      cases hi : P.info? fd.type with
      | none => simp [hf, hi] at hq
      | some ii =>
        simp only [hf, hi, Option.bind_some] at hq
        split at hq <;> try (cases hq; done)
        simp [szOf, hi] at hq
        simp [hi, hq]
  generalize hb : (!(parts.all (·.2.pure))) = b
  have hparts : ∀ (i : Nat) (q : Nat × V), parts[i]? = some q → ∃ u, cparts.toList[i]? = some (q.1, u) ∧ Cells E b q.2.cells u.cells.toList := by
    intro i q hq
    obtain ⟨u, h1, h2⟩ := hp i q hq
    refine ⟨u, by simpa using h1, (Cells.of_rel h2 (hpp q (List.mem_of_getElem? hq))).weaken b fun hbf => ?_⟩
    rw [hbf] at hb
    simp only [Bool.not_eq_false', List.all_eq_true] at hb
    simp [hb q (List.mem_of_getElem? hq)]
  obtain ⟨vs', g1, g2⟩ := fill_sound (E := E) (imp := b) hsub parts cparts.toList z cs zv.cells (by simpa using hl) hparts ((hzc E).weaken b (fun _ => rfl)) hcs
  refine ⟨.agg vs', run_build w t cparts vs' ?_, by simpa using g2.rel⟩
  unfold Program.built
  simp only [hit, hu, hzv, hplaces]
  exact g1

theorem rel_tup {xs : List V} {u : Value} (h : Rel E (.tup xs) u) : ∃ vs, u = .tuple vs ∧ vs.size = xs.length ∧ ∀ (i : Nat) (x : V), xs[i]? = some x → ∃ u, vs[i]? = some u ∧ RelA E x u := h

theorem RelA.rel {x : V} {u : Value} (h : RelA E x u) : Rel E x u := by
  cases x <;> first | exact h | (cases h; done)

theorem run_aslice {t : TypeId} {x : V} {lo hi : Option V} {u : Value} {clo chi : Option Value} {p : Prop} {v : V} (hx : Rel E x u)
    (hlo : ∀ l, lo = some l → ∃ c, clo = some c ∧ Rel E l c) (hlo0 : lo = none → clo = none) (hhi : ∀ l, hi = some l → ∃ c, chi = some c ∧ Rel E l c) (hhi0 : hi = none → chi = none)
    (h : aslice P t x lo hi = .val p v) (hp : p) (w : World) : ∃ r, (Instr.sliceAt t u clo chi none).run P w = .ok r w ∧ Rel E v r := by
  unfold aslice at h
  split at h <;> try (cases h; done)
  rename_i e he
  split at h <;> try (cases h; done)
  rename_i hs
  have hpos : 0 < szOf P e := by omega
  split at h <;> try (cases h; done)
  · rename_i k2 hh
    have hl := hlo0 rfl
    obtain ⟨c, hc, hr⟩ := hhi _ rfl
    have hc2 := rel_int hr
    subst hc2
    split at h <;> try (cases h; done)
    · rename_i rows
      simp only [AR.val.injEq] at h
      obtain ⟨rfl, rfl⟩ := h
      obtain ⟨r, r1, r2⟩ := (rel_slAt_sl hx).cut 0 hh.toNat (Nat.zero_le _) (by omega) (.inl rfl) he rfl hpos clo chi (.inl ⟨hl, rfl⟩) (.inr ⟨k2, by rw [hc]; congr 2; omega⟩) w
      exact ⟨r, r1, slAt_rel_sl (by simpa using r2)⟩
    · rename_i rows
      simp only [AR.val.injEq] at h
      obtain ⟨rfl, rfl⟩ := h
      have hx' : SlAt E.w E.A E.M rows u := hx
      obtain ⟨r, r1, r2⟩ := hx'.cut 0 hh.toNat (Nat.zero_le _) (by omega) (.inl rfl) he rfl hpos clo chi (.inl ⟨hl, rfl⟩) (.inr ⟨k2, by rw [hc]; congr 2; omega⟩) w
      exact ⟨r, r1, by have r3 := r2; simp at r3; exact r3⟩
    · simp only [AR.val.injEq] at h
      obtain ⟨rfl, rfl⟩ := h
      have : u = .slice none 0 0 := by cases hx; rfl
      subst this
      subst hp
      exact ⟨_, run_sliceAt he rfl hpos none 0 0 0 0 clo chi (.inl ⟨hl, rfl⟩) (.inr ⟨k2, by rw [hc]; rfl⟩) (Nat.le_refl _) (Nat.le_refl _) w, by simpa using hx⟩
  · rename_i k2 ll
    have hl := hhi0 rfl
    obtain ⟨c, hc, hr⟩ := hlo _ rfl
    have hc2 := rel_int hr
    subst hc2
    split at h <;> try (cases h; done)
    · rename_i rows
      simp only [AR.val.injEq] at h
      obtain ⟨rfl, rfl⟩ := h
      obtain ⟨r, r1, r2⟩ := (rel_slAt_sl hx).cut ll.toNat rows.length (by omega) (Nat.le_refl _) (.inr hp.2.2) he rfl hpos clo chi (.inr ⟨k2, by rw [hc]; congr 2; omega⟩) (.inl ⟨hl, rfl⟩) w
      exact ⟨r, r1, slAt_rel_sl (by simpa using r2)⟩
    · rename_i rows
      simp only [AR.val.injEq] at h
      obtain ⟨rfl, rfl⟩ := h
      have hx' : SlAt E.w E.A E.M rows u := hx
      obtain ⟨r, r1, r2⟩ := hx'.cut ll.toNat rows.length (by omega) (Nat.le_refl _) (.inr hp.2.2) he rfl hpos clo chi (.inr ⟨k2, by rw [hc]; congr 2; omega⟩) (.inl ⟨hl, rfl⟩) w
      exact ⟨r, r1, by have r3 := r2; simp at r3; exact r3⟩
    · simp only [AR.val.injEq] at h
      obtain ⟨rfl, rfl⟩ := h
      have : u = .slice none 0 0 := by cases hx; rfl
      subst this
      subst hp
      exact ⟨_, run_sliceAt he rfl hpos none 0 0 0 0 clo chi (.inr ⟨k2, by rw [hc]; rfl⟩) (.inl ⟨hl, rfl⟩) (Nat.le_refl _) (Nat.le_refl _) w, by simpa using hx⟩
  · rename_i k1 ll k2 hh
    obtain ⟨c, hc, hr⟩ := hlo _ rfl
    have hc2 := rel_int hr
    subst hc2
    obtain ⟨d, hd, hr'⟩ := hhi _ rfl
    have hd2 := rel_int hr'
    subst hd2
    split at h <;> try (cases h; done)
    · rename_i rows
      simp only [AR.val.injEq] at h
      obtain ⟨rfl, rfl⟩ := h
      obtain ⟨r, r1, r2⟩ := (rel_slAt_sl hx).cut ll.toNat hh.toNat (by omega) (by omega) (.inr hp.2.2.2) he rfl hpos clo chi (.inr ⟨k1, by rw [hc]; congr 2; omega⟩) (.inr ⟨k2, by rw [hd]; congr 2; omega⟩) w
      exact ⟨r, r1, slAt_rel_sl r2⟩
    · rename_i rows
      simp only [AR.val.injEq] at h
      obtain ⟨rfl, rfl⟩ := h
      have hx' : SlAt E.w E.A E.M rows u := hx
      obtain ⟨r, r1, r2⟩ := hx'.cut ll.toNat hh.toNat (by omega) (by omega) (.inr hp.2.2.2) he rfl hpos clo chi (.inr ⟨k1, by rw [hc]; congr 2; omega⟩) (.inr ⟨k2, by rw [hd]; congr 2; omega⟩) w
      exact ⟨r, r1, r2⟩
    · simp only [AR.val.injEq] at h
      obtain ⟨rfl, rfl⟩ := h
      have : u = .slice none 0 0 := by cases hx; rfl
      subst this
      obtain ⟨rfl, rfl⟩ := hp
      exact ⟨_, run_sliceAt he rfl hpos none 0 0 0 0 clo chi (.inr ⟨k1, by rw [hc]; rfl⟩) (.inr ⟨k2, by rw [hd]; rfl⟩) (Nat.le_refl _) (Nat.le_refl _) w, by simpa using hx⟩

theorem aop_val (H : ObsOK E) (a : Act) (ev : Operand → V) (hev : ∀ x, Rel E (ev x) (a.eval x)) (o : Oper) {p : Prop} {v : V} (h : aop P o ev E.h = .val p v) (hp : p) :
    ∃ u, (execOp a.eval o).run P E.w = .ok (.value u) E.w ∧ Rel E v u := by
  obtain ⟨dst, op, ty, pos, after, guard⟩ := o
  unfold aop at h
  simp only at h
  split at h
  · -- move
    simp only [AR.val.injEq] at h
    obtain ⟨rfl, rfl⟩ := h
    exact ⟨_, rfl, hev _⟩
  · simp only [AR.val.injEq] at h
    obtain ⟨rfl, rfl⟩ := h
    exact ⟨_, rfl, hev _⟩
  · -- pick
    rename_i c x y
    split at h <;> try (cases h; done)
    rename_i b hb
    simp only [AR.val.injEq] at h
    obtain ⟨rfl, rfl⟩ := h
    have hc := rel_bool (hb ▸ hev c)
    refine ⟨if b then a.eval x else a.eval y, ?_, ?_⟩
    · simp [execOp, hc, asBool]
    · cases b
      · exact hev y
      · exact hev x
  · -- alloc
    rename_i t
    rcases aalloc_cases P t with e | ⟨ob, e⟩ <;> rw [e] at h <;> cases h
  · -- box
    cases h
  · -- build
    rename_i t parts
    obtain ⟨u, h1, h2⟩ := run_abuild (P := P) (E := E) (cparts := parts.map fun q => (q.1, a.eval q.2)) (by simp) (fun i q hq => by
      rw [List.getElem?_map] at hq
      cases hi : parts.toList[i]? with
      | none => simp [hi] at hq
      | some r =>
        simp [hi] at hq
        subst hq
        have hi' : parts[i]? = some r := by simpa using hi
        exact ⟨a.eval r.2, by simp [hi'], hev r.2⟩) h hp E.w
    exact ⟨u, run_v h1, h2⟩
  · -- buildSlice
    unfold abuildSlice at h
    split at h <;> try (cases h; done)
    split at h <;> cases h
  · -- load
    rename_i t x
    split at h <;> try (cases h; done)
    rename_i ht
    obtain ⟨r, h1, h2⟩ := run_aload H (hev x) ht h hp
    exact ⟨r, run_v h1, h2⟩
  · -- store
    split at h <;> try (cases h; done)
    unfold astore at h
    split at h <;> try (cases h; done)
    split at h <;> try (cases h; done)
    split at h <;> cases h
  · -- binOp
    rename_i op t x y yt
    split at h <;> try (cases h; done)
    rename_i q r hb
    simp only [AR.val.injEq] at h
    obtain ⟨rfl, rfl⟩ := h
    obtain ⟨u, h1, h2⟩ := run_binV (P := P) (E := E) (X := x) (Y := y) (hev x) (hev y) hb hp E.w
    exact ⟨u, run_v h1, Rel.of_relP h2⟩
  · -- not
    rename_i t x
    split at h <;> try (cases h; done)
    rename_i b hb
    simp only [AR.val.injEq] at h
    obtain ⟨rfl, rfl⟩ := h
    have hc := rel_bool (hb ▸ hev x)
    exact ⟨.bool (!b), by simp [execOp, hc, Op.unary], .bool _⟩
  · -- neg
    rename_i t x
    split at h <;> try (cases h; done)
    rename_i k n hb
    simp only [AR.val.injEq] at h
    obtain ⟨rfl, rfl⟩ := h
    have hc := rel_int (hb ▸ hev x)
    exact ⟨.int k (k.wrap (0 - n)), by simp [execOp, hc, Op.unary, Op.intArith], .int _ _⟩
  · -- convert
    rename_i src d x
    split at h <;> try (cases h; done)
    rename_i k n hb
    split at h <;> try (cases h; done)
    rename_i s1 k2 e1 e2
    simp only [AR.val.injEq] at h
    obtain ⟨rfl, rfl⟩ := h
    have hc := rel_int (hb ▸ hev x)
    refine ⟨.int k2 (k2.wrap n), ?_, .int _ _⟩
    have : (convert src d (.int k n)).run P E.w = .ok (.int k2 (k2.wrap n)) E.w := by
      simp only [convert, Sem.run_bind, run_underlying e1, run_underlying e2, Result.andThen_ok]
      cases s1 <;> simp [Conv.intToInt]
    simp only [execOp, hc]
    exact run_v this
  · -- slice
    rename_i t x lo hi
    obtain ⟨r, h1, h2⟩ := run_aslice (P := P) (E := E) (clo := lo.map a.eval) (chi := hi.map a.eval) (hev x)
      (fun l hl => by cases lo with | none => simp at hl | some z => simp at hl; subst hl; exact ⟨_, rfl, hev z⟩) (fun hl => by cases lo with | none => rfl | some z => simp at hl)
      (fun l hl => by cases hi with | none => simp at hl | some z => simp at hl; subst hl; exact ⟨_, rfl, hev z⟩) (fun hl => by cases hi with | none => rfl | some z => simp at hl) h hp E.w
    exact ⟨r, run_v h1, h2⟩
  · -- fieldAddr
    rename_i t x f
    unfold afieldAddr at h
    have hx := hev x
    split at h
    · rename_i o n i j hxe
      split at h <;> try (cases h; done)
      rename_i ob ho
      split at h <;> try (cases h; done)
      rename_i off ft hf
      simp only [AR.val.injEq] at h
      obtain ⟨rfl, rfl⟩ := h
      rw [hxe] at hx
      obtain ⟨b, hb, hv⟩ := (hx ob ho).2 hp
      refine ⟨.pointer (some ⟨b, i * ob.es + j + off, none⟩), ?_, ?_⟩
      · have := run_fieldAt (P := P) hf b (i * ob.es + j) E.w
        rw [← hv] at this
        exact run_v this
      · intro ob' ho'
        rw [ho] at ho'
        cases ho'
        exact ⟨(hx ob ho).1, fun _ => ⟨b, hb, by rw [Nat.add_assoc]⟩⟩
    · rename_i row j hxe
      split at h <;> try (cases h; done)
      rename_i off ft hf
      simp only [AR.val.injEq] at h
      obtain ⟨rfl, rfl⟩ := h
      rw [hxe] at hx
      obtain ⟨b, off', f', hv, h2, h3, h4, h5⟩ := hx
      refine ⟨.pointer (some ⟨b, off' + j + off, none⟩), ?_, b, off', f', by rw [Nat.add_assoc], h2, h3, h4, h5⟩
      have := run_fieldAt (P := P) hf b (off' + j) E.w
      rw [← hv] at this
      exact run_v this
    · cases h
  · -- field
    rename_i t x f
    unfold afield at h
    split at h <;> try (cases h; done)
    rename_i cs hxe
    have hx := hev x
    rw [hxe] at hx
    obtain ⟨vs, hv, pr⟩ := PRel.of_agg hx
    split at h <;> try (cases h; done)
    rename_i off ft hf
    split at h
    · rename_i hrow
      simp only [AR.val.injEq] at h
      obtain ⟨rfl, rfl⟩ := h
      have hu : (P.underlying ft).isSome := by
        unfold isRowT at hrow
        split at hrow <;> first | (rename_i h; rw [h]; rfl) | cases hrow
      have hl : vs.size = cs.length := by simpa using pr.1
      have := run_field (P := P) hf hu vs (by rw [hl]; exact hp) (fun h => by rw [hrow] at h; cases h) E.w
      refine ⟨valOf P ft ((vs.toList.drop off).take (szOf P ft)), ?_, ?_⟩
      · simp only [execOp, hv]
        exact run_v this
      · unfold valOf
        rw [hrow]
        have p2 := (pr.drop off).take (szOf P ft)
        exact ⟨_, rfl, by simpa [cut] using p2.1, fun i x hx => let ⟨u, h1, h2⟩ := p2.2 i x hx; ⟨u, by simpa using h1, h2⟩⟩
    · rename_i hrow
      split at h <;> try (cases h; done)
      rename_i hsz
      split at h <;> try (cases h; done)
      rename_i y hy
      simp only [AR.val.injEq] at h
      obtain ⟨rfl, rfl⟩ := h
      have hl : vs.size = cs.length := by simpa using pr.1
      have hlt := (List.getElem?_eq_some_iff.1 hy).1
      obtain ⟨u, u1, u2⟩ := pr.2 off y hy
      have := run_field (P := P) hf hsz.1 vs (by rw [hsz.2, hl]; omega) (fun _ => hsz.2) E.w
      refine ⟨u, ?_, Rel.of_relP u2⟩
      simp only [execOp, hv]
      refine run_v ?_
      rw [this]
      unfold valOf
      simp only [hrow, Bool.false_eq_true, if_false, hsz.2]
      have : (vs.toList.drop off).take 1 = [u] := by
        have hlt' : off < vs.toList.length := by simpa [hl] using hlt
        rw [List.drop_eq_getElem_cons hlt']
        rw [List.getElem?_eq_getElem hlt'] at u1
        simp only [Option.some.injEq] at u1
        simp [u1]
      rw [this]
      rfl
  · -- indexAddr
    rename_i t x ix
    have hx := hev x
    split at h
    · rename_i o n hxe
      unfold aindexRef at h
      split at h <;> try (cases h; done)
      rename_i e k i he hie
      have hi := rel_int (hie ▸ hev ix)
      split at h <;> try (cases h; done)
      rename_i hs
      rw [hxe] at h hx
      simp only at h
      split at h <;> try (cases h; done)
      rename_i ob ho
      simp only [AR.val.injEq] at h
      obtain ⟨rfl, rfl⟩ := h
      obtain ⟨p1, p2, p3, p4⟩ := hp
      have h3 := (hx ob ho).2 p3
      have hok := H.ok o ob ho
      cases hb : E.β o with
      | none => rw [hb] at hok; have : ob.rows = [] := hok; rw [this] at p3; simp at p3; omega
      | some b =>
        rw [hb] at h3
        obtain ⟨cap, cur, hv, _⟩ := h3
        refine ⟨.pointer (some ⟨b, i.toNat * ob.es + 0, none⟩), ?_, ?_⟩
        · have := run_indexAt (P := P) he (by omega) (k := k) (i := i) b 0 n cap p1 p2 E.w
          simp only [execOp, hv, hi]
          rw [p4]
          simpa using run_v this
        · intro ob' ho'
          rw [ho] at ho'
          cases ho'
          exact ⟨by omega, fun _ => ⟨b, hb, rfl⟩⟩
    · rename_i o n0 i0 j0 hxe
      unfold aindexArr at h
      split at h <;> try (cases h; done)
      rename_i m e k i he hie
      have hi := rel_int (hie ▸ hev ix)
      split at h <;> try (cases h; done)
      rename_i hs
      rw [hxe] at h hx
      split at h <;> try (cases h; done)
      rename_i o' n' hptr
      cases hptr
      split at h <;> try (cases h; done)
      rename_i ob ho
      simp only [AR.val.injEq] at h
      obtain ⟨rfl, rfl⟩ := h
      obtain ⟨p1, p2, p3, p4, p5⟩ := hp
      obtain ⟨b, hb, hv⟩ := (hx ob ho).2 p4
      refine ⟨.pointer (some ⟨b, i.toNat * ob.es + 0, none⟩), ?_, ?_⟩
      · have := run_indexArr (P := P) he (by omega) (k := k) (i := i) b 0 p1 p2 E.w
        simp only [execOp, hv, hi]
        rw [p5]
        simpa using run_v this
      · intro ob' ho'
        rw [ho] at ho'
        cases ho'
        exact ⟨by omega, fun _ => ⟨b, hb, rfl⟩⟩
    · unfold aindexAddr at h
      split at h <;> try (cases h; done)
      rename_i e k i he hie
      have hi := rel_int (hie ▸ hev ix)
      split at h <;> try (cases h; done)
      rename_i hs
      split at h <;> try (cases h; done)
      · rename_i rows hxe
        split at h <;> try (cases h; done)
        rename_i row hrow
        simp only [AR.val.injEq] at h
        obtain ⟨rfl, rfl⟩ := h
        rw [hxe] at hx
        obtain ⟨b, off, f, c1, c2, c3, c4, c5⟩ := slAt_index (rel_slAt_sl hx) hrow he hp.2 (by omega) k E.w
        refine ⟨.pointer (some ⟨b, off, none⟩), ?_, b, off, f, rfl, c2, fun hm => c3 (H.mA hm), c4, c5⟩
        simp only [execOp, hi]
        rw [show i = ((i.toNat : Nat) : Int) from by omega]
        exact run_v c1
      · rename_i rows hxe
        split at h <;> try (cases h; done)
        rename_i row hrow
        simp only [AR.val.injEq] at h
        obtain ⟨rfl, rfl⟩ := h
        rw [hxe] at hx
        obtain ⟨b, off, f, c1, c2, c3, c4, c5⟩ := slAt_index hx hrow he hp.2 (by omega) k E.w
        refine ⟨.pointer (some ⟨b, off, none⟩), ?_, b, off, f, rfl, c2, c3, c4, c5⟩
        simp only [execOp, hi]
        rw [show i = ((i.toNat : Nat) : Int) from by omega]
        exact run_v c1
  · -- extract
    rename_i x i
    split at h <;> try (cases h; done)
    rename_i xs hxe
    split at h <;> try (cases h; done)
    rename_i y hy
    simp only [AR.val.injEq] at h
    obtain ⟨rfl, rfl⟩ := h
    have hx := hev x
    rw [hxe] at hx
    obtain ⟨vs, hv, hs, hc⟩ := rel_tup hx
    obtain ⟨u, u1, u2⟩ := hc i y hy
    refine ⟨u, ?_, u2.rel⟩
    simp only [execOp, hv]
    exact run_v (by simp [Instr.extract, u1])
  · -- makeFunc
    rename_i f first caps
    split at h <;> try (cases h; done)
    rename_i hf
    simp only [AR.val.injEq] at h
    obtain ⟨rfl, rfl⟩ := h
    obtain ⟨hf1, hf2⟩ := hf
    have hfirst : first = #[] := by apply Array.ext'; simpa using hf1
    subst hfirst
    refine ⟨.func (.func f) #[] (caps.map a.eval), ?_, caps.map a.eval, rfl, by simp, fun i x hx => ?_⟩
    · simp only [execOp]
      exact run_v (by simp [Instr.makeFunc])
    · rw [List.getElem?_map] at hx
      cases hi : caps.toList[i]? with
      | none => simp [hi] at hx
      | some r =>
        simp [hi] at hx
        subst hx
        have hi' : caps[i]? = some r := by simpa using hi
        refine ⟨a.eval r, by simp [hi'], ?_⟩
        have hr := hev r
        have hc := List.all_eq_true.1 hf2 (ev r) (List.mem_map.2 ⟨r, List.mem_of_getElem? hi, rfl⟩)
        generalize ev r = x at hr hc
        cases x <;> first | exact hr | (simp [V.capOK] at hc)
  · -- nilCheck
    rename_i x
    split at h <;> try (cases h; done)
    rename_i o n i j hxe
    simp only [AR.val.injEq] at h
    obtain ⟨rfl, rfl⟩ := h
    obtain ⟨ob, ho, hn⟩ := hp
    have hx := hev x
    rw [hxe] at hx
    obtain ⟨b, hb, hv⟩ := (hx ob ho).2 hn
    refine ⟨_, ?_, hx⟩
    simp only [execOp, hv]
    rfl
  · -- call
    rename_i c
    obtain ⟨u, h1, h2⟩ := acall_val H a ev hev c ty h hp
    exact ⟨u, by simpa [execOp] using h1, h2⟩
  · unfold amake at h
    split at h <;> try (cases h; done)
    split at h <;> try (cases h; done)
    split at h <;> cases h
  · cases h
end
end Go.AL
