/-
  THE ABSTRACT LAYER, TWELFTH PART: regions that draw their order. By an AI agent.
-/
import Derived.Test.YtbhnmholmpdmeaaGreatAlRun
namespace Go.AL
set_option linter.unusedVariables false
set_option linter.unusedSimpArgs false
set_option linter.unusedSectionVars false

/-! ### What an operation looks at -/
theorem killfix_ptr {K : Nat → Bool} {o n i j : Nat} (h : (V.ptr o n i j).kill K = .ptr o n i j) : K o = false := by
  simp only [V.kill, V.killA, V.kill1] at h
  by_cases hk : K o = true
  · rw [if_pos hk] at h; cases h
  · simpa using hk
theorem killfix_ref {K : Nat → Bool} {o n : Nat} (h : (V.ref o n).kill K = .ref o n) : K o = false := by
  simp only [V.kill, V.killA, V.kill1] at h
  by_cases hk : K o = true
  · rw [if_pos hk] at h; cases h
  · simpa using hk

section
variable {P : Program} {K : Nat → Bool} {e e' : Operand → V} {h h' : Nat → Option Ob}

theorem aload_congr (hh : ∀ p, K p = false → h p = h' p) {t : TypeId} {x : V} (hx : x.kill K = x) : aload P h t x = aload P h' t x := by
  cases x <;> simp only [aload]
  rw [hh _ (killfix_ptr hx)]

theorem astore_congr (hh : ∀ p, K p = false → h p = h' p) {t : TypeId} {x y : V} (hx : x.kill K = x) (hy : y.kill K = y) : astore P h t x y = astore P h' t x y := by
  have hs : y.stor h = y.stor h' := by
    cases y <;> simp only [V.stor]
    · rw [hh _ (killfix_ref hy)]
    · rw [hh _ (killfix_ptr hy)]
  cases x <;> simp only [astore]
  rw [hh _ (killfix_ptr hx), hs]

theorem stor_congr (hh : ∀ p, K p = false → h p = h' p) {y : V} (hy : y.kill K = y) : y.stor h = y.stor h' := by
  cases y <;> simp only [V.stor]
  · rw [hh _ (killfix_ref hy)]
  · rw [hh _ (killfix_ptr hy)]

theorem live_congr (hh : ∀ p, K p = false → h p = h' p) {y : V} (hy : y.kill K = y) : y.live h = y.live h' := by
  cases y <;> simp only [V.live]
  rw [hh _ (killfix_ref hy)]

theorem rowsOf_congr (hh : ∀ p, K p = false → h p = h' p) {y : V} (hy : y.kill K = y) : rowsOf h y = rowsOf h' y := by
  cases y with
  | ref o n => simp only [rowsOf]; rw [hh _ (killfix_ref hy)]
  | raw v =>
    cases v <;> try rfl
    rename_i a n c
    cases n <;> rfl
  | _ => rfl

theorem aappend_congr (hh : ∀ p, K p = false → h p = h' p) {t : TypeId} {x y : V} (hx : x.kill K = x) (hy : y.kill K = y) : aappend P h t x y = aappend P h' t x y := by
  unfold aappend
  rw [rowsOf_congr hh hy]
  cases x <;> dsimp only <;> try rfl
  rw [hh _ (killfix_ref hx)]

theorem acall_congr (c : Call) (he : ∀ x ∈ c.operands.toList, e x = e' x) (hh : ∀ p, K p = false → h p = h' p) (hk : ∀ x ∈ c.operands.toList, (e x).kill K = e x) : acall P e h c = acall P e' h' c := by
  obtain ⟨callee, args, argTypes⟩ := c
  have hargs : ∀ x ∈ args.toList, e x = e' x := fun x hx => he x (by simp [Call.operands]; exact .inr (by simpa using hx))
  have hkargs : ∀ x ∈ args.toList, (e x).kill K = e x := fun x hx => hk x (by simp [Call.operands]; exact .inr (by simpa using hx))
  have hmap : args.toList.map e = args.toList.map e' := List.map_congr_left hargs
  unfold acall
  simp only
  cases callee with
  | value f =>
    have : e f = e' f := he f (by simp [Call.operands])
    simp only [this, hmap]
  | invoke r m => rfl
  | builtin b =>
    cases b <;> simp only [hmap]
    case append =>
      split
      · rename_i x y t t' hl ht
        split
        · rw [← hargs x (by simp [hl]), ← hargs y (by simp [hl])]
          exact aappend_congr hh (hkargs x (by simp [hl])) (hkargs y (by simp [hl]))
        · rfl
      · rfl
    case len =>
      split
      · rename_i x hl
        have hx := hargs x (by simp [hl])
        have hkx := hkargs x (by simp [hl])
        rw [← hx]
        split
        · rfl
        · rw [live_congr hh hkx]
      · rfl

theorem aop_congr (o : Oper) (he : ∀ x ∈ o.op.operands.toList, e x = e' x) (hh : ∀ p, K p = false → h p = h' p) (hk : ∀ x ∈ o.op.operands.toList, (e x).kill K = e x) : aop P o e h = aop P o e' h' := by
  obtain ⟨dst, op, ty, pos, after, guard⟩ := o
  unfold aop
  simp only at he hk ⊢
  cases op <;> simp only [Op.operands] at he hk <;> (try dsimp only) <;> try rfl
  case move x => rw [he x (by simp)]
  case assign x => rw [he x (by simp)]
  case pick c a b => rw [he c (by simp), he a (by simp), he b (by simp)]
  case box t x => rw [← he x (by simp), stor_congr hh (hk x (by simp))]
  case build t parts =>
    have hp : (parts.toList.map fun q => (q.1, e q.2)) = (parts.toList.map fun q => (q.1, e' q.2)) := List.map_congr_left fun q hq => by
      rw [he q.2 (by simp; exact ⟨q.1, by simpa using hq⟩)]
    rw [← hp]
    unfold abuild
    split <;> try rfl
    split <;> try rfl
    split <;> try rfl
    have hs : (∀ q ∈ (parts.toList.map fun q => (q.1, e q.2)), q.2.stor h) = (∀ q ∈ (parts.toList.map fun q => (q.1, e q.2)), q.2.stor h') := by
      apply propext
      refine forall_congr' fun q => forall_congr' fun hq => ?_
      obtain ⟨r, hr, rfl⟩ := List.mem_map.1 hq
      rw [stor_congr hh (hk r.2 (by simp; exact ⟨r.1, by simpa using hr⟩))]
    rw [hs]
  case buildSlice t len parts =>
    have hp : (parts.toList.map fun q => (q.1, e q.2)) = (parts.toList.map fun q => (q.1, e' q.2)) := List.map_congr_left fun q hq => by
      rw [he q.2 (by simp; exact ⟨q.1, by simpa using hq⟩)]
    rw [← hp]
    unfold abuildSlice
    split <;> try rfl
    split <;> try rfl
    have hs : (∀ q ∈ (parts.toList.map fun q => (q.1, e q.2)), q.2.stor h ∧ q.2.cells.length = szOf P ‹_›) = (∀ q ∈ (parts.toList.map fun q => (q.1, e q.2)), q.2.stor h' ∧ q.2.cells.length = szOf P ‹_›) := by
      apply propext
      refine forall_congr' fun q => forall_congr' fun hq => ?_
      obtain ⟨r, hr, rfl⟩ := List.mem_map.1 hq
      rw [stor_congr hh (hk r.2 (by simp; exact ⟨r.1, by simpa using hr⟩))]
    rw [hs]
  case load t x =>
    rw [← he x (by simp), aload_congr hh (hk x (by simp))]
  case store t x y =>
    rw [← he x (by simp), ← he y (by simp), astore_congr hh (hk x (by simp)) (hk y (by simp))]
  case binOp op t x y yt => rw [he x (by simp), he y (by simp)]
  case unOp op t x => cases op <;> simp only [] <;> rw [he x (by simp)]
  case convert s d x => rw [he x (by simp)]
  case slice t x lo hi mx =>
    cases mx <;> simp only []
    rw [he x (by simp)]
    have h1 : lo.map e = lo.map e' := by cases lo with | none => rfl | some z => simp; exact he z (by simp)
    have h2 : hi.map e = hi.map e' := by cases hi with | none => rfl | some z => simp; exact he z (by simp)
    rw [h1, h2]
  case fieldAddr t x f =>
    rw [← he x (by simp)]
    have hx := hk x (by simp)
    generalize e x = v at hx
    cases v <;> simp only [afieldAddr]
    rw [hh _ (killfix_ptr hx)]
  case field t x f => rw [he x (by simp)]
  case indexAddr t x i =>
    rw [← he x (by simp), ← he i (by simp)]
    have hx := hk x (by simp)
    generalize e x = v at hx
    cases v <;> simp only [aindexRef, aindexArr]
    · rw [hh _ (killfix_ref hx)]
    · rename_i o n i0 j0
      have hho := hh _ (killfix_ptr hx)
      rcases i0 with _ | i0 <;> rcases j0 with _ | j0 <;> simp only [hho]
  case extract x i => rw [he x (by simp)]
  case makeFunc fn first caps =>
    cases fn <;> simp only []
    have hc : caps.toList.map e = caps.toList.map e' := List.map_congr_left fun x hx => he x (by simp; exact .inr (by simpa using hx))
    rw [hc]
  case nilCheck x =>
    rw [← he x (by simp)]
    have hx := hk x (by simp)
    generalize e x = v at hx
    cases v <;> simp only []
    rw [hh _ (killfix_ptr hx)]
  case call c => exact acall_congr c he hh hk
  case makeSlice t l c => rw [he l (by simp), he c (by simp)]
end

/-! ### Values without the names of K -/
inductive PureV : V → Prop
  | int (k : IntKind) (n : Int) : PureV (.int k n)
  | bool (b : Bool) : PureV (.bool b)
  | str (s : ByteArray) : PureV (.str s)
  | nil : PureV .nil
  | raw (v : Value) : PureV (.raw v)
  | sl (rows : List (List V)) (h : ∀ row ∈ rows, ∀ x ∈ row, PureV x) : PureV (.sl rows)

theorem PureV.rows {rows : List (List V)} (h : PureV (.sl rows)) : ∀ row ∈ rows, ∀ x ∈ row, PureV x := by cases h; assumption

theorem pureV_of_relP {w : World} {A : Nat → Prop} {x : V} {v : Value} (h : RelP w A x v) : PureV x := by
  induction h with
  | int k n => exact .int k n
  | bool b => exact .bool b
  | str s => exact .str s
  | nil => exact .nil
  | slnil _ => exact .sl [] (fun r hr => by simp at hr)
  | raw v h1 => exact .raw v
  | sl rows b off cap es f hcap hb hes hc hr ih =>
    refine .sl rows fun row hrow x hx => ?_
    obtain ⟨i, hi⟩ := List.getElem?_of_mem hrow
    obtain ⟨j, hj⟩ := List.getElem?_of_mem hx
    exact ih i row hi j x hj

def okC (K : Nat → Bool) : V → Prop
  | .rd rows => ∀ row ∈ rows, ∀ x ∈ row, PureV x
  | .cp row _ => ∀ x ∈ row, PureV x
  | .ref o _ => K o = false
  | .ptr o _ _ _ => K o = false
  | .dead => True
  | x => PureV x

def okA (K : Nat → Bool) : V → Prop
  | .agg cs => ∀ x ∈ cs, PureV x
  | .aggi cs => ∀ x ∈ cs, okC K x
  | x => okC K x

def okV (K : Nat → Bool) : V → Prop
  | .tup vs => ∀ x ∈ vs, okA K x
  | .fn _ cs => ∀ x ∈ cs, okC K x
  | x => okA K x

def okOb (K : Nat → Bool) (ob : Ob) : Prop := ∀ row ∈ ob.rows, ∀ x ∈ row, okC K x ∧ (ob.imp = false → PureV x)

structure okS (K : Nat → Bool) (s : St) : Prop where
  t : ∀ i, okV K (s.t i)
  h : ∀ o ob, s.h o = some ob → okOb K ob
  n : ∀ o, K o = true → s.h o = none

theorem okC_pure {K : Nat → Bool} {x : V} (h : PureV x) : okC K x := by cases h <;> first | exact .int _ _ | exact .bool _ | exact .str _ | exact .nil | exact .raw _ | exact .sl _ ‹_›
theorem okV_pure {K : Nat → Bool} {x : V} (h : PureV x) : okV K x := by cases h <;> first | exact .int _ _ | exact .bool _ | exact .str _ | exact .nil | exact .raw _ | exact .sl _ ‹_›
theorem okV_of_okC {K : Nat → Bool} {x : V} (h : okC K x) : okV K x := by
  cases x <;> first | exact h | (cases h; done)
theorem okV_of_okA {K : Nat → Bool} {x : V} (h : okA K x) : okV K x := by
  cases x <;> first | exact h | (cases h; done)

theorem nK {K K' : Nat → Bool} (hK : ∀ p, K' p = true → K p = true) {o : Nat} (ho : K o = false) : K' o = false := by
  cases hk : K' o with
  | false => rfl
  | true => rw [hK o hk] at ho; cases ho

theorem okC_mono {K K' : Nat → Bool} (hK : ∀ p, K' p = true → K p = true) {x : V} (h : okC K x) : okC K' x := by
  have f : ∀ o, K o = false → K' o = false := fun o ho => by
    cases hk : K' o with
    | false => rfl
    | true => rw [hK o hk] at ho; cases ho
  cases x <;> first | exact h | exact f _ h
theorem okA_mono {K K' : Nat → Bool} (hK : ∀ p, K' p = true → K p = true) {x : V} (h : okA K x) : okA K' x := by
  cases x <;> first | exact h | exact okC_mono hK h | exact fun x hx => okC_mono hK (h x hx) | exact nK hK h
theorem okV_mono {K K' : Nat → Bool} (hK : ∀ p, K' p = true → K p = true) {x : V} (h : okV K x) : okV K' x := by
  cases x <;> first | exact h | exact fun x hx => okA_mono hK (h x hx) | exact fun x hx => okC_mono hK (h x hx) | exact nK hK h
theorem okS.mono {K K' : Nat → Bool} (hK : ∀ p, K' p = true → K p = true) {s : St} (h : okS K s) : okS K' s :=
  ⟨fun i => okV_mono hK (h.t i), fun o ob ho row hr x hx => ⟨okC_mono hK (h.h o ob ho row hr x hx).1, (h.h o ob ho row hr x hx).2⟩, fun o ho => h.n o (hK o ho)⟩

theorem okC_kill1 {K : Nat → Bool} {x : V} (h : okC K x) : x.kill1 K = x := by
  cases x <;> try rfl
  · have h' : K _ = false := h
    simp [V.kill1, h']
  · have h' : K _ = false := h
    simp [V.kill1, h']
theorem okA_kill {K : Nat → Bool} {x : V} (h : okA K x) : x.killA K = x := by
  cases x with
  | aggi cs =>
    simp only [V.killA]
    congr 1
    exact (List.map_congr_left (fun x hx => okC_kill1 (h x hx))).trans (List.map_id _)
  | ref o n => have h' : K _ = false := h; simp [V.killA, V.kill1, h']
  | ptr o n i j => have h' : K _ = false := h; simp [V.killA, V.kill1, h']
  | _ => rfl
theorem okV_kill {K : Nat → Bool} {x : V} (h : okV K x) : x.kill K = x := by
  cases x with
  | tup vs =>
    simp only [V.kill]
    congr 1
    exact (List.map_congr_left (fun x hx => okA_kill (h x hx))).trans (List.map_id _)
  | fn f cs =>
    simp only [V.kill]
    have : cs.any (V.names K) = false := by
      rw [List.any_eq_false]
      intro x hx
      have h' := h x hx
      cases x <;> simp only [V.names] <;> first | (intro e; cases e; done) | (have h2 : K _ = false := h'; simp [h2])
    simp [this]
  | aggi cs =>
    simp only [V.kill, V.killA]
    congr 1
    exact (List.map_congr_left (fun x hx => okC_kill1 (h x hx))).trans (List.map_id _)
  | ref o n => have h' : K _ = false := h; simp [V.kill, V.killA, V.kill1, h']
  | ptr o n i j => have h' : K _ = false := h; simp [V.kill, V.killA, V.kill1, h']
  | _ => rfl
theorem okOb_kill {K : Nat → Bool} {ob : Ob} (h : okOb K ob) : ob.kill K = ob := by
  unfold Ob.kill
  split
  · have : ob.rows.map (·.map (V.kill1 K)) = ob.rows := by
      refine (List.map_congr_left (fun r hr => ?_)).trans (List.map_id _)
      exact (List.map_congr_left (fun x hx => okC_kill1 (h r hr x hx).1)).trans (List.map_id _)
    rw [this]
  · rfl

/-! From the relation -/
theorem okC_of_rel {E : Env} {K : Nat → Bool} {x : V} {v : Value} (h : Rel1 E x v) : okC K (x.kill1 K) := by
  have sl : ∀ (X : Nat → Prop) (rows : List (List V)), SlAt E.w E.A X rows v → ∀ row ∈ rows, ∀ x ∈ row, PureV x := by
    intro X rows hs row hrow x hx
    rcases hs with ⟨_, rfl⟩ | ⟨b, off, cap, es, f, hv, hcap, hb, hes, hc, hr⟩
    · simp at hrow
    · obtain ⟨i, hi⟩ := List.getElem?_of_mem hrow
      obtain ⟨j, hj⟩ := List.getElem?_of_mem hx
      exact pureV_of_relP (hr i row hi j x hj)
  cases x with
  | rd rows => exact sl _ _ h
  | ref o n =>
    by_cases hk : K o = true
    · simp [V.kill1, hk, okC]
    · simp [V.kill1, hk, okC]
  | ptr o n i j =>
    by_cases hk : K o = true
    · simp [V.kill1, hk, okC]
    · simp [V.kill1, hk, okC]
  | cp row j =>
    obtain ⟨b, off, f, _, _, _, _, hr⟩ := h
    intro x hx
    obtain ⟨j, hj⟩ := List.getElem?_of_mem hx
    exact pureV_of_relP (hr j x hj)
  | dead => trivial
  | int k n => exact .int k n
  | bool b => exact .bool b
  | str s => exact .str s
  | nil => exact .nil
  | raw v => exact .raw v
  | sl rows => exact pureV_of_relP h
  | agg cs => cases h
  | aggi cs => cases h
  | tup cs => cases h
  | fn f cs => cases h

theorem okA_of_rel {E : Env} {K : Nat → Bool} {x : V} {v : Value} (h : RelA E x v) : okA K (x.killA K) := by
  cases x with
  | agg cs =>
    obtain ⟨vs, _, _, hc⟩ := h
    intro x hx
    obtain ⟨j, hj⟩ := List.getElem?_of_mem hx
    obtain ⟨u, _, h2⟩ := hc j x hj
    exact pureV_of_relP h2
  | aggi cs =>
    obtain ⟨vs, _, _, hc⟩ := h
    intro x hx
    obtain ⟨y, hy, rfl⟩ := List.mem_map.1 hx
    obtain ⟨j, hj⟩ := List.getElem?_of_mem hy
    obtain ⟨u, _, _, h2⟩ := hc j y hj
    exact okC_of_rel h2
  | ref o n =>
    have := okC_of_rel (K := K) (x := .ref o n) h
    simp only [V.killA, V.kill1] at this ⊢
    by_cases hk : K o = true
    · simp [hk, okA, okC]
    · simp [hk, okA, okC]
  | ptr o n i j =>
    by_cases hk : K o = true
    · simp [V.killA, V.kill1, hk, okA, okC]
    · simp [V.killA, V.kill1, hk, okA, okC]
  | rd rows => exact okC_of_rel (K := K) (x := .rd rows) h
  | cp row j => exact okC_of_rel (K := K) (x := .cp row j) h
  | dead => trivial
  | int k n => exact .int k n
  | bool b => exact .bool b
  | str s => exact .str s
  | nil => exact .nil
  | raw v => exact .raw v
  | sl rows => exact pureV_of_relP h
  | tup cs => cases h
  | fn f cs => cases h

theorem okV_of_rel {E : Env} {K : Nat → Bool} {x : V} {v : Value} (h : Rel E x v) : okV K (x.kill K) := by
  cases x with
  | tup cs =>
    obtain ⟨vs, _, _, hc⟩ := h
    intro x hx
    obtain ⟨y, hy, rfl⟩ := List.mem_map.1 hx
    obtain ⟨j, hj⟩ := List.getElem?_of_mem hy
    obtain ⟨u, _, h2⟩ := hc j y hj
    exact okA_of_rel h2
  | fn f cs =>
    obtain ⟨vs, _, _, hc⟩ := h
    simp only [V.kill]
    split
    · trivial
    · rename_i hany
      intro x hx
      obtain ⟨j, hj⟩ := List.getElem?_of_mem hx
      obtain ⟨u, _, h2⟩ := hc j x hj
      have h3 := okC_of_rel (K := K) h2
      simp only [List.any_eq_true, not_exists, not_and] at hany
      have h5 := hany x hx
      cases x <;> simp only [V.names, V.kill1] at h3 h5 <;> first | exact h3 | (simp [h5] at h3; exact h3) | (simpa [okC] using h5)
  | agg cs => exact okA_of_rel (K := K) (x := .agg cs) h
  | aggi cs => exact okA_of_rel (K := K) (x := .aggi cs) h
  | ref o n =>
    by_cases hk : K o = true
    · simp [V.kill, V.killA, V.kill1, hk, okV, okA, okC]
    · simp [V.kill, V.killA, V.kill1, hk, okV, okA, okC]
  | ptr o n i j =>
    by_cases hk : K o = true
    · simp [V.kill, V.killA, V.kill1, hk, okV, okA, okC]
    · simp [V.kill, V.killA, V.kill1, hk, okV, okA, okC]
  | rd rows => exact okC_of_rel (K := K) (x := .rd rows) h
  | cp row j => exact okC_of_rel (K := K) (x := .cp row j) h
  | dead => trivial
  | int k n => exact .int k n
  | bool b => exact .bool b
  | str s => exact .str s
  | nil => exact .nil
  | raw v => exact .raw v
  | sl rows => exact pureV_of_relP h

end Go.AL
