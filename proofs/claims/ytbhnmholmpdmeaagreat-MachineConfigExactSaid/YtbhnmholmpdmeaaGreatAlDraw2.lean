/-
  THE ABSTRACT LAYER, THIRTEENTH PART: what operations yield bears no name that was not there. By an AI agent.
-/
import Derived.Test.YtbhnmholmpdmeaaGreatAlDraw
namespace Go.AL
set_option linter.unusedVariables false
set_option linter.unusedSimpArgs false
set_option linter.unusedSectionVars false

def okR (K : Nat → Bool) : AR → Prop
  | .val p v => p → okV K v
  | .new p ob _ => p → okOb K ob
  | .upd p _ ob => p → okOb K ob
  | .app p _ ob => p → okOb K ob
  | _ => True

section
variable {P : Program} {K : Nat → Bool} {e : Operand → V} {h : Nat → Option Ob}

theorem okV_cells {x : V} {h : Nat → Option Ob} (hx : okV K x) (hs : x.stor h) : ∀ y ∈ x.cells, okC K y ∧ (x.pure = true → PureV y) := by
  cases x with
  | agg cs => exact fun y hy => ⟨okC_pure (hx y hy), fun _ => hx y hy⟩
  | aggi cs => exact fun y hy => ⟨hx y hy, fun h => by cases h⟩
  | tup vs => exact hs.elim
  | fn f cs => exact hs.elim
  | cp row j => exact hs.elim
  | dead => exact hs.elim
  | rd rows => intro y hy; simp [V.cells] at hy; subst hy; exact ⟨hx, fun h => by cases h⟩
  | ref o n => intro y hy; simp [V.cells] at hy; subst hy; exact ⟨hx, fun h => by cases h⟩
  | ptr o n i j => intro y hy; simp [V.cells] at hy; subst hy; exact ⟨hx, fun h => by cases h⟩
  | int k n => intro y hy; simp [V.cells] at hy; subst hy; exact ⟨hx, fun _ => hx⟩
  | bool b => intro y hy; simp [V.cells] at hy; subst hy; exact ⟨hx, fun _ => hx⟩
  | str s => intro y hy; simp [V.cells] at hy; subst hy; exact ⟨hx, fun _ => hx⟩
  | nil => intro y hy; simp [V.cells] at hy; subst hy; exact ⟨hx, fun _ => hx⟩
  | raw v => intro y hy; simp [V.cells] at hy; subst hy; exact ⟨hx, fun _ => hx⟩
  | sl rows => intro y hy; simp [V.cells] at hy; subst hy; exact ⟨hx, fun _ => hx⟩

theorem pure_ofCell (v : Value) (hv : v.oneCell' = true) : PureV (.ofCell v) := by
  unfold V.ofCell
  split <;> first | exact .int _ _ | exact .bool _ | exact .str _ | exact .nil | (rw [if_pos hv]; exact .raw _)

theorem zeroCs_pure {t : TypeId} {z : List V} (hz : zeroCs P t = some z) : ∀ x ∈ z, PureV x := by
  unfold zeroCs at hz
  split at hz <;> try (cases hz; done)
  split at hz <;> try (cases hz; done)
  rename_i v _ hc
  cases hz
  intro x hx
  obtain ⟨u, hu, rfl⟩ := List.mem_map.1 hx
  simp only [Bool.and_eq_true] at hc
  exact pure_ofCell u (List.all_eq_true.1 hc.1 u hu)

theorem mem_cutRows {α : Type} {es : Nat} : ∀ {m : Nat} {z : List α} {row : List α} {x : α}, row ∈ cutRows es m z → x ∈ row → x ∈ z
  | 0, z, row, x, h, hx => by simp [cutRows] at h
  | m + 1, z, row, x, h, hx => by
    simp only [cutRows, List.mem_cons] at h
    rcases h with rfl | h
    · exact List.mem_of_mem_take hx
    · exact List.mem_of_mem_drop (mem_cutRows h hx)

theorem putAt_all {p : V → Prop} {row cs : List V} {j : Nat} (h1 : ∀ x ∈ row, p x) (h2 : ∀ x ∈ cs, p x) : ∀ x ∈ putAt row j cs, p x := by
  intro x hx
  simp only [putAt, List.mem_append] at hx
  rcases hx with (hx | hx) | hx
  · exact h1 x (List.mem_of_mem_take hx)
  · exact h2 x hx
  · exact h1 x (List.mem_of_mem_drop hx)

theorem fillC_all {p : V → Prop} {place : Nat → Option (Nat × Nat)} : ∀ (parts : List (Nat × V)) (cs cs' : List V), (∀ x ∈ cs, p x) → (∀ q ∈ parts, ∀ x ∈ q.2.cells, p x) → fillC place cs parts = some cs' → ∀ x ∈ cs', p x
  | [], cs, cs', h1, _, h => by simp [fillC] at h; subst h; exact h1
  | (i, v) :: parts, cs, cs', h1, h2, h => by
    simp only [fillC] at h
    split at h
    · cases h
    split at h <;> try (cases h; done)
    exact fillC_all parts _ cs' (putAt_all h1 (h2 (i, v) (by simp))) (fun q hq => h2 q (by simp [hq])) h

theorem ok_loadR {t : TypeId} {p : Prop} {imp : Bool} {row : List V} {j : Nat} (hrow : ∀ x ∈ row, okC K x ∧ (imp = false → PureV x)) : okR K (loadR P t p imp row j) := by
  unfold loadR
  split
  · cases imp with
    | false => exact fun _ x hx => (hrow x (List.mem_of_mem_drop (List.mem_of_mem_take hx))).2 rfl
    | true => exact fun _ x hx => (hrow x (List.mem_of_mem_drop (List.mem_of_mem_take hx))).1
  · split
    · split
      · rename_i x hx
        split
        · exact fun _ => okV_of_okC (hrow x (List.mem_of_getElem? hx)).1
        · trivial
      · trivial
    · trivial

theorem rowsOf_pure (hh : ∀ p ob, h p = some ob → okOb K ob) {y : V} (hy : okV K y) {rows : List (List V)} (hr : rowsOf h y = some rows) : ∀ row ∈ rows, ∀ x ∈ row, PureV x := by
  unfold rowsOf at hr
  split at hr <;> try (cases hr; done)
  · cases hr; intro r hr; simp at hr
  · cases hr; exact PureV.rows hy
  · cases hr; exact hy
  · cases hr; intro r hr; simp at hr
  · split at hr <;> try (cases hr; done)
    rename_i ob ho
    split at hr <;> try (cases hr; done)
    rename_i hc
    cases hr
    exact fun row hrow x hx => (hh _ ob ho row hrow x hx).2 hc.2

theorem ok_binV {op : BinOp} {t : TypeId} {x y : V} {p : Prop} {v : V} (hb : binV P op t x y = some (p, v)) : PureV v := by
  unfold binV at hb
  split at hb
  · split at hb
    · cases op <;> simp only [shiftV] at hb <;> (try (cases hb; done)) <;> (simp only [Option.some.injEq, Prod.mk.injEq] at hb; rw [← hb.2]; exact .int _ _)
    · split at hb <;> try (cases hb; done)
      cases op <;> simp only [intV] at hb <;> (try (cases hb; done)) <;> (simp only [Option.some.injEq, Prod.mk.injEq] at hb; rw [← hb.2]; first | exact .int _ _ | exact .bool _)
  · split at hb <;> (try (cases hb; done)) <;> (simp only [Option.some.injEq, Prod.mk.injEq] at hb; rw [← hb.2]; exact .bool _)
  · split at hb <;> try (cases hb; done)
    all_goals
      simp at hb
      rcases hb with ⟨_, _, rfl⟩ | ⟨_, _, rfl⟩ <;> exact .bool _
  · unfold nilV at hb
    split at hb <;> (try (cases hb; done)) <;> (simp only [Option.some.injEq, Prod.mk.injEq] at hb; rw [← hb.2]; exact .bool _)
  · unfold nilV at hb
    split at hb <;> (try (cases hb; done)) <;> (simp only [Option.some.injEq, Prod.mk.injEq] at hb; rw [← hb.2]; exact .bool _)
  · unfold nilV at hb
    split at hb <;> (try (cases hb; done)) <;> (simp only [Option.some.injEq, Prod.mk.injEq] at hb; rw [← hb.2]; exact .bool _)
  · unfold nilV at hb
    split at hb <;> (try (cases hb; done)) <;> (simp only [Option.some.injEq, Prod.mk.injEq] at hb; rw [← hb.2]; exact .bool _)
  · cases hb


theorem ok_parts {parts : List (Nat × V)} (hk : ∀ q ∈ parts, okV K q.2) (hs : ∀ q ∈ parts, q.2.stor h) : ∀ q ∈ parts, ∀ x ∈ q.2.cells, okC K x ∧ ((!(parts.all (·.2.pure))) = false → PureV x) := by
  intro q hq x hx
  obtain ⟨h1, h2⟩ := okV_cells (hk q hq) (hs q hq) x hx
  refine ⟨h1, fun hp => h2 ?_⟩
  simp only [Bool.not_eq_false', List.all_eq_true] at hp
  exact hp q hq

theorem ok_mkAgg {imp : Bool} {cs : List V} (hc : ∀ x ∈ cs, okC K x ∧ (imp = false → PureV x)) : okV K (mkAgg imp cs) := by
  cases imp with
  | false => exact fun x hx => (hc x hx).2 rfl
  | true => exact fun x hx => (hc x hx).1

theorem aop_ok (o : Oper) (he : ∀ x ∈ o.op.operands.toList, okV K (e x)) (hh : ∀ p ob, h p = some ob → okOb K ob) : okR K (aop P o e h) := by
  obtain ⟨dst, op, ty, pos, after, guard⟩ := o
  unfold aop
  simp only at he ⊢
  cases op <;> simp only [Op.operands] at he <;> (try dsimp only) <;> try trivial
  case move x => exact fun _ => he x (by simp)
  case assign x => exact fun _ => he x (by simp)
  case pick c a b =>
    split
    · rename_i t ht
      intro _
      cases t
      · exact he b (by simp)
      · exact he a (by simp)
    · trivial
  case alloc t =>
    unfold aalloc
    split
    · rename_i z hz
      split
      · split
        · intro _ row hrow x hx
          have := zeroCs_pure hz x (mem_cutRows hrow hx)
          exact ⟨okC_pure this, fun _ => this⟩
        · trivial
      intro _ row hrow x hx
      simp at hrow
      subst hrow
      have := zeroCs_pure hz x hx
      exact ⟨okC_pure this, fun _ => this⟩
    · trivial
  case box t x =>
    rintro ⟨hs, _⟩ row hrow y hy
    simp at hrow
    subst hrow
    obtain ⟨h1, h2⟩ := okV_cells (he x (by simp)) hs y hy
    exact ⟨h1, fun hp => h2 (by simpa using hp)⟩
  case build t parts =>
    unfold abuild
    split
    · split
      · rename_i z hz
        split
        · rename_i cs hcs
          intro hs
          refine ok_mkAgg ?_
          refine fillC_all (p := fun x => okC K x ∧ ((!((parts.toList.map fun q => (q.1, e q.2)).all (·.2.pure))) = false → PureV x)) _ z cs (fun x hx => ⟨okC_pure (zeroCs_pure hz x hx), fun _ => zeroCs_pure hz x hx⟩) ?_ hcs
          exact ok_parts (h := h) (fun q hq => by
            obtain ⟨r, hr, rfl⟩ := List.mem_map.1 hq
            exact he r.2 (by simp; exact ⟨r.1, by simpa using hr⟩)) hs
        · trivial
      · trivial
    · trivial
  case buildSlice t len parts =>
    unfold abuildSlice
    split
    · split
      · intro hs row hrow x hx
        obtain ⟨q, hq, rfl⟩ := List.mem_map.1 hrow
        exact ok_parts (h := h) (fun q hq => by
            obtain ⟨r, hr, rfl⟩ := List.mem_map.1 hq
            exact he r.2 (by simp; exact ⟨r.1, by simpa using hr⟩)) (fun q hq => (hs q hq).1) q hq x hx
      · trivial
    · trivial
  case load t x =>
    split
    · have hx := he x (by simp)
      unfold aload
      split
      · split
        · rename_i ob ho
          split
          · rename_i row hrow
            exact ok_loadR (hh _ ob ho row (List.mem_of_getElem? hrow))
          · trivial
        · trivial
      · rename_i row j hxe
        rw [hxe] at hx
        exact ok_loadR fun y hy => ⟨okC_pure (hx y hy), fun _ => hx y hy⟩
      · trivial
    · trivial
  case store t x y =>
    split
    · unfold astore
      split
      · split
        · rename_i ob ho
          split
          · rename_i row hrow
            rintro ⟨_, hs, _⟩ r hr z hz
            simp only at hr
            have hy := okV_cells (he y (by simp)) hs
            have hold := hh _ ob ho
            have hpa : ∀ jj, ∀ q ∈ putAt row jj (e y).cells, okC K q ∧ ((ob.imp || !(e y).pure) = false → PureV q) :=
              fun jj => putAt_all (fun q hq => ⟨(hold row (List.mem_of_getElem? hrow) q hq).1, fun hi => (hold row (List.mem_of_getElem? hrow) q hq).2 (by simp at hi; exact hi.1)⟩)
                (fun q hq => ⟨(hy q hq).1, fun hi => (hy q hq).2 (by simp at hi; exact hi.2)⟩)
            rcases List.mem_or_eq_of_mem_set hr with h1 | h1
            · exact ⟨(hold r h1 z hz).1, fun hi => (hold r h1 z hz).2 (by simp at hi; exact hi.1)⟩
            · rw [h1] at hz
              exact hpa _ z hz
          · trivial
        · trivial
      · trivial
    · trivial
  case binOp op t x y yt =>
    split
    · rename_i p v hb
      exact fun _ => okV_pure (ok_binV hb)
    · trivial
  case unOp op t x =>
    cases op <;> dsimp only <;> (try trivial) <;> split <;> first | trivial | exact fun _ => .bool _ | exact fun _ => .int _ _
  case convert s d x =>
    split
    · split
      · exact fun _ => .int _ _
      · trivial
    · trivial
  case slice t x lo hi mx =>
    cases mx with
    | some m => trivial
    | none =>
      dsimp only
      have hx := he x (by simp)
      unfold aslice
      split
      · trivial
      split
      · trivial
      split
      · trivial
      · split
        · rename_i hxe; rw [hxe] at hx; exact fun _ => .sl _ fun r hr => PureV.rows hx r (List.mem_of_mem_take hr)
        · rename_i hxe; rw [hxe] at hx; exact fun _ r hr => hx r (List.mem_of_mem_take hr)
        · exact fun _ => PureV.nil
        · trivial
      · split
        · rename_i hxe; rw [hxe] at hx; exact fun _ => .sl _ fun r hr => PureV.rows hx r (List.mem_of_mem_drop hr)
        · rename_i hxe; rw [hxe] at hx; exact fun _ r hr => hx r (List.mem_of_mem_drop hr)
        · exact fun _ => PureV.nil
        · trivial
      · split
        · rename_i hxe; rw [hxe] at hx; exact fun _ => .sl _ fun r hr => PureV.rows hx r (List.mem_of_mem_take (List.mem_of_mem_drop hr))
        · rename_i hxe; rw [hxe] at hx; exact fun _ r hr => hx r (List.mem_of_mem_take (List.mem_of_mem_drop hr))
        · exact fun _ => PureV.nil
        · trivial
      · trivial
  case fieldAddr t x f =>
    have hx := he x (by simp)
    unfold afieldAddr
    split
    · rename_i hxe
      rw [hxe] at hx
      split
      · split
        · exact fun _ => hx
        · trivial
      · trivial
    · rename_i hxe
      rw [hxe] at hx
      split
      · exact fun _ => hx
      · trivial
    · trivial
  case field t x f =>
    have hx := he x (by simp)
    unfold afield
    split
    · rename_i hxe
      rw [hxe] at hx
      split
      · split
        · exact fun _ y hy => hx y (List.mem_of_mem_drop (List.mem_of_mem_take hy))
        · split
          · split
            · rename_i y hy
              exact fun _ => okV_pure (hx y (List.mem_of_getElem? hy))
            · trivial
          · trivial
      · trivial
    · trivial
  case indexAddr t x i =>
    have hx := he x (by simp)
    split
    · unfold aindexRef
      split
      · split
        · trivial
        · split
          · rename_i hxe
            rw [hxe] at hx
            split
            · exact fun _ => hx
            · trivial
          · trivial
      · trivial
    · unfold aindexArr
      split
      · split
        · trivial
        · split
          · rename_i hxe
            rw [hxe] at hx
            split
            · exact fun _ => hx
            · trivial
          · trivial
      · trivial
    · unfold aindexAddr
      split
      · split
        · trivial
        · split
          · rename_i hxe
            rw [hxe] at hx
            split
            · rename_i row hrow
              exact fun _ y hy => PureV.rows hx row (List.mem_of_getElem? hrow) y hy
            · trivial
          · rename_i hxe
            rw [hxe] at hx
            split
            · rename_i row hrow
              exact fun _ y hy => hx row (List.mem_of_getElem? hrow) y hy
            · trivial
          · trivial
      · trivial
  case extract x i =>
    have hx := he x (by simp)
    split
    · rename_i hxe
      rw [hxe] at hx
      split
      · rename_i v hv
        exact fun _ => okV_of_okA (hx v (List.mem_of_getElem? hv))
      · trivial
    · trivial
  case makeFunc fn first caps =>
    cases fn <;> dsimp only <;> try trivial
    split
    · rename_i hc
      intro _ x hx
      obtain ⟨y, hy, rfl⟩ := List.mem_map.1 hx
      have h1 := he y (by simp; exact .inr (by simpa using hy))
      have h2 := List.all_eq_true.1 hc.2 (e y) (List.mem_map.2 ⟨y, hy, rfl⟩)
      generalize e y = v at h1 h2
      cases v <;> first | exact h1 | (simp [V.capOK] at h2)
    · trivial
  case nilCheck x =>
    have hx := he x (by simp)
    split
    · rename_i hxe
      rw [hxe] at hx
      exact fun _ => hx
    · trivial
  case makeSlice t l c =>
    unfold amake
    split
    · split
      · rename_i z hz
        split
        · intro _ row hrow x hx
          rw [(List.mem_replicate.1 hrow).2] at hx
          exact ⟨okC_pure (zeroCs_pure hz x hx), fun _ => zeroCs_pure hz x hx⟩
        · trivial
      · trivial
    · trivial
  case call c =>
    obtain ⟨callee, args, argTypes⟩ := c
    have hargs : ∀ x ∈ args.toList, okV K (e x) := fun x hx => he x (by simp [Call.operands]; exact .inr (by simpa using hx))
    unfold acall
    dsimp only
    cases callee with
    | value f =>
      dsimp only
      split
      · split <;> trivial
      · trivial
    | invoke r m => trivial
    | builtin b =>
      cases b <;> dsimp only <;> try trivial
      case append =>
        split
        · rename_i x y t t' hl ht
          split
          · unfold aappend
            split
            · rename_i e2 new he2 hrows
              have hnew := rowsOf_pure hh (hargs y (by simp [hl])) hrows
              split
              · trivial
              · split
                · exact fun _ row hrow z hz => ⟨okC_pure (hnew row hrow z hz), fun _ => hnew row hrow z hz⟩
                · split
                  · rename_i ob ho
                    intro _ row hrow z hz
                    rcases List.mem_append.1 hrow with h1 | h1
                    · exact hh _ ob ho row h1 z hz
                    · exact ⟨okC_pure (hnew row h1 z hz), fun _ => hnew row h1 z hz⟩
                  · trivial
                · trivial
            · trivial
          · trivial
        · trivial
      case len =>
        split
        · split
          · exact fun _ => .int _ _
          · split
            · exact fun _ => .int _ _
            · trivial
        · trivial
      case max =>
        split
        · rename_i v hv
          intro _
          unfold amax at hv
          split at hv <;> try (cases hv; done)
          split at hv <;> try (cases hv; done)
          cases hv
          exact .int _ _
        · trivial
      case min =>
        split
        · rename_i v hv
          intro _
          unfold amin at hv
          split at hv <;> try (cases hv; done)
          split at hv <;> try (cases hv; done)
          cases hv
          exact .int _ _
        · trivial

end
end Go.AL
