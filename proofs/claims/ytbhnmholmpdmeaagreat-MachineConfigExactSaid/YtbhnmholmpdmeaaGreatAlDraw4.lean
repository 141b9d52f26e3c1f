/-
  THE ABSTRACT LAYER, FIFTEENTH PART: two operations of a drawn region in either order. By an AI agent.
-/
import Derived.Test.YtbhnmholmpdmeaaGreatAlDraw3
namespace Go.AL
set_option linter.unusedVariables false
set_option linter.unusedSimpArgs false
set_option linter.unusedSectionVars false

theorem ev_same {s s' : St} {ops : Array Oper} {o : Oper} (h : ∀ i, i ∈ o.looksAt ops → s'.t i = s.t i) : (∀ x ∈ o.op.operands.toList, s'.ev x = s.ev x) ∧ gst ops o s' = gst ops o s := by
  refine ⟨fun x hx => ?_, ?_⟩
  · cases x with
    | tmp i =>
      show (if i < 100000 then s'.t i else .dead) = (if i < 100000 then s.t i else .dead)
      rw [h i ?_]
      unfold Oper.looksAt
      exact List.mem_append_left _ (List.mem_filterMap.2 ⟨.tmp i, hx, rfl⟩)
    | _ => rfl
  · unfold gst
    cases hg : o.guard with
    | none => rfl
    | some jw =>
      obtain ⟨j, want⟩ := jw
      simp only
      cases hd : (ops[j]?).bind (·.dst) with
      | none => rfl
      | some d =>
        have : s'.t d = s.t d := by
          refine h d ?_
          unfold Oper.looksAt
          refine List.mem_append_right _ ?_
          rw [hg]
          simp [hd]
        simp only [this]

theorem okV_ofCell {K : Nat → Bool} (v : Value) : okV K (V.ofCell v) := by
  by_cases h1 : v.oneCell' = true
  · exact okV_pure (pure_ofCell v h1)
  · cases v <;> simp_all [Value.oneCell', V.ofCell, okV, okA, okC]

theorem okV_ev {K : Nat → Bool} {s : St} (hs : okS K s) (x : Operand) : okV K (s.ev x) := by
  cases x with
  | tmp i =>
    show okV K (if i < 100000 then s.t i else .dead)
    split
    · exact hs.t i
    · trivial
  | const v =>
    show okV K (V.ofVal v)
    unfold V.ofVal
    split
    · rename_i cs
      split
      · rename_i hall
        intro x hx
        obtain ⟨u, hu, rfl⟩ := List.mem_map.1 hx
        exact pure_ofCell u (List.all_eq_true.1 hall u hu)
      · trivial
    · exact okV_ofCell _
  | func f => intro x hx; simp at hx
  | global g => trivial

section
variable {P : Program} {n : Nat} {ops : Array Oper} {K : Nat → Bool}

def Light (o : Oper) : Prop := kindOf o.op ≠ .heavy

theorem light_step {oi : Oper} {Φ : St → Prop} {s : St} (hl : Light oi) (hs : okS K s) (hd : ∀ d, oi.dst = some d → K d = true ∧ d < 1000) (h : aStep P n ops oi Φ s) :
    ∃ v obo, (∀ ob, obo = some ob → ∃ d, oi.dst = some d) ∧ Φ (s.eff oi.dst v obo) ∧ okV (minus K oi.dst) v ∧ (∀ ob, obo = some ob → okOb K ob) ∧
      ∀ (Ψ : St → Prop) (s2 : St) (N K2 : Nat → Bool), okS K2 s2 → (∀ d, oi.dst = some d → K2 d = true) → (∀ p, K2 p = true → K p = true) → (∀ i, i ∈ oi.looksAt ops → s2.t i = s.t i) →
        (kindOf oi.op = .plain ∨ kindOf oi.op = .alloc ∨ ((∀ x ∈ oi.op.operands.toList, okV N (s.ev x)) ∧ ∀ p, N p = false → s2.h p = s.h p)) → Ψ (s2.eff oi.dst v obo) → aStep P n ops oi Ψ s2 := by
  rcases aStep_iff h with ⟨hr, hback⟩ | ⟨hr, hback⟩
  · obtain ⟨hdo, hm⟩ := hr
    have hop : ∀ x ∈ oi.op.operands.toList, okV K (s.ev x) := fun x _ => okV_ev hs x
    have hok := aop_ok (P := P) (K := K) (e := s.ev) (h := s.h) oi hop hs.h
    -- the same yield elsewhere
    have same : ∀ (s2 : St) (N : Nat → Bool), (∀ i, i ∈ oi.looksAt ops → s2.t i = s.t i) → (kindOf oi.op = .plain ∨ kindOf oi.op = .alloc ∨ ((∀ x ∈ oi.op.operands.toList, okV N (s.ev x)) ∧ ∀ p, N p = false → s2.h p = s.h p)) →
        aop P oi s2.ev s2.h = aop P oi s.ev s.h := by
      intro s2 N ht hh
      obtain ⟨he, _⟩ := ev_same (ops := ops) ht
      rcases hh with hh | hh | ⟨hN, hh⟩
      · exact kind_free (.inl hh) he
      · exact kind_free (.inr hh) he
      · exact (aop_congr (K := N) oi (fun x hx => (he x hx).symm) (fun p hp => (hh p hp).symm) (fun x hx => okV_kill (hN x hx))).symm
    have hkind : (kindOf oi.op = .plain ∨ kindOf oi.op = .look) ∨ (kindOf oi.op = .alloc ∨ kindOf oi.op = .box) := by
      cases hk : kindOf oi.op <;> simp_all [Light]
    rcases hkind with hk | hk
    · rcases kind_val (P := P) (e := s.ev) (h := s.h) hk with ⟨p, v, ha⟩ | ha
      · rw [ha] at hm hok
        refine ⟨v, none, (fun ob h => by cases h), by rw [eff_none]; exact hm.2, okV_mono minus_le (hok hm.1), (fun ob h => by cases h), fun Ψ s2 N K2 hs2 hd2 hK2 ht hh hψ => ?_⟩
        refine hback Ψ s2 (ev_same ht).2 ⟨hdo, ?_⟩
        rw [same s2 N ht hh, ha]
        exact ⟨hm.1, by rw [← eff_none]; exact hψ⟩
      · rw [ha] at hm; exact hm.elim
    · rcases kind_new (P := P) (e := s.ev) (h := s.h) hk with ⟨p, ob, r, ha⟩ | ha
      · rw [ha] at hm hok
        simp only at hm
        cases hdd : oi.dst with
        | none => rw [hdd] at hm; exact hm.elim
        | some d =>
          rw [hdd] at hm
          obtain ⟨hKd, hd1⟩ := hd d hdd
          have hob := hok hm.1
          rcases hm with ⟨hm1, hm | ⟨hr1, himp, hm⟩⟩
          rotate_left
          · refine ⟨.sl ob.rows, none, (fun ob h => by cases h), by rw [eff_none, ← hs.newP_put hKd]; exact hm, okV_pure (hob.sl himp), (fun ob h => by cases h), fun Ψ s2 N K2 hs2 hd2 hK2 ht hh hψ => ?_⟩
            refine hback Ψ s2 (ev_same ht).2 ⟨hdo, ?_⟩
            rw [same s2 N ht hh, ha]
            simp only
            rw [hdd]
            refine ⟨hm1, .inr ⟨hr1, himp, ?_⟩⟩
            rw [hs2.newP_put (hd2 d rfl), ← eff_none]
            exact hψ
          refine ⟨(if r then .ref d ob.rows.length else .ptr d ob.rows.length 0 0), some ob, fun _ _ => ⟨d, rfl⟩, ?_, ?_, (fun ob' h => by cases h; exact hob), fun Ψ s2 N K2 hs2 hd2 hK2 ht hh hψ => ?_⟩
          · rw [← hs.new_eff hKd hob]; exact hm
          · have : minus K (some d) d = false := by simp [minus, Nat.mod_eq_of_lt hd1]
            cases r <;> exact this
          · refine hback Ψ s2 (ev_same ht).2 ⟨hdo, ?_⟩
            rw [same s2 N ht hh, ha]
            simp only
            rw [hdd]
            refine ⟨hm1, .inl ?_⟩
            rw [hs2.new_eff (hd2 d rfl) (fun row hr x hx => ⟨okC_mono hK2 (hob row hr x hx).1, (hob row hr x hx).2⟩)]
            exact hψ
      · rw [ha] at hm; exact hm.elim
  · refine ⟨.tup [], none, (fun ob h => by cases h), by rw [eff_none]; exact hr.2, (fun x hx => by simp at hx), (fun ob h => by cases h), fun Ψ s2 N K2 hs2 hd2 hK2 ht hh hψ => ?_⟩
    exact hback Ψ s2 (ev_same ht).2 ⟨hr.1, by rw [← eff_none]; exact hψ⟩

theorem capsOK_congr {h h' : Nat → Option Ob} (hh : ∀ p, K p = false → h p = h' p) : ∀ {xs ys : List V}, (∀ x ∈ xs, okC K x) → capsOK h xs ys → capsOK h' xs ys
  | [], [], _, _ => trivial
  | x :: xs, y :: ys, hx, ha => by
    refine ⟨?_, capsOK_congr hh (fun z hz => hx z (List.mem_cons_of_mem _ hz)) ha.2⟩
    have h1 := ha.1
    unfold capOK1 at h1
    split at h1
    · have e := hh _ (show K _ = false from hx _ (List.mem_cons_self ..))
      rw [e] at h1; exact h1
    · exact h1
    · obtain ⟨rfl, hp, hna⟩ := h1
      cases y <;> first | exact ⟨rfl, hp, hna⟩ | (simp [V.pure] at hp; done)
  | [], _ :: _, _, ha => ha.elim
  | _ :: _, [], _, ha => ha.elim

theorem argOK_congr {h h' : Nat → Option Ob} (hh : ∀ p, K p = false → h p = h' p) {x y : V} (hx : okV K x) (ha : argOK h x y) : argOK h' x y := by
  unfold argOK at ha
  split at ha
  · have e := hh _ (show K _ = false from hx)
    rw [e] at ha; exact ha
  · exact ha
  · exact ha
  · exact ha
  · exact ha
  · exact ha
  · have e := hh _ (show K _ = false from hx)
    rw [e] at ha; exact ha
  · exact ha
  · exact ⟨ha.1, capsOK_congr hh hx ha.2⟩
  · obtain ⟨rfl, hp⟩ := ha
    cases y <;> first | exact ⟨rfl, hp⟩ | exact .inl rfl | (simp [V.pure] at hp; done)

theorem argsOK_congr {h h' : Nat → Option Ob} (hh : ∀ p, K p = false → h p = h' p) : ∀ {xs ys : List V}, (∀ x ∈ xs, okV K x) → argsOK h xs ys → argsOK h' xs ys
  | [], [], _, _ => trivial
  | x :: xs, y :: ys, hx, ha => ⟨argOK_congr hh (hx x (by simp)) ha.1, argsOK_congr hh (fun z hz => hx z (by simp [hz])) ha.2⟩
  | [], _ :: _, _, ha => ha.elim
  | _ :: _, [], _, ha => ha.elim


theorem okOb_minus {dst : Option Nat} {ob : Ob} (h : okOb K ob) : okOb (minus K dst) ob := fun row hr x hx => ⟨okC_mono minus_le (h row hr x hx).1, (h row hr x hx).2⟩

theorem eff_t {s : St} {dst : Option Nat} {v : V} {obo : Option Ob} {i : Nat} (h : dst ≠ some i) : (s.eff dst v obo).t i = s.t i := by
  cases dst with
  | none => cases obo <;> rfl
  | some d =>
    have : ¬ i = d := fun e => h (by rw [e])
    cases obo <;> simp [St.eff, St.put, this]

theorem eff_h {s : St} {dst : Option Nat} {v : V} {obo : Option Ob} {p : Nat} (h : dst ≠ some p) : (s.eff dst v obo).h p = s.h p := by
  cases dst with
  | none => cases obo <;> rfl
  | some d =>
    have : ¬ p = d := fun e => h (by rw [e])
    cases obo <;> simp [St.eff, St.put, this]

theorem eff_put {s : St} {di : Option Nat} {v : V} {obo : Option Ob} {dj : Option Nat} {u : V} (hne : ∀ d, di = some d → dj ≠ some d) : (s.eff di v obo).put dj u = (s.put dj u).eff di v obo := by
  cases di with
  | none => cases dj <;> cases obo <;> rfl
  | some d =>
    cases dj with
    | none => cases obo <;> rfl
    | some e =>
      have hde : ¬ d = e := fun h => hne d rfl (by rw [h])
      have key : (fun i => if i = e then u else (if i = d then v else s.t i)) = fun i => if i = d then v else (if i = e then u else s.t i) := by
        funext i
        by_cases h1 : i = e
        · have : ¬ i = d := fun h => hde (by rw [← h, h1])
          rw [if_pos h1, if_neg this, if_pos h1]
        · rw [if_neg h1, if_neg h1]
      cases obo <;> simp only [St.eff, St.put] <;> rw [key]

theorem eff_setOb {s : St} {di : Option Nat} {v : V} {obo : Option Ob} {q : Nat} {ob : Ob} (hne : obo.isSome → di ≠ some q) : (s.eff di v obo).setOb q ob = (s.setOb q ob).eff di v obo := by
  cases di with
  | none => cases obo <;> rfl
  | some d =>
    cases obo with
    | none => rfl
    | some ob' =>
      have hde : ¬ d = q := fun h => hne rfl (by rw [h])
      simp only [St.eff, St.setOb]
      congr 1
      funext p
      simp only [setH]
      by_cases h1 : p = q
      · have : ¬ p = d := fun h => hde (by rw [← h, h1])
        rw [if_pos h1, if_neg this, if_pos h1]
      · rw [if_neg h1, if_neg h1]

theorem eff_new {s : St} {di : Option Nat} {v : V} {obo : Option Ob} {e : Nat} {ob : Ob} {u : V} (hne : ∀ d, di = some d → d ≠ e) (hv : okV (· == e) v) (ho : ∀ o, obo = some o → okOb (· == e) o) :
    (s.eff di v obo).new e ob u = (s.new e ob u).eff di v obo := by
  cases di with
  | none => cases obo <;> rfl
  | some d =>
    have hde := hne d rfl
    have key : (fun i => if i = e then u else (if i = d then v else s.t i).kill (· == e)) = fun i => if i = d then v else (if i = e then u else (s.t i).kill (· == e)) := by
      funext i
      by_cases h1 : i = e
      · have : ¬ i = d := fun h => hde (by rw [← h, h1])
        rw [if_pos h1, if_neg this, if_pos h1]
      · rw [if_neg h1, if_neg h1]
        by_cases h2 : i = d
        · rw [if_pos h2, if_pos h2]; exact okV_kill hv
        · rw [if_neg h2, if_neg h2]
    cases obo with
    | none => simp only [St.eff, St.put, St.new]; rw [key]
    | some o =>
      simp only [St.eff, St.new]
      rw [key]
      congr 1
      funext p
      simp only [newH]
      by_cases h1 : p = e
      · have : ¬ p = d := fun h => hde (by rw [← h, h1])
        rw [if_pos h1, if_neg this, if_pos h1]
      · rw [if_neg h1, if_neg h1]
        by_cases h2 : p = d
        · rw [if_pos h2, if_pos h2, Option.map_some, okOb_kill (ho o rfl)]
        · rw [if_neg h2, if_neg h2]

theorem eff_call {s : St} {di : Option Nat} {v : V} {obo : Option Ob} {dj : Option Nat} {rds : List RD} (hne : ∀ d e, di = some d → dj = some e → d ≠ e ∧ d < 1000 ∧ e < 1000) (hv : ∀ e, dj = some e → okV (fun p => p % 1000 == e) v) (ho : ∀ e o, dj = some e → obo = some o → okOb (fun p => p % 1000 == e) o) :
    (s.eff di v obo).call dj rds = (s.call dj rds).eff di v obo := by
  cases dj with
  | none => cases di <;> cases obo <;> rfl
  | some e =>
    cases di with
    | none => cases obo <;> rfl
    | some d =>
      obtain ⟨hde, hd1, he1⟩ := hne d e rfl rfl
      have hK : ∀ p, callK e rds.length p = true → (p % 1000 == e) = true := by
        intro p hp
        obtain ⟨h1, _⟩ := callK_spec hp
        rw [h1]
        simp [Nat.add_mul_mod_self_left, Nat.mod_eq_of_lt he1]
      have hdK : callK e rds.length d = false := by
        cases hk : callK e rds.length d with
        | false => rfl
        | true =>
          have := hK d hk
          rw [Nat.mod_eq_of_lt hd1] at this
          exact absurd (by simpa using this) hde
      have hv' : okV (callK e rds.length) v := okV_mono hK (hv e rfl)
      have key : (fun i => if i = e then packA (rdVals e rds) else (if i = d then v else s.t i).kill (callK e rds.length)) = fun i => if i = d then v else (if i = e then packA (rdVals e rds) else (s.t i).kill (callK e rds.length)) := by
        funext i
        by_cases h1 : i = e
        · have : ¬ i = d := fun h => hde (by rw [← h, h1])
          rw [if_pos h1, if_neg this, if_pos h1]
        · rw [if_neg h1, if_neg h1]
          by_cases h2 : i = d
          · rw [if_pos h2, if_pos h2]; exact okV_kill hv'
          · rw [if_neg h2, if_neg h2]
      cases obo with
      | none => simp only [St.eff, St.put, St.call]; rw [key]
      | some o =>
        simp only [St.eff, St.call]
        rw [key]
        congr 1
        funext p
        simp only [callH]
        by_cases h1 : callK e rds.length p = true
        · have : ¬ p = d := fun h => by rw [h, hdK] at h1; cases h1
          rw [if_pos h1, if_neg this, if_pos h1]
        · rw [if_neg h1, if_neg h1]
          by_cases h2 : p = d
          · have ho' : okOb (callK e rds.length) o := fun row hr x hx => ⟨okC_mono hK (ho e o rfl rfl row hr x hx).1, (ho e o rfl rfl row hr x hx).2⟩
            rw [if_pos h2, if_pos h2, Option.map_some, okOb_kill ho']
          · rw [if_neg h2, if_neg h2]


def tgt : Op → Option Operand
  | .store _ x _ => some x
  | .call { callee := .builtin .append, args, .. } => args.toList[0]?
  | _ => none

theorem aop_upd_live {o : Oper} {e : Operand → V} {h : Nat → Option Ob} {p : Prop} {q : Nat} {ob : Ob} (ha : aop P o e h = .upd p q ob) : (∃ ob0, h q = some ob0) ∧ writes o.op = true ∧ (∃ x, tgt o.op = some x ∧ ∃ n i j, e x = .ptr q n i j) := by
  obtain ⟨dst, op, ty, pos, after, guard⟩ := o
  have hk : kindOf op = .heavy := by
    cases hk : kindOf op with
    | heavy => rfl
    | plain => rcases kind_val (P := P) (o := ⟨dst, op, ty, pos, after, guard⟩) (e := e) (h := h) (.inl hk) with ⟨_, _, h1⟩ | h1 <;> rw [h1] at ha <;> cases ha
    | look => rcases kind_val (P := P) (o := ⟨dst, op, ty, pos, after, guard⟩) (e := e) (h := h) (.inr hk) with ⟨_, _, h1⟩ | h1 <;> rw [h1] at ha <;> cases ha
    | alloc => rcases kind_new (P := P) (o := ⟨dst, op, ty, pos, after, guard⟩) (e := e) (h := h) (.inl hk) with ⟨_, _, _, h1⟩ | h1 <;> rw [h1] at ha <;> cases ha
    | box => rcases kind_new (P := P) (o := ⟨dst, op, ty, pos, after, guard⟩) (e := e) (h := h) (.inr hk) with ⟨_, _, _, h1⟩ | h1 <;> rw [h1] at ha <;> cases ha
  unfold aop at ha
  simp only at ha
  cases op <;> (try (simp [kindOf] at hk; done)) <;> dsimp only at ha <;> (try (cases ha; done))
  case store t x y =>
    split at ha <;> try (cases ha; done)
    unfold astore at ha
    split at ha <;> try (cases ha; done)
    rename_i o' n' i' j' hx
    split at ha <;> try (cases ha; done)
    rename_i ob0 ho
    split at ha <;> try (cases ha; done)
    simp only [AR.upd.injEq] at ha
    obtain ⟨_, rfl, _⟩ := ha
    exact ⟨⟨ob0, ho⟩, rfl, x, rfl, _, _, _, hx⟩
  case makeSlice t l c =>
    unfold amake at ha
    split at ha <;> try (cases ha; done)
    split at ha <;> try (cases ha; done)
    split at ha <;> cases ha
  case call c =>
    obtain ⟨callee, args, argTypes⟩ := c
    unfold acall at ha
    dsimp only at ha
    cases callee with
    | value f =>
      dsimp only at ha
      split at ha <;> try (cases ha; done)
      split at ha <;> cases ha
    | invoke r m => cases ha
    | builtin b =>
      cases b <;> (try (simp [kindOf] at hk; done)) <;> dsimp only at ha <;> (try (cases ha; done))
      split at ha <;> try (cases ha; done)
      split at ha <;> try (cases ha; done)
      unfold aappend at ha
      split at ha <;> try (cases ha; done)
      split at ha <;> try (cases ha; done)
      split at ha <;> try (cases ha; done)
      split at ha <;> cases ha

theorem aop_app_live {o : Oper} {e : Operand → V} {h : Nat → Option Ob} {p : Prop} {q : Nat} {ob : Ob} (ha : aop P o e h = .app p q ob) : (∃ ob0, h q = some ob0) ∧ writes o.op = true ∧ (∃ x, tgt o.op = some x ∧ ∃ m, e x = .ref q m) := by
  obtain ⟨dst, op, ty, pos, after, guard⟩ := o
  have hk : kindOf op = .heavy := by
    cases hk : kindOf op with
    | heavy => rfl
    | plain => rcases kind_val (P := P) (o := ⟨dst, op, ty, pos, after, guard⟩) (e := e) (h := h) (.inl hk) with ⟨_, _, h1⟩ | h1 <;> rw [h1] at ha <;> cases ha
    | look => rcases kind_val (P := P) (o := ⟨dst, op, ty, pos, after, guard⟩) (e := e) (h := h) (.inr hk) with ⟨_, _, h1⟩ | h1 <;> rw [h1] at ha <;> cases ha
    | alloc => rcases kind_new (P := P) (o := ⟨dst, op, ty, pos, after, guard⟩) (e := e) (h := h) (.inl hk) with ⟨_, _, _, h1⟩ | h1 <;> rw [h1] at ha <;> cases ha
    | box => rcases kind_new (P := P) (o := ⟨dst, op, ty, pos, after, guard⟩) (e := e) (h := h) (.inr hk) with ⟨_, _, _, h1⟩ | h1 <;> rw [h1] at ha <;> cases ha
  unfold aop at ha
  simp only at ha
  cases op <;> (try (simp [kindOf] at hk; done)) <;> dsimp only at ha <;> (try (cases ha; done))
  case store t x y =>
    split at ha <;> try (cases ha; done)
    unfold astore at ha
    split at ha <;> try (cases ha; done)
    split at ha <;> try (cases ha; done)
    split at ha <;> cases ha
  case makeSlice t l c =>
    unfold amake at ha
    split at ha <;> try (cases ha; done)
    split at ha <;> try (cases ha; done)
    split at ha <;> cases ha
  case call c =>
    obtain ⟨callee, args, argTypes⟩ := c
    unfold acall at ha
    dsimp only at ha
    cases callee with
    | value f =>
      dsimp only at ha
      split at ha <;> try (cases ha; done)
      split at ha <;> cases ha
    | invoke r m => cases ha
    | builtin b =>
      cases b <;> (try (simp [kindOf] at hk; done)) <;> dsimp only at ha <;> (try (cases ha; done))
      split at ha <;> try (cases ha; done)
      rename_i x y t t' hl ht
      split at ha <;> try (cases ha; done)
      unfold aappend at ha
      split at ha <;> try (cases ha; done)
      split at ha <;> try (cases ha; done)
      split at ha <;> try (cases ha; done)
      rename_i o2 m2 hxe
      split at ha <;> try (cases ha; done)
      rename_i ob0 ho
      simp only [AR.app.injEq] at ha
      obtain ⟨_, rfl, _⟩ := ha
      refine ⟨⟨ob0, ho⟩, rfl, x, ?_, m2, hxe⟩
      simp only [tgt, hl]
      rfl

theorem acall_args {o : Oper} {e : Operand → V} {h : Nat → Option Ob} {g : FuncId} {args : List V} (ha : aop P o e h = .call g args) (he : ∀ x ∈ o.op.operands.toList, okV K (e x)) : (∀ x ∈ args, okV K x) ∧ writes o.op = false := by
  obtain ⟨dst, op, ty, pos, after, guard⟩ := o
  have hk : kindOf op = .heavy := by
    cases hk : kindOf op with
    | heavy => rfl
    | plain => rcases kind_val (P := P) (o := ⟨dst, op, ty, pos, after, guard⟩) (e := e) (h := h) (.inl hk) with ⟨_, _, h1⟩ | h1 <;> rw [h1] at ha <;> cases ha
    | look => rcases kind_val (P := P) (o := ⟨dst, op, ty, pos, after, guard⟩) (e := e) (h := h) (.inr hk) with ⟨_, _, h1⟩ | h1 <;> rw [h1] at ha <;> cases ha
    | alloc => rcases kind_new (P := P) (o := ⟨dst, op, ty, pos, after, guard⟩) (e := e) (h := h) (.inl hk) with ⟨_, _, _, h1⟩ | h1 <;> rw [h1] at ha <;> cases ha
    | box => rcases kind_new (P := P) (o := ⟨dst, op, ty, pos, after, guard⟩) (e := e) (h := h) (.inr hk) with ⟨_, _, _, h1⟩ | h1 <;> rw [h1] at ha <;> cases ha
  unfold aop at ha
  simp only at ha he
  cases op <;> (try (simp [kindOf] at hk; done)) <;> dsimp only at ha <;> (try (cases ha; done))
  case store t x y =>
    split at ha <;> try (cases ha; done)
    unfold astore at ha
    split at ha <;> try (cases ha; done)
    split at ha <;> try (cases ha; done)
    split at ha <;> cases ha
  case makeSlice t l c =>
    unfold amake at ha
    split at ha <;> try (cases ha; done)
    split at ha <;> try (cases ha; done)
    split at ha <;> cases ha
  case call c =>
    obtain ⟨callee, as, argTypes⟩ := c
    unfold acall at ha
    dsimp only at ha
    cases callee with
    | value f =>
      dsimp only at ha
      split at ha <;> try (cases ha; done)
      rename_i g' caps hf
      split at ha <;> try (cases ha; done)
      simp only [AR.call.injEq] at ha
      obtain ⟨_, rfl⟩ := ha
      refine ⟨fun x hx => ?_, rfl⟩
      rcases List.mem_append.1 hx with h1 | h1
      · obtain ⟨y, hy, rfl⟩ := List.mem_map.1 h1
        exact he y (by simp [Op.operands, Call.operands]; exact .inr (by simpa using hy))
      · have := he f (by simp [Op.operands, Call.operands])
        rw [hf] at this
        exact okV_of_okC (this x h1)
    | invoke r m => cases ha
    | builtin b =>
      cases b <;> (try (simp [kindOf] at hk; done)) <;> dsimp only at ha <;> (try (cases ha; done))
      split at ha <;> try (cases ha; done)
      split at ha <;> try (cases ha; done)
      unfold aappend at ha
      split at ha <;> try (cases ha; done)
      split at ha <;> try (cases ha; done)
      split at ha <;> try (cases ha; done)
      split at ha <;> cases ha

end
end Go.AL
