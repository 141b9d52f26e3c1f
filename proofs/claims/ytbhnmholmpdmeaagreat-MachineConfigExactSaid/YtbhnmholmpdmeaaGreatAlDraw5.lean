/-
  THE ABSTRACT LAYER, SIXTEENTH PART: every order of a drawn region comes to what one order comes to. By an AI agent.
-/
import Derived.Test.YtbhnmholmpdmeaaGreatAlDraw4
namespace Go.AL
set_option linter.unusedVariables false
set_option linter.unusedSimpArgs false
set_option linter.unusedSectionVars false

section
variable {P : Program} {n : Nat} {ops : Array Oper} {K : Nat → Bool}

theorem okS.put {s : St} (hs : okS K s) (d : Option Nat) {v : V} (hv : okV K v) : okS K (s.put d v) := by
  cases d with
  | none => exact hs
  | some d =>
    refine ⟨fun i => ?_, hs.h, hs.n⟩
    rw [St.put]
    simp only
    split
    · exact hv
    · exact hs.t i

def hit (o : Oper) (s : St) (p : Nat) : Bool := match tgt o.op with
  | some x => (s.ev x).names (· == p)
  | none => false

def isCall (o : Oper) : Bool := match o.op with
  | .call { callee := .value _, .. } => true
  | _ => false

theorem isCall_aop {P : Program} {o : Oper} {e : Operand → V} {h : Nat → Option Ob} (hc : isCall o = true) : (∃ g args, aop P o e h = .call g args) ∨ aop P o e h = .bad := by
  obtain ⟨dst, op, ty, pos, after, guard⟩ := o
  unfold isCall at hc
  split at hc <;> try (cases hc; done)
  rename_i f args ats hop
  simp only at hop
  subst hop
  unfold aop acall
  simp only
  split
  · split
    · exact .inl ⟨_, _, rfl⟩
    · exact .inr rfl
  · exact .inr rfl

theorem names_packA {d : Nat} (hd : d < 1000) {rds : List RD} (hok : ∀ rd ∈ rds, rd.ok = true) {q : Nat} (h : (packA (rdVals d rds)).names (· == q) = true) : q % 1000 = d := by
  match rds, hok, h with
  | [], _, h => simp [rdVals, packA, V.names] at h
  | [rd], hok, h =>
    simp only [rdVals, packA] at h
    cases rd with
    | v x =>
      have := hok (.v x) (by simp)
      cases x <;> simp [RD.ok, V.pure, RD.val, V.names] at this h
    | o ty es rows =>
      simp only [RD.val, V.names, beq_iff_eq] at h
      rw [← h]; exact Nat.mod_eq_of_lt hd
  | r1 :: r2 :: rds, _, h => simp [rdVals, packA, V.names] at h

structure Aft (K : Nat → Bool) (oj : Oper) (s s2 : St) : Prop where
  ok : okS (minus K oj.dst) s2
  t : ∀ i, oj.dst ≠ some i → s2.t i = s.t i
  h : ∀ p, (oj.dst == some (p % 1000)) = false → hit oj s p = false → s2.h p = s.h p
  d : isCall oj = true → ∀ d, oj.dst = some d → ∀ q, (s2.t d).names (· == q) = true → q % 1000 = d

theorem any_run {oj : Oper} {Φ : St → Prop} {s : St} {di : Option Nat} {v : V} {obo : Option Ob} (hs : okS K s) (hj : ∀ d, oj.dst = some d → (∀ p, p % 1000 = d → K p = true) ∧ d < 1000)
    (hi : ∀ d, di = some d → K d = true ∧ d < 1000) (hne : ∀ d, di = some d → oj.dst ≠ some d) (hsee : ∀ d, di = some d → d ∉ oj.looksAt ops)
    (hv : okV (minus K di) v) (hobo : ∀ ob, obo = some ob → okOb K ob) (hod : ∀ ob, obo = some ob → ∃ d, di = some d) (h : aRun P n oj Φ (s.eff di v obo)) :
    aRun P n oj (fun s2 => Aft K oj s s2 ∧ Φ (s2.eff di v obo)) s := by
  obtain ⟨hd, hm⟩ := h
  have hsame := ev_same (ops := ops) (o := oj) (s := s) (s' := s.eff di v obo) (fun i hi' => eff_t (fun e => hsee i e hi'))
  have hop : ∀ x ∈ oj.op.operands.toList, okV K (s.ev x) := fun x _ => okV_ev hs x
  have haop : aop P oj (s.eff di v obo).ev (s.eff di v obo).h = aop P oj s.ev s.h := by
    refine (aop_congr (K := fun p => di == some p) oj (fun x hx => (hsame.1 x hx).symm) (fun p hp => (eff_h (by simpa using hp)).symm) (fun x hx => ?_)).symm
    refine okV_kill (okV_mono (fun p hp => ?_) (hop x hx))
    have : di = some p := by simpa using hp
    exact (hi p this).1
  have hok := aop_ok (P := P) (K := K) (e := s.ev) (h := s.h) oj hop hs.h
  rw [haop] at hm
  refine ⟨hd, ?_⟩
  -- the value put at di bears no name of oj's
  have hvj : ∀ e, oj.dst = some e → okV (fun p => p % 1000 == e) v := fun e he => okV_mono (fun p hp => by
    have hp' : p % 1000 = e := by simpa using hp
    simp only [minus, Bool.and_eq_true, Bool.not_eq_true']
    refine ⟨(hj e he).1 p hp', ?_⟩
    cases di with
    | none => rfl
    | some d =>
      have : d ≠ e := fun h => hne d rfl (by rw [he, h])
      simp [hp', this]) hv
  have hoj : ∀ e o, oj.dst = some e → obo = some o → okOb (fun p => p % 1000 == e) o := fun e o he ho row hr x hx => ⟨okC_mono (fun p hp => (hj e he).1 p (by simpa using hp)) (hobo o ho row hr x hx).1, (hobo o ho row hr x hx).2⟩
  have hlive : ∀ q ob0, s.h q = some ob0 → obo.isSome → di ≠ some q := by
    intro q ob0 hq hso e
    have h1 := hs.n q (hi q e).1
    rw [h1] at hq; cases hq
  have hKq : ∀ q ob0, s.h q = some ob0 → K q = false := fun q ob0 hq => by
    cases hk : K q with
    | false => rfl
    | true => rw [hs.n q hk] at hq; cases hq
  have hms : okS (minus K oj.dst) s := hs.mono minus_le
  -- one changed object
  have setok : ∀ q ob ob0, s.h q = some ob0 → okOb K ob → okS (minus K oj.dst) (s.setOb q ob) := by
    intro q ob ob0 hq hob
    refine ⟨hms.t, fun p ob' hp => ?_, fun p hp => ?_⟩
    · simp only [St.setOb, setH] at hp
      split at hp
      · cases hp; exact okOb_minus hob
      · exact hms.h p ob' hp
    · simp only [St.setOb, setH]
      rw [if_neg, hs.n p (minus_le p hp)]
      intro e
      have := hKq q ob0 hq
      rw [← e, minus_le p hp] at this
      cases this
  have setob : ∀ (q : Nat) (ob : Ob) {v' : V} (p' : Nat), ¬ p' = q → ((s.setOb q ob).put oj.dst v').h p' = s.h p' := by
    intro q ob v' p' h
    cases oj.dst <;> simp [St.put, St.setOb, setH, h]
  have hnc : ∀ r, aop P oj s.ev s.h = r → (∀ g args, r ≠ .call g args) → r ≠ .bad → isCall oj = true → False := fun r hr h1 h2 hc => by
    rcases isCall_aop (P := P) (e := s.ev) (h := s.h) hc with ⟨g, args, h3⟩ | h3
    · exact h1 g args (hr ▸ h3)
    · exact h2 (hr ▸ h3)
  generalize ha : aop P oj s.ev s.h = r at hm hok hnc ⊢
  cases r with
  | bad => exact hm.elim
  | val p u =>
    refine ⟨hm.1, ⟨(hms.put _ (okV_mono minus_le (hok hm.1))), fun i hi' => ?_, fun p _ _ => by cases oj.dst <;> rfl, fun hc => (hnc _ rfl (fun _ _ h => by cases h) (fun h => by cases h) hc).elim⟩, ?_⟩
    · cases hdd : oj.dst with
      | none => rfl
      | some d =>
        have : ¬ i = d := fun e => hi' (by rw [hdd, e])
        simp [St.put, this]
    · rw [← eff_put hne]; exact hm.2
  | new p ob r =>
    cases hdd : oj.dst with
    | none => simp only [hdd] at hm
    | some e =>
      simp only [hdd] at hm ⊢
      obtain ⟨hje, he1⟩ := hj e hdd
      have hKe : K e = true := hje e (Nat.mod_eq_of_lt he1)
      have hob := hok hm.1
      rcases hm with ⟨hm1, hm | ⟨hr1, himp, hm⟩⟩
      rotate_left
      · refine ⟨hm1, .inr ⟨hr1, himp, ?_⟩⟩
        have hKs : ∀ p, (p == e) = true → K p = true := fun p hp => by have : p = e := by simpa using hp
                                                                       rw [this]; exact hKe
        have hs0 : okS (· == e) s := hs.mono hKs
        have hes : okS (· == e) (s.eff di v obo) := by
          have hve : okV (· == e) v := okV_mono (fun p hp => by have : p = e := by simpa using hp
                                                                rw [this]; simp [Nat.mod_eq_of_lt he1]) (hvj e hdd)
          refine ⟨fun i => ?_, fun p o hp => ?_, fun p hp => ?_⟩
          · by_cases hdi : di = some i
            · subst hdi
              cases obo <;> simp only [St.eff, St.put, if_true] <;> exact hve
            · rw [eff_t hdi]; exact hs0.t i
          · by_cases hdp : di = some p
            · subst hdp
              cases obo with
              | none => exact hs0.h p o (by simpa [St.eff, St.put] using hp)
              | some o2 =>
                simp only [St.eff, if_true, Option.some.injEq] at hp
                subst hp
                exact fun row hr x hx => ⟨okC_mono hKs (hobo o2 rfl row hr x hx).1, (hobo o2 rfl row hr x hx).2⟩
            · exact hs0.h p o (by rw [← eff_h hdp]; exact hp)
          · have : p = e := by simpa using hp
            subst this
            rw [eff_h (fun h => hne p h hdd)]
            exact hs.n p hKe
        rw [hes.newP_put (by simp)] at hm
        rw [hs.newP_put hKe, ← hdd]
        refine ⟨⟨hms.put _ (okV_pure (hob.sl himp)), fun i hi' => ?_, fun p _ _ => by rw [hdd]; rfl, fun hc => (hnc _ rfl (fun _ _ h => by cases h) (fun h => by cases h) hc).elim⟩, ?_⟩
        · have : ¬ i = e := fun h => hi' (by rw [hdd, h])
          rw [hdd]
          simp [St.put, this]
        · rw [← eff_put hne, hdd]; exact hm
      have hs1 : okS (· == e) s := hs.mono (fun p hp => by have : p = e := by simpa using hp
                                                           rw [this]; exact hKe)
      have hme : minus K (some e) e = false := by simp [minus, Nat.mod_eq_of_lt he1]
      refine ⟨hm1, .inl ⟨⟨⟨fun i => ?_, fun q ob' hq => ?_, fun q hq => ?_⟩, fun i hi' => ?_, fun q hq _ => ?_, fun hc => (hnc _ rfl (fun _ _ h => by cases h) (fun h => by cases h) hc).elim⟩, ?_⟩⟩
      · simp only [St.new]
        split
        · cases r <;> (rw [hdd]; exact hme)
        · rw [okV_kill (hs1.t i), hdd]; exact okV_mono minus_le (hs.t i)
      · simp only [St.new, newH] at hq
        rw [hdd]
        split at hq
        · cases hq
          rw [okOb_kill (fun row hr x hx => ⟨okC_mono (fun p hp => by have : p = e := by simpa using hp
                                                                      rw [this]; exact hKe) (hob row hr x hx).1, (hob row hr x hx).2⟩)]
          exact okOb_minus hob
        · cases hh : s.h q with
          | none => simp [hh] at hq
          | some ob2 =>
            simp [hh] at hq
            subst hq
            rw [okOb_kill (hs1.h q ob2 hh)]
            exact okOb_minus (hs.h q ob2 hh)
      · rw [hdd] at hq
        simp only [St.new, newH]
        have : ¬ q = e := fun h => by rw [h, hme] at hq; cases hq
        rw [if_neg this, hs.n q (minus_le q hq)]
        rfl
      · have : ¬ i = e := fun h => hi' (by rw [hdd, h])
        simp only [St.new, if_neg this]
        exact okV_kill (hs1.t i)
      · rw [hdd] at hq
        have : ¬ q = e := fun h => by rw [h, Nat.mod_eq_of_lt he1] at hq; simp at hq
        simp only [St.new, newH, if_neg this]
        cases hh : s.h q with
        | none => rfl
        | some ob2 => simp only [Option.map_some]; rw [okOb_kill (hs1.h q ob2 hh)]
      · have hvk : okV (· == e) v := okV_mono (fun p hp => by have : p = e := by simpa using hp
                                                              rw [this]; simp [Nat.mod_eq_of_lt he1]) (hvj e hdd)
        rw [← eff_new (fun d hd' => fun h => hne d hd' (by rw [hdd, h])) hvk (fun o ho row hr x hx => ⟨okC_mono (fun p hp => by have : p = e := by simpa using hp
                                                                                                                                rw [this]; exact hKe) (hobo o ho row hr x hx).1, (hobo o ho row hr x hx).2⟩)]
        exact hm
  | upd p q ob =>
    obtain ⟨⟨ob0, hq⟩, hw, x, hx, n', i', j', hxe⟩ := aop_upd_live ha
    have hitq : ∀ (q0 : Nat) p', p' = q → hit oj s p' = false → False := fun _ p' e hh => by
      simp only [hit, hx, hxe, V.names, e] at hh
      simp at hh
    refine ⟨hm.1, ⟨(setok q ob ob0 hq (hok hm.1)).put _ trivial, fun i hi' => ?_, fun p' _ hh => ?_, fun hc => (hnc _ rfl (fun _ _ h => by cases h) (fun h => by cases h) hc).elim⟩, ?_⟩
    · cases hdd : oj.dst with
      | none => rfl
      | some d =>
        have : ¬ i = d := fun e => hi' (by rw [hdd, e])
        simp [St.put, St.setOb, this]
    · exact setob q ob p' (fun e => hitq q p' e hh)
    · rw [← eff_put hne, ← eff_setOb (fun hso => hlive q ob0 hq hso)]; exact hm.2
  | app p q ob =>
    obtain ⟨⟨ob0, hq⟩, hw, x, hx, m', hxe⟩ := aop_app_live ha
    have hitq : ∀ (q0 : Nat) p', p' = q → hit oj s p' = false → False := fun _ p' e hh => by
      simp only [hit, hx, hxe, V.names, e] at hh
      simp at hh
    refine ⟨hm.1, ⟨(setok q ob ob0 hq (hok hm.1)).put _ ?_, fun i hi' => ?_, fun p' _ hh => ?_, fun hc => (hnc _ rfl (fun _ _ h => by cases h) (fun h => by cases h) hc).elim⟩, ?_⟩
    · show minus K oj.dst q = false
      cases hk : minus K oj.dst q with
      | false => rfl
      | true =>
        have := hKq q ob0 hq
        rw [minus_le q hk] at this; cases this
    · cases hdd : oj.dst with
      | none => rfl
      | some d =>
        have : ¬ i = d := fun e => hi' (by rw [hdd, e])
        simp [St.put, St.setOb, this]
    · exact setob q ob p' (fun e => hitq q p' e hh)
    · rw [← eff_put hne, ← eff_setOb (fun hso => hlive q ob0 hq hso)]; exact hm.2
  | call g args =>
    obtain ⟨args', Pd, hc, hargs, hall0⟩ := hm
    obtain ⟨hargok, hw⟩ := acall_args (K := K) ha hop
    have hargs2 : argsOK s.h args args' := argsOK_congr (K := fun p => di == some p) (fun p hp => eff_h (by simpa using hp)) (fun x hx => okV_mono (fun p hp => (hi p (by simpa using hp)).1) (hargok x hx)) hargs
    refine ⟨args', Pd, hc, hargs2, fun rds hPd => ?_⟩
    obtain ⟨hdeep, hφ⟩ := hall0 rds hPd
    refine ⟨hdeep, ?_, ?_⟩
    · cases hdd : oj.dst with
      | none => exact ⟨by rw [hdd]; exact hs.mono minus_le, fun i _ => rfl, fun p _ _ => rfl, fun _ d hd => by rw [hdd] at hd; cases hd⟩
      | some e =>
        obtain ⟨hje, he1⟩ := hj e hdd
        have hKK : ∀ p, callK e rds.length p = true → p % 1000 = e := by
          intro p hp
          obtain ⟨h1, _⟩ := callK_spec hp
          rw [h1]
          simp [Nat.add_mul_mod_self_left, Nat.mod_eq_of_lt he1]
        have hs1 : okS (callK e rds.length) s := hs.mono (fun p hp => hje p (hKK p hp))
        have hmk : ∀ p, callK e rds.length p = true → minus K (some e) p = false := fun p hp => by simp [minus, hKK p hp]
        have hrdok : ∀ (k : Nat) (rd : RD), rds[k]? = some rd → okA (minus K (some e)) (rd.val (e + 1000 * k)) := by
          intro k rd hk
          have hd1 := hdeep rd (List.mem_of_getElem? hk)
          have hp1 := hc.1 rds hPd rd (List.mem_of_getElem? hk)
          cases rd with
          | v x =>
            have h2 : okV (minus K (some e)) x := okV_mono (fun _ _ => rfl) hd1
            cases x <;> first | exact h2 | (simp [RD.ok, V.pure] at hp1; done)
          | o ty es rows => exact hmk _ (callK_of (List.getElem?_eq_some_iff.1 hk).1).1
        refine ⟨⟨fun i => ?_, fun q ob' hq => ?_, fun q hq => ?_⟩, fun i hi' => ?_, fun q hq _ => ?_, fun _ d hd q hq => by
          rw [hdd] at hd; cases hd
          simp only [St.call, if_pos] at hq
          exact names_packA he1 (hc.1 rds hPd) hq⟩
        · rw [hdd]
          simp only [St.call]
          split
          · have hall : ∀ x ∈ rdVals e rds, okA (minus K (some e)) x := by
              intro x hx
              obtain ⟨k, hk⟩ := List.getElem?_of_mem hx
              rw [rdVals_get] at hk
              cases hr : rds[k]? with
              | none => simp [hr] at hk
              | some rd => simp [hr] at hk; subst hk; exact hrdok k rd hr
            generalize rdVals e rds = xs at hall
            match xs with
            | [] => exact fun x hx => by simp at hx
            | [x] => exact okV_of_okA (hall x (by simp))
            | x :: y :: xs => exact fun z hz => hall z hz
          · rw [okV_kill (hs1.t i)]; exact okV_mono minus_le (hs.t i)
        · rw [hdd]
          simp only [St.call, callH] at hq
          split at hq
          · unfold rdH at hq
            cases hr : rds[(q - e) / 1000]? with
            | none => simp [hr] at hq
            | some rd =>
              cases rd with
              | v x => simp [hr, RD.ob] at hq
              | o ty es rows =>
                simp [hr, RD.ob] at hq
                subst hq
                have hd1 := hdeep _ (List.mem_of_getElem? hr)
                exact fun row hrow x hx => ⟨okC_pure (hd1 row hrow x hx), fun _ => hd1 row hrow x hx⟩
          · cases hh : s.h q with
            | none => simp [hh] at hq
            | some ob2 =>
              simp [hh] at hq
              subst hq
              rw [okOb_kill (hs1.h q ob2 hh)]
              exact okOb_minus (hs.h q ob2 hh)
        · rw [hdd] at hq
          simp only [St.call, callH]
          have : ¬ callK e rds.length q = true := fun h => by rw [hmk q h] at hq; cases hq
          rw [if_neg this, hs.n q (minus_le q hq)]
          rfl
        · have : ¬ i = e := fun h => hi' (by rw [hdd, h])
          simp only [St.call, if_neg this]
          exact okV_kill (hs1.t i)
        · rw [hdd] at hq
          have : ¬ callK e rds.length q = true := fun h => by rw [hKK q h] at hq; simp at hq
          simp only [St.call, callH, if_neg this]
          cases hh : s.h q with
          | none => rfl
          | some ob2 => simp only [Option.map_some]; rw [okOb_kill (hs1.h q ob2 hh)]
    · rw [← eff_call (fun d e hd' he => ⟨fun h => hne d hd' (by rw [he, h]), (hi d hd').2, (hj e he).2⟩) hvj hoj]
      exact hφ
end
end Go.AL
