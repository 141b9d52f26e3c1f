/-
  THE ABSTRACT LAYER, SEVENTEENTH PART: a drawn region is sound. By an AI agent.
-/
import Derived.Test.YtbhnmholmpdmeaaGreatAlDraw5
namespace Go.AL
set_option linter.unusedVariables false
set_option linter.unusedSimpArgs false
set_option linter.unusedSectionVars false

section
variable {P : Program} {n : Nat} {ops : Array Oper}

theorem any_step {K : Nat → Bool} {oj : Oper} {Φ : St → Prop} {s : St} {di : Option Nat} {v : V} {obo : Option Ob} (hs : okS K s) (hj : ∀ d, oj.dst = some d → (∀ p, p % 1000 = d → K p = true) ∧ d < 1000)
    (hi : ∀ d, di = some d → K d = true ∧ d < 1000) (hne : ∀ d, di = some d → oj.dst ≠ some d) (hsee : ∀ d, di = some d → d ∉ oj.looksAt ops)
    (hv : okV (minus K di) v) (hobo : ∀ ob, obo = some ob → okOb K ob) (hod : ∀ ob, obo = some ob → ∃ d, di = some d) (h : aStep P n ops oj Φ (s.eff di v obo)) :
    aStep P n ops oj (fun s2 => Aft K oj s s2 ∧ Φ (s2.eff di v obo)) s := by
  have hsame := ev_same (ops := ops) (o := oj) (s := s) (s' := s.eff di v obo) (fun i hi' => eff_t (fun e => hsee i e hi'))
  rcases aStep_iff h with ⟨hr, hback⟩ | ⟨hr, hback⟩
  · exact hback _ s hsame.2.symm (any_run hs hj hi hne hsee hv hobo hod hr)
  · refine hback _ s hsame.2.symm ⟨hr.1, ⟨(hs.mono minus_le).put _ (fun x hx => by simp at hx), fun i hi' => ?_, fun p _ _ => by cases oj.dst <;> rfl, fun _ d hd q hq => by rw [hd] at hq; simp [St.put, V.names] at hq⟩, ?_⟩
    · cases hdd : oj.dst with
      | none => rfl
      | some d =>
        have : ¬ i = d := fun e => hi' (by rw [hdd, e])
        simp [St.put, this]
    · rw [← eff_put hne]; exact hr.2

def anyA (P : Program) (n : Nat) (ops : Array Oper) (Φ : St → Prop) : Nat → Array Bool → St → Prop
  | 0, listed, s => Region.ready .any ops listed = [] ∧ Φ s
  | f + 1, listed, s => (Region.ready .any ops listed = [] → Φ s) ∧ ∀ i ∈ Region.ready .any ops listed, match ops[i]? with
    | none => anyA P n ops Φ f (listed.setIfInBounds i true) s
    | some o => aStep P n ops o (anyA P n ops Φ f (listed.setIfInBounds i true)) s

def nn (q : Nat) : V → Prop
  | .ref p _ => p ≠ q
  | .ptr p .. => p ≠ q
  | .tup _ => False
  | .fn _ _ => False
  | .aggi _ => False
  | _ => True
def nnAll (q : Nat) : List V → Prop
  | [] => True
  | v :: r => nn q v ∧ nnAll q r
def sep1 : V → List V → Prop
  | .ref q _, vs => nnAll q vs
  | .ptr q .., vs => nnAll q vs
  | _, _ => True
def tgtAt (ops : List Oper) (j : Nat) : Option Operand := (ops[j]?).bind fun o => tgt o.op
def sepT (s : St) (vs : List V) : Option Operand → Prop
  | some x => sep1 (s.ev x) vs
  | none => True
def sepC (ops : List Oper) (o : Oper) (s : St) : List Nat → Prop
  | [] => True
  | j :: r => sepT s (o.op.operands.toList.map s.ev) (tgtAt ops j) ∧ sepC ops o s r

theorem sepC_mem {l : List Oper} {o : Oper} {s : St} : ∀ {js : List Nat} {j : Nat}, sepC l o s js → j ∈ js → sepT s (o.op.operands.toList.map s.ev) (tgtAt l j)
  | k :: r, j, h, hj => by
    rcases List.mem_cons.1 hj with rfl | hj
    · exact h.1
    · exact sepC_mem h.2 hj

theorem nnAll_mem {q : Nat} : ∀ {vs : List V}, nnAll q vs → ∀ v ∈ vs, nn q v
  | x :: r, h, v, hv => by
    rcases List.mem_cons.1 hv with rfl | hv
    · exact h.1
    · exact nnAll_mem h.2 v hv

theorem okV_nn {K : Nat → Bool} {q : Nat} {v : V} (hk : okV K v) (h : nn q v) : okV (· == q) v := by
  cases v <;> first | exact h.elim | exact hk | (simp only [nn] at h; simpa [okV, okA, okC] using h) | trivial

theorem or_false' {N M : Nat → Bool} {p : Nat} (h1 : N p = false) (h2 : M p = true → (p == p) = false) : (N p || M p) = false := by
  cases hm : M p with
  | false => rw [h1]; rfl
  | true => have := h2 hm; simp at this
theorem okC_or {N M : Nat → Bool} {v : V} (h1 : okC N v) (h2 : ∀ p, M p = true → okC (· == p) v) : okC (fun p => N p || M p) v := by
  cases v with
  | ref p n => exact or_false' h1 (fun hm => h2 p hm)
  | ptr p n i j => exact or_false' h1 (fun hm => h2 p hm)
  | _ => exact h1
theorem okA_or {N M : Nat → Bool} {v : V} (h1 : okA N v) (h2 : ∀ p, M p = true → okA (· == p) v) : okA (fun p => N p || M p) v := by
  cases v with
  | agg cs => exact h1
  | aggi cs => exact fun x hx => okC_or (h1 x hx) (fun p hp => h2 p hp x hx)
  | ref p n => exact or_false' h1 (fun hm => h2 p hm)
  | ptr p n i j => exact or_false' h1 (fun hm => h2 p hm)
  | _ => exact h1
theorem okV_or {N M : Nat → Bool} {v : V} (h1 : okV N v) (h2 : ∀ p, M p = true → okV (· == p) v) : okV (fun p => N p || M p) v := by
  cases v with
  | tup vs => exact fun x hx => okA_or (h1 x hx) (fun p hp => h2 p hp x hx)
  | fn f cs => exact fun x hx => okC_or (h1 x hx) (fun p hp => h2 p hp x hx)
  | agg cs => exact h1
  | aggi cs => exact fun x hx => okC_or (h1 x hx) (fun p hp => h2 p hp x hx)
  | ref p n => exact or_false' h1 (fun hm => h2 p hm)
  | ptr p n i j => exact or_false' h1 (fun hm => h2 p hm)
  | _ => exact h1

theorem names_sep {v : V} {vs : List V} {q : Nat} (h : sep1 v vs) (hq : v.names (· == q) = true) : nnAll q vs := by
  cases v <;> simp [V.names] at hq <;> subst hq <;> exact h

def seqD (P : Program) (n : Nat) (ops : Array Oper) (Φ : St → Prop) : List (Nat × List Nat) → St → Prop
  | [], s => Φ s
  | (i, js) :: r, s => match ops[i]? with
    | some o => sepC ops.toList o s js ∧ aStep P n ops o (seqD P n ops Φ r) s
    | none => False

def Kp (ops : Array Oper) (listed : Array Bool) (p : Nat) : Bool := (List.range ops.size).any fun i => !listed.getD i true && ((ops[i]?).bind (·.dst) == some (p % 1000))

theorem Kp_iff {listed : Array Bool} {p : Nat} : Kp ops listed p = true ↔ ∃ i o, ops[i]? = some o ∧ listed.getD i true = false ∧ o.dst = some (p % 1000) := by
  unfold Kp
  simp only [List.any_eq_true, List.mem_range, Bool.and_eq_true, Bool.not_eq_true', beq_iff_eq]
  constructor
  · rintro ⟨i, hi, h1, h2⟩
    obtain ⟨o, ho⟩ : ∃ o, ops[i]? = some o := ⟨ops[i], by simp [hi]⟩
    rw [ho] at h2
    exact ⟨i, o, ho, h1, by simpa using h2⟩
  · rintro ⟨i, o, ho, h1, h2⟩
    refine ⟨i, ?_, h1, by rw [ho]; simpa using h2⟩
    rcases Nat.lt_or_ge i ops.size with h | h
    · exact h
    · rw [Array.getElem?_eq_none h] at ho; cases ho

def dstsOK (ops : Array Oper) : Bool :=
  let l := ops.toList.filterMap (·.dst)
  l.all (· < 1000) && l.Nodup

theorem dsts_small (h : dstsOK ops = true) {i : Nat} {o : Oper} (ho : ops[i]? = some o) {d : Nat} (hd : o.dst = some d) : d < 1000 := by
  simp only [dstsOK, Bool.and_eq_true, List.all_eq_true, decide_eq_true_eq] at h
  refine h.1 d (List.mem_filterMap.2 ⟨o, ?_, hd⟩)
  have : ops.toList[i]? = some o := by simpa using ho
  exact List.mem_of_getElem? this

theorem filterMap_nodup_inj {α β : Type} {f : α → Option β} : ∀ {l : List α}, (l.filterMap f).Nodup → ∀ (i j : Nat) (x y : α) (d : β), l[i]? = some x → l[j]? = some y → f x = some d → f y = some d → i = j
  | [], _, i, j, x, y, d, h, _, _, _ => by simp at h
  | z :: l, hn, i, j, x, y, d, hx, hy, fx, fy => by
    have hmem : ∀ (k : Nat) (u : α), l[k]? = some u → f u = some d → d ∈ l.filterMap f := fun k u hk fu => List.mem_filterMap.2 ⟨u, List.mem_of_getElem? hk, fu⟩
    have hn' : (l.filterMap f).Nodup := by
      rw [List.filterMap_cons] at hn
      split at hn
      · exact hn
      · exact (List.nodup_cons.1 hn).2
    cases i with
    | zero =>
      simp at hx
      subst hx
      cases j with
      | zero => rfl
      | succ j =>
        rw [List.filterMap_cons, fx] at hn
        exact absurd (hmem j y (by simpa using hy) fy) (List.nodup_cons.1 hn).1
    | succ i =>
      cases j with
      | zero =>
        simp at hy
        subst hy
        rw [List.filterMap_cons, fy] at hn
        exact absurd (hmem i x (by simpa using hx) fx) (List.nodup_cons.1 hn).1
      | succ j => rw [filterMap_nodup_inj hn' i j x y d (by simpa using hx) (by simpa using hy) fx fy]

theorem dsts_inj (h : dstsOK ops = true) {i j : Nat} {o o' : Oper} (ho : ops[i]? = some o) (ho' : ops[j]? = some o') {d : Nat} (hd : o.dst = some d) (hd' : o'.dst = some d) : i = j := by
  simp only [dstsOK, Bool.and_eq_true, decide_eq_true_eq] at h
  exact filterMap_nodup_inj h.2 i j o o' d (by simpa using ho) (by simpa using ho') hd hd'

theorem Kp_next (h : dstsOK ops = true) {listed : Array Bool} {j : Nat} {o : Oper} (ho : ops[j]? = some o) : ∀ p, Kp ops (listed.setIfInBounds j true) p = true → minus (Kp ops listed) o.dst p = true := by
  intro p hp
  obtain ⟨i, oi, hoi, hl, hd⟩ := Kp_iff.1 hp
  have hij : j ≠ i := by
    intro e
    subst e
    rcases Nat.lt_or_ge j listed.size with h2 | h2
    · simp [h2] at hl
    · simp [h2] at hl
  rw [getD_set_ne true hij] at hl
  simp only [minus, Bool.and_eq_true, Bool.not_eq_true']
  refine ⟨Kp_iff.2 ⟨i, oi, hoi, hl, hd⟩, ?_⟩
  cases he : o.dst == some (p % 1000) with
  | false => rfl
  | true => exact absurd (dsts_inj h ho hoi (by simpa using he) hd) hij

theorem Kp_of {listed : Array Bool} {j : Nat} {o : Oper} (ho : ops[j]? = some o) (hl : listed.getD j true = false) : ∀ d, o.dst = some d → ∀ p, p % 1000 = d → Kp ops listed p = true :=
  fun d hd p hp => Kp_iff.2 ⟨j, o, ho, hl, by rw [hp]; exact hd⟩

def fixD (ops : Array Oper) (listed : Array Bool) : Operand → Bool
  | .tmp d => (List.range ops.size).all fun j => listed.getD j true || (ops[j]?).bind (·.dst) != some d
  | _ => true

theorem fixD_ev {listed : Array Bool} {x : Operand} (h : fixD ops listed x = true) {j : Nat} {oj : Oper} (hj : ops[j]? = some oj) (hun : listed.getD j true = false) {s s2 : St} (ht : ∀ i, oj.dst ≠ some i → s2.t i = s.t i) : s2.ev x = s.ev x := by
  cases x with
  | tmp d =>
    show (if d < 100000 then s2.t d else .dead) = (if d < 100000 then s.t d else .dead)
    rw [ht d fun e => ?_]
    simp only [fixD, List.all_eq_true, List.mem_range] at h
    have hlt : j < ops.size := by
      rcases Nat.lt_or_ge j ops.size with h | h
      · exact h
      · rw [Array.getElem?_eq_none h] at hj; cases hj
    have h1 := h j hlt
    rw [hun, hj] at h1
    simp [e] at h1
  | _ => rfl

theorem fixD_mono {listed : Array Bool} {x : Operand} {j : Nat} (h : fixD ops listed x = true) : fixD ops (listed.setIfInBounds j true) x = true := by
  cases x with
  | tmp d =>
    simp only [fixD, List.all_eq_true, List.mem_range, Bool.or_eq_true] at h ⊢
    intro k hk
    rcases h k hk with h1 | h1
    · by_cases hjk : j = k
      · subst hjk
        left
        rcases Nat.lt_or_ge j listed.size with h2 | h2
        · simp [h2]
        · simp [h2]
      · left; rw [getD_set_ne true hjk]; exact h1
    · exact .inr h1
  | _ => rfl

def Fresh (ops : Array Oper) (listed : Array Bool) (oj : Oper) (x : Operand) : Prop := ∃ d j o, x = .tmp d ∧ ops[j]? = some o ∧ listed.getD j true = false ∧ isCall o = true ∧ o.dst = some d ∧ ∃ e ∈ oj.after, Region.binds .any e = true ∧ e.on = j
def freshT (ops : Array Oper) (listed : Array Bool) (oj : Oper) : Operand → Bool
  | .tmp d => oj.after.any fun e => Region.binds .any e && (!listed.getD e.on true && match ops[e.on]? with
    | some o => isCall o && o.dst == some d
    | none => false)
  | _ => false
theorem freshT_spec {listed : Array Bool} {oj : Oper} {x : Operand} (h : freshT ops listed oj x = true) : Fresh ops listed oj x := by
  cases x with
  | tmp d =>
    simp only [freshT] at h
    rw [Array.any_eq_true] at h
    obtain ⟨i, hi, h1⟩ := h
    simp only [Bool.and_eq_true, Bool.not_eq_true'] at h1
    obtain ⟨h2, h3, h4⟩ := h1
    split at h4
    · rename_i o ho
      simp only [Bool.and_eq_true, beq_iff_eq] at h4
      exact ⟨d, _, o, rfl, ho, h3, h4.1, h4.2, _, Array.getElem_mem hi, h2, rfl⟩
    · cases h4
  | _ => cases h

def commOK (ops : Array Oper) (listed : Array Bool) (js : List Nat) (oi : Oper) (j : Nat) (oj : Oper) : Bool := oi.apart ops oj && (kindOf oi.op == .plain || kindOf oi.op == .alloc || (match tgt oj.op with | none => true | some x => js.contains j && fixD ops listed x || freshT ops listed oj x))

theorem anyA_first (hD : dstsOK ops = true) {Φ : St → Prop} {i : Nat} {oi : Oper} (hi : ops[i]? = some oi) (hl : Light oi) (B : Nat → Bool)
      (hB : ∀ j oj, ops[j]? = some oj → B j = true → ∃ e ∈ oj.after, Region.binds .any e = true ∧ (e.on = i ∨ B e.on = true)) : ∀ (fuel : Nat) (listed : Array Bool) (s : St), okS (Kp ops listed) s → (∀ j, B j = true → listed.getD j false = false) →
      (∀ j oj, ops[j]? = some oj → j ≠ i → listed.getD j true = false → B j = false → oi.apart ops oj = true ∧ ((kindOf oi.op = .plain ∨ kindOf oi.op = .alloc) ∨ ∀ x, tgt oj.op = some x → (fixD ops listed x = true ∧ ∀ q, (s.ev x).names (· == q) = true → ∀ y ∈ oi.op.operands.toList, okV (· == q) (s.ev y)) ∨ Fresh ops listed oj x)) →
      i ∈ Region.ready .any ops listed → aStep P n ops oi (anyA P n ops Φ fuel (listed.setIfInBounds i true)) s → anyA P n ops Φ (fuel + 1) listed s := by
  intro fuel
  induction fuel with
  | zero =>
    intro listed s hs _ _ hr H
    refine ⟨fun h => (by rw [h] at hr; cases hr), fun j hj => ?_⟩
    by_cases hji : j = i
    · subst hji; rw [hi]; exact H
    · obtain ⟨hun, _⟩ := mem_ready.1 hr
      have hd : ∀ d, oi.dst = some d → Kp ops listed d = true ∧ d < 1000 := fun d hd => ⟨Kp_of hi hun d hd d (Nat.mod_eq_of_lt (dsts_small hD hi hd)), dsts_small hD hi hd⟩
      obtain ⟨v, obo, _, h1, _⟩ := light_step hl hs hd H
      have h2 := ready_mono hj hji
      rw [h1.1] at h2
      cases h2
  | succ fuel ih =>
    intro listed s hs hinv hfree hr H
    refine ⟨fun h => (by rw [h] at hr; cases hr), fun j hj => ?_⟩
    by_cases hji : j = i
    · subst hji; rw [hi]; exact H
    · obtain ⟨hun, _⟩ := mem_ready.1 hr
      obtain ⟨hjun, oj, hoj, hall⟩ := mem_ready.1 hj
      have hdi : ∀ d, oi.dst = some d → Kp ops listed d = true ∧ d < 1000 := fun d hd => ⟨Kp_of hi hun d hd d (Nat.mod_eq_of_lt (dsts_small hD hi hd)), dsts_small hD hi hd⟩
      have hdj : ∀ d, oj.dst = some d → (∀ p, p % 1000 = d → Kp ops listed p = true) ∧ d < 1000 := fun d hd => ⟨Kp_of hoj hjun d hd, dsts_small hD hoj hd⟩
      have hnot : ∀ e ∈ oj.after, Region.binds .any e = true → e.on ≠ i := fun e he hb heq => by
        have h1 := hall e he hb
        rw [heq] at h1
        rcases Nat.lt_or_ge i listed.size with h' | h'
        · simp [h'] at hun h1; rw [hun] at h1; cases h1
        · simp [Array.getElem?_eq_none h'] at h1
      have hnb : B j = false := by
        cases hbj : B j with
        | false => rfl
        | true =>
          obtain ⟨e, he, hb, h'⟩ := hB j oj hoj hbj
          rcases h' with h' | h'
          · exact absurd h' (hnot e he hb)
          · have h1 := hall e he hb
            rw [hinv _ h'] at h1
            cases h1
      have hcomm := hfree j oj hoj hji hjun hnb
      obtain ⟨hap, hkind⟩ := hcomm
      obtain ⟨a1, a2, a3⟩ := Oper.apart_spec hap
      obtain ⟨v, obo, hod, h1, hv, hobo, hback⟩ := light_step hl hs hdi H
      have h2 := h1.2 j (ready_mono hj hji)
      rw [hoj] at h2 ⊢
      simp only at h2 ⊢
      have h3 := any_step (ops := ops) hs hdj hdi a2 a1 hv hobo hod h2
      refine aStep_mono ?_ h3
      rintro s2 ⟨haft, h4⟩
      have hs2 : okS (Kp ops (listed.setIfInBounds j true)) s2 := haft.ok.mono (Kp_next hD hoj)
      refine ih (listed.setIfInBounds j true) s2 hs2 (fun q hq => ?_) ?_ (ready_mono hr (Ne.symm hji)) ?_
      · by_cases hjq : j = q
        · subst hjq; rw [hnb] at hq; cases hq
        · rw [getD_set_ne false hjq]; exact hinv q hq
      · intro k ok hk hki hkun hno
        have hkun' : listed.getD k true = false := by
          by_cases hjk : j = k
          · subst hjk; exact hjun
          · rw [getD_set_ne true hjk] at hkun; exact hkun
        obtain ⟨q1, q2⟩ := hfree k ok hk hki hkun' hno
        refine ⟨q1, q2.imp id fun q3 x hx => ?_⟩
        have ey : ∀ y ∈ oi.op.operands.toList, s2.ev y = s.ev y := fun y hy => (ev_same (ops := ops) (o := oi) (s := s) (s' := s2) (fun k hk => haft.t k (fun e => a3 k e hk))).1 y hy
        rcases q3 x hx with ⟨q4, q5⟩ | ⟨d, j0, o0, rfl, ho0, hun0, hc0, hd0, he0⟩
        · have ex : s2.ev x = s.ev x := fixD_ev q4 hoj hjun haft.t
          refine .inl ⟨fixD_mono q4, fun q hq y hy => ?_⟩
          rw [ex] at hq
          rw [ey y hy]
          exact q5 q hq y hy
        · by_cases hj0 : j = j0
          · subst hj0
            rw [hoj] at ho0; cases ho0
            refine .inl ⟨?_, fun q hq y hy => ?_⟩
            · simp only [fixD, List.all_eq_true, List.mem_range, Bool.or_eq_true]
              intro i' hi'
              by_cases hii : j = i'
              · subst hii; left
                rcases Nat.lt_or_ge j listed.size with h2 | h2
                · simp [h2]
                · simp [h2]
              · right
                cases hoi : ops[i']? with
                | none => rfl
                | some oi' =>
                  simp only [Option.bind_some]
                  cases hb : (oi'.dst != some d) with
                  | true => rfl
                  | false =>
                    have : oi'.dst = some d := by simpa using hb
                    exact absurd (dsts_inj hD hoj hoi hd0 this) hii
            · have hqd : q % 1000 = d := haft.d hc0 d hd0 q (by
                have hq2 : (if d < 100000 then s2.t d else .dead).names (fun x => x == q) = true := hq
                split at hq2
                · exact hq2
                · simp [V.names] at hq2)
              rw [ey y hy]
              exact okV_mono (fun p hp => by
                have hp' : p = q := by simpa using hp
                rw [hp']; exact Kp_of hoj hjun d hd0 q hqd) (okV_ev hs y)
          · exact .inr ⟨d, j0, o0, rfl, ho0, by rw [getD_set_ne true hj0]; exact hun0, hc0, hd0, he0⟩
      · refine hback _ s2 (fun p => oj.dst == some (p % 1000) || hit oj s p) (minus (Kp ops listed) oj.dst) haft.ok (fun d hd => ?_) minus_le (fun k hk => haft.t k (fun e => a3 k e hk)) ?_ ?_
        · simp only [minus, Bool.and_eq_true, Bool.not_eq_true']
          refine ⟨(hdi d hd).1, ?_⟩
          rw [Nat.mod_eq_of_lt (hdi d hd).2]
          have := a2 d hd
          cases hq : oj.dst == some d with
          | false => rfl
          | true => exact absurd (by simpa using hq) this
        · rcases hkind with (hk | hk) | hk
          · exact .inl hk
          · exact .inr (.inl hk)
          · refine .inr (.inr ⟨fun y hy => okV_or (okV_mono (fun p hp => ?_) (okV_ev hs y)) (fun p hp => ?_), fun p hp => ?_⟩)
            · have hp' : oj.dst = some (p % 1000) := by simpa using hp
              exact (hdj _ hp').1 p rfl
            · unfold hit at hp
              split at hp
              · rename_i x hx
                rcases hk x hx with hk | ⟨d, j0, o0, _, _, hun0, _, _, e0, he0, hb0, hon0⟩
                · exact hk.2 p hp y hy
                · have h1 := hall e0 he0 hb0
                  rw [hon0] at h1
                  rcases Nat.lt_or_ge j0 listed.size with h' | h'
                  · simp [h'] at hun0 h1; rw [hun0] at h1; cases h1
                  · simp [Array.getElem?_eq_none h'] at h1
              · cases hp
            · simp only [Bool.or_eq_false_iff] at hp
              exact haft.h p hp.1 hp.2
        · rw [Array.setIfInBounds_comm _ _ hji]
          exact h4

def lightB (ops : Array Oper) (k : Nat) : Bool := match ops[k]? with | some o => kindOf o.op != .heavy | none => false

def blkA (k : Nat) (ops : List Oper) : List Bool := ops.foldl (fun acc o => acc ++ [o.after.any fun e => Region.binds .any e && (e.on == k || acc.getD e.on false)]) []

def chkB (ops : Array Oper) (k : Nat) (B : List Bool) (listed : Array Bool) : Bool := (List.range ops.size).all fun j => !B.getD j false || (!listed.getD j false && match ops[j]? with
  | some o => o.after.any fun e => Region.binds .any e && (e.on == k || B.getD e.on false)
  | none => true)

def freeB (ops : Array Oper) (listed : Array Bool) (k : Nat) (js : List Nat) (B : List Bool) : Bool := match ops[k]? with
  | none => false
  | some oi => decide (B.length ≤ ops.size) && chkB ops k B listed && (List.range ops.size).all fun j => j == k || listed.getD j true || B.getD j false || (match ops[j]? with
    | none => true
    | some oj => commOK ops listed js oi j oj)

def freeD (ops : Array Oper) (listed : Array Bool) (k : Nat) (js : List Nat) : Bool := freeB ops listed k js (blkA k ops.toList)

theorem freeB_spec {listed : Array Bool} {k : Nat} {js : List Nat} {oi : Oper} {B : List Bool} (hi : ops[k]? = some oi) (h : freeB ops listed k js B = true) :
    (∀ j oj, ops[j]? = some oj → B.getD j false = true → ∃ e ∈ oj.after, Region.binds .any e = true ∧ (e.on = k ∨ B.getD e.on false = true)) ∧ (∀ j, B.getD j false = true → listed.getD j false = false) ∧
    ∀ j oj, ops[j]? = some oj → j ≠ k → listed.getD j true = false → B.getD j false = false → commOK ops listed js oi j oj = true := by
  unfold freeB at h
  rw [hi] at h
  simp only [Bool.and_eq_true, decide_eq_true_eq] at h
  obtain ⟨⟨hlen, hchk⟩, h⟩ := h
  simp only [chkB, List.all_eq_true, List.mem_range, Bool.or_eq_true, Bool.not_eq_true', Bool.and_eq_true] at hchk
  have hin : ∀ j oj, ops[j]? = some oj → j < ops.size := fun j oj hj => by
    rcases Nat.lt_or_ge j ops.size with h | h
    · exact h
    · rw [Array.getElem?_eq_none h] at hj; cases hj
  refine ⟨fun j oj hj hb => ?_, fun j hb => ?_, fun j oj hj hjk hun hnb => ?_⟩
  · rcases hchk j (hin j oj hj) with h1 | h1
    · rw [hb] at h1; cases h1
    · have h2 := h1.2
      rw [hj] at h2
      simp only at h2
      rw [Array.any_eq_true] at h2
      obtain ⟨x, hx, hx2⟩ := h2
      simp only [Bool.and_eq_true, Bool.or_eq_true, beq_iff_eq] at hx2
      exact ⟨_, Array.getElem_mem hx, hx2.1, hx2.2⟩
  · have hlt : j < ops.size := by
      rcases Nat.lt_or_ge j B.length with h3 | h3
      · omega
      · simp [List.getD_eq_getElem?_getD, List.getElem?_eq_none h3] at hb
    rcases hchk j hlt with h1 | h1
    · rw [hb] at h1; cases h1
    · exact h1.1
  · simp only [List.all_eq_true, List.mem_range] at h
    have h1 := h j (hin j oj hj)
    rw [hj, hun, hnb] at h1
    simp only [Bool.or_eq_true, beq_iff_eq, Bool.false_eq_true, or_false] at h1
    rcases h1 with h1 | h1
    · exact absurd h1 hjk
    · exact h1

def lexD (ops : Array Oper) : List (Nat × List Nat) → Array Bool → Bool
  | [], listed => (Region.ready .any ops listed).isEmpty
  | (k, js) :: r, listed => (Region.ready .any ops listed == [k] || ((Region.ready .any ops listed).contains k && lightB ops k && freeD ops listed k js)) && lexD ops r (listed.setIfInBounds k true)

def drawOK (ops : Array Oper) (perm : List (Nat × List Nat)) : Bool := dstsOK ops && perm.length == ops.size && lexD ops perm (Array.replicate ops.size false)

theorem seqD_any (hD : dstsOK ops = true) {Φ : St → Prop} : ∀ (perm : List (Nat × List Nat)) (listed : Array Bool) (s : St), lexD ops perm listed = true → okS (Kp ops listed) s → seqD P n ops Φ perm s → anyA P n ops Φ perm.length listed s
  | [], listed, s, hx, hs, h => ⟨by simpa [lexD] using hx, h⟩
  | (k, js) :: r, listed, s, hx, hs, h => by
    simp only [lexD, Bool.and_eq_true, Bool.or_eq_true] at hx
    obtain ⟨hx1, hx2⟩ := hx
    simp only [seqD] at h
    split at h <;> try (exact h.elim)
    rename_i ok hok
    obtain ⟨hsepc, h⟩ := h
    have hready : k ∈ Region.ready .any ops listed := by
      rcases hx1 with h1 | h1
      · have : Region.ready .any ops listed = [k] := by simpa using h1
        rw [this]; simp
      · simpa using h1.1.1
    obtain ⟨hun, _⟩ := mem_ready.1 hready
    have hdk : ∀ d, ok.dst = some d → (∀ p, p % 1000 = d → Kp ops listed p = true) ∧ d < 1000 := fun d hd => ⟨Kp_of hok hun d hd, dsts_small hD hok hd⟩
    have h2 := any_step (ops := ops) (di := none) (v := .dead) (obo := none) hs hdk (fun d h => by cases h) (fun d h => by cases h) (fun d h => by cases h) trivial (fun ob h => by cases h) (fun ob h => by cases h) h
    have h3 : aStep P n ops ok (anyA P n ops Φ r.length (listed.setIfInBounds k true)) s := aStep_mono (fun s2 ⟨haft, hq⟩ => seqD_any hD r _ s2 hx2 (haft.ok.mono (Kp_next hD hok)) hq) h2
    rcases hx1 with h1 | ⟨⟨_, hlight⟩, hfree⟩
    · have hone : Region.ready .any ops listed = [k] := by simpa using h1
      refine ⟨fun h => (by rw [hone] at h; cases h), fun j hj => ?_⟩
      rw [hone] at hj
      simp at hj
      subst hj
      rw [hok]
      exact h3
    · obtain ⟨f1, f2, f3⟩ := freeB_spec hok hfree
      refine anyA_first hD hok ?_ _ f1 r.length listed s hs f2 (fun j oj hj hjk hun hnb => ?_) hready h3
      · unfold lightB at hlight
        rw [hok] at hlight
        simpa [Light] using hlight
      · have f4 := f3 j oj hj hjk hun hnb
        simp only [commOK, Bool.and_eq_true, Bool.or_eq_true, beq_iff_eq] at f4
        refine ⟨f4.1, f4.2.imp id fun f5 x hx => ?_⟩
        rw [hx] at f5
        simp only [Bool.or_eq_true, Bool.and_eq_true] at f5
        rcases f5 with f5 | f5
        case inr => exact .inr (freshT_spec f5)
        refine .inl ⟨f5.2, fun q hq y hy => ?_⟩
        have f6 := sepC_mem hsepc (by simpa using f5.1 : j ∈ js)
        have f7 : tgtAt ops.toList j = some x := by simp [tgtAt, hj, hx]
        rw [f7] at f6
        exact okV_nn (okV_ev hs y) (nnAll_mem (names_sep f6 hq) _ (List.mem_map.2 ⟨y, hy, rfl⟩))

/-! ### On the machine -/
variable {w0 : World} {I : Imp} {A0 : Nat → Prop}

theorem aStep_sound {o : Oper} {Φ : St → Prop} {K' : Act → World → Prop} {Q' : Exit → Act → World → Prop} (hK : ∀ s a w, Φ s → RR w0 I A0 n s a w → K' a w) {s : St} {a : Act} {w : World} (hR : RR w0 I A0 n s a w)
    (h : aStep P n ops o Φ s) : if Region.wanted o (yielded ops a.tmps) then o.wp P a w K' Q' ∨ (o.asks P a w ∧ LetsOut Q') else K' (a.put o.dst undef) w := by
  obtain ⟨β, A, R⟩ := hR
  obtain ⟨g1, g2, g3⟩ := wanted_of_gst (ops := ops) (o := o) R
  have hrun : aRun P n o Φ s → o.wp P a w K' Q' := by
    rintro ⟨hd, hr⟩
    have hd' := dOK_some hd
    unfold Oper.wp
    split at hr
    · rename_i p v ha
      obtain ⟨u, h1, h2⟩ := aop_val R.obs a s.ev (rel_ev R.slots) o ha hr.1
      simp only at h1
      rw [h1]
      exact hK _ _ _ hr.2 ⟨_, _, R.put o.dst hd' v u h2⟩
    · rename_i p ob r ha
      split at hr <;> try (exact hr.elim)
      rename_i d hdd
      obtain ⟨u, w', h1, h2⟩ := aop_new R o ha hr.1 d hdd (hd' d hdd)
      rw [h1]
      rcases hr.2 with hr3 | ⟨hr1, himp, hr3⟩
      · exact hK _ _ _ hr3 h2.rr
      · subst hr1
        exact hK _ _ _ hr3 (h2.newP himp)
    · rename_i p q ob ha
      obtain ⟨w', h1, h2⟩ := aop_upd R o ha hr.1 hd'
      rw [h1]
      exact hK _ _ _ hr.2 h2
    · rename_i p q ob ha
      obtain ⟨u, w', h1, h2⟩ := aop_app R o ha hr.1 hd'
      rw [h1]
      exact hK _ _ _ hr.2 h2
    · rename_i g args ha
      obtain ⟨args', Pd, hc, hargs, hφ⟩ := hr
      obtain ⟨vs, e1, e2, e3⟩ := acall_call R.slots o ha
      rw [e1]
      obtain ⟨hok, hcall⟩ := hc
      obtain ⟨q1, q2⟩ := args_rel R.obs (vs := vs) 0 hargs (fun i x hx => by simpa using e3 i x hx)
      refine (hcall w A vs R.obs.lt (by rw [e2, q1]) (fun i x hx => by simpa using q2 i x hx)).mono ?_
      rintro e w' ⟨rds, us, β', A', hPd, rfl, hp⟩
      exact hK _ _ _ (hφ rds hPd).2 (R.call (hok rds hPd) hp o.dst hd')
    · exact hr.elim
  have hskip : aSkip n o Φ s → K' (a.put o.dst undef) w := by
    rintro ⟨hd, hr⟩
    exact hK _ _ _ hr ⟨_, _, R.put o.dst (dOK_some hd) _ _ rel_undef⟩
  unfold aStep at h
  split at h
  · rename_i hg
    rw [if_pos (g1 hg)]
    exact .inl (hrun h)
  · rename_i b want hg
    rw [g2 b want hg]
    by_cases hb : b = want
    · subst hb
      simp only [beq_self_eq_true, if_true]
      exact .inl (hrun (h.1 rfl))
    · have : (b == want) = false := by simpa using hb
      rw [this]
      simp only [Bool.false_eq_true, if_false]
      exact hskip (h.2 (by cases b <;> cases want <;> simp_all))
  · rename_i xs want hg
    rw [g3 xs want hg]
    simp only [Bool.false_eq_true, if_false]
    exact hskip h
  · exact h.elim

theorem anyA_sound {Φ : St → Prop} {Q' : Exit → Act → World → Prop} (hQ : ∀ s a w, Φ s → RR w0 I A0 n s a w → Q' .normal a w) : ∀ (fuel : Nat) (listed : Array Bool) (s : St) (a : Act) (w : World), anyA P n ops Φ fuel listed s → RR w0 I A0 n s a w →
    wpAny P .any ops Q' fuel listed a w
  | 0, _, _, _, _, h, hR => ⟨h.1, hQ _ _ _ h.2 hR⟩
  | fuel + 1, listed, s, a, w, h, hR => ⟨fun h0 => hQ _ _ _ (h.1 h0) hR, fun i hi => by
      have h2 := h.2 i hi
      unfold wpOp
      split
      · rename_i hn
        rw [hn] at h2
        exact anyA_sound hQ fuel _ s a w h2 hR
      · rename_i o ho
        rw [ho] at h2
        exact aStep_sound (fun s' a' w' hs hR' => anyA_sound hQ fuel _ s' a' w' hs hR') hR h2⟩

theorem RB.killAll {s : St} {a : Act} {w : World} {β : Nat → Option Nat} {A : Nat → Prop} (R : RB w0 I A0 n s a w β A) (K : Nat → Bool) : RB w0 I A0 n (s.kill K) a w β A ∧ okS K (s.kill K) := by
  have S : Step ⟨w, A, s.h, β⟩ ⟨w, A, (s.kill K).h, β⟩ := by
    refine ⟨fun b hb _ => rfl, Nat.le_refl _, fun b hb h => h, fun b hb h => ?_⟩
    obtain ⟨o, ob', ho, hbo⟩ := h
    simp only [St.kill] at ho
    split at ho
    · cases ho
    · cases hso : s.h o with
      | none => simp [hso] at ho
      | some ob2 => exact ⟨o, ob2, hso, hbo⟩
  have hk : ∀ p, K p = false → Keep ⟨w, A, s.h, β⟩ ⟨w, A, (s.kill K).h, β⟩ p := by
    intro p hp ob' ho'
    simp only [St.kill, hp, Bool.false_eq_true, if_false] at ho'
    cases hso : s.h p with
    | none => simp [hso] at ho'
    | some ob2 =>
      simp [hso] at ho'
      subst ho'
      exact ⟨ob2, hso, by rw [Ob.kill_len]; exact Nat.le_refl _, fun _ => ⟨rfl, Ob.kill_es _ _, Ob.kill_ty _ _, fun b cur' hb hcur => ⟨cur', hcur, rfl⟩⟩⟩
  have hsrc : ∀ o ob', (s.kill K).h o = some ob' → ∃ ob, s.h o = some ob ∧ K o = false ∧ ob' = ob.kill K := by
    intro o ob' ho
    simp only [St.kill] at ho
    split at ho
    · cases ho
    · rename_i hKo
      cases hso : s.h o with
      | none => simp [hso] at ho
      | some ob2 => simp [hso] at ho; exact ⟨ob2, rfl, by simpa using hKo, ho.symm⟩
  have hobs : ObsOK ⟨w, A, (s.kill K).h, β⟩ := by
    refine ⟨fun o ob' ho => ?_, fun o o' ob1 ob2 b h1 h2 h3 h4 => ?_, R.obs.lt⟩
    · obtain ⟨ob, hso, _, rfl⟩ := hsrc o ob' ho
      have hok := R.obs.ok o ob hso
      exact ObOK.step R.obs S _ hk (fun b hb => ⟨rfl, by simp only at hok hb; rw [hb] at hok; exact hok.1⟩) hok
    · obtain ⟨ob3, hs1, _, _⟩ := hsrc o ob1 h1
      obtain ⟨ob4, hs2, _, _⟩ := hsrc o' ob2 h2
      exact R.obs.inj o o' ob3 ob4 b hs1 hs2 h3 h4
  refine ⟨R.step w β A (s.kill K).h K S hk hobs R.a0 R.ev (fun o ob b ho hb => ?_) (fun o hq hx => by simp [St.kill, hx]) none (fun _ h => by cases h) .dead undef trivial, ⟨fun i => okV_of_rel (R.slots i), fun o ob' ho => ?_, fun o ho => by simp [St.kill, ho]⟩⟩
  · obtain ⟨ob3, hs1, _, _⟩ := hsrc o ob ho
    exact R.own o ob3 b hs1 hb
  · obtain ⟨ob, hso, hKo, rfl⟩ := hsrc o ob' ho
    have hok := R.obs.ok o ob hso
    intro row hrow x hx
    rw [Ob.kill_imp]
    cases hb : β o with
    | none =>
      simp only at hok
      rw [hb] at hok
      have h0 : ob.rows = [] := hok
      unfold Ob.kill at hrow
      split at hrow <;> simp [h0] at hrow
    | some b =>
      simp only at hok
      rw [hb] at hok
      obtain ⟨_, cur, _, _, _, hcc⟩ := hok
      unfold Ob.kill at hrow
      split at hrow
      · rename_i himp
        obtain ⟨r, hr, rfl⟩ := List.mem_map.1 hrow
        obtain ⟨y, hy, rfl⟩ := List.mem_map.1 hx
        obtain ⟨i, hi⟩ := List.getElem?_of_mem hr
        obtain ⟨j, hj⟩ := List.getElem?_of_mem hy
        obtain ⟨v, _, _, c3, _⟩ := hcc i r hi j y hj
        exact ⟨okC_of_rel c3, fun h => by simp [himp] at h⟩
      · rename_i himp
        obtain ⟨i, hi⟩ := List.getElem?_of_mem hrow
        obtain ⟨j, hj⟩ := List.getElem?_of_mem hx
        obtain ⟨v, _, _, c3, c4⟩ := hcc i row hi j x hj
        have c5 := pureV_of_relP (c4 (by simpa using himp))
        exact ⟨okC_pure c5, fun _ => c5⟩

def KI (l : List (Nat × Nat)) (p : Nat) : Bool := l.any fun q => decide (q.1 ≤ p % 1000) && decide (p % 1000 ≤ q.2)

def regionOK (ops : Array Oper) (perm : List (Nat × List Nat)) (ks : List (Nat × Nat)) : Bool := drawOK ops perm && ops.all fun o => match o.dst with | some d => KI ks d | none => true

theorem region_sound {id : Nat} {perm : List (Nat × List Nat)} {ks : List (Nat × Nat)} {Φ : St → Prop} {Q' : Exit → Act → World → Prop} (hm : P.follows .mixedOrders = true) (hr : regionOK ops perm ks = true) (hQ : ∀ s a w, Φ s → RR w0 I A0 n s a w → Q' .normal a w)
    {s : St} {a : Act} {w : World} (hR : RR w0 I A0 n s a w) (h : seqD P n ops Φ perm (s.kill (KI ks))) : (Code.region id ops true).wp P Q' a w := by
  simp only [regionOK, Bool.and_eq_true] at hr
  obtain ⟨hperm, hks⟩ := hr
  simp only [drawOK, Bool.and_eq_true, beq_iff_eq] at hperm
  obtain ⟨⟨hD, hlen⟩, hlex⟩ := hperm
  refine wp_region_any hm ?_
  obtain ⟨β, A, R⟩ := hR
  obtain ⟨R2, hok⟩ := (R.drew (w.drawn + 1)).killAll (KI ks)
  have hok' : okS (Kp ops (Array.replicate ops.size false)) (s.kill (KI ks)) := hok.mono fun p hp => by
    obtain ⟨i, o, ho, _, hd⟩ := Kp_iff.1 hp
    rw [Array.all_eq_true] at hks
    have hlt : i < ops.size := by
      rcases Nat.lt_or_ge i ops.size with h | h
      · exact h
      · rw [Array.getElem?_eq_none h] at ho; cases ho
    have h1 := hks i hlt
    have h2 : ops[i] = o := by simpa [hlt] using ho
    rw [h2, hd] at h1
    simpa [KI] using h1
  have h9 := anyA_sound hQ _ _ _ _ _ (seqD_any hD perm _ _ hlex hok' h) ⟨_, _, R2⟩
  rw [hlen] at h9
  exact h9

end
end Go.AL
