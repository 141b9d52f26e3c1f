/-
  THE CLOSED RUN IN STAGES: a chain of statements is run piece by piece, from one written state to the next. By an AI agent.
-/
import Derived.Test.YtbhnmholmpdmeaaGreatCxRun
import Derived.Test.YtbhnmholmpdmeaaGreatCxOr
namespace Go.CX
set_option linter.unusedVariables false
set_option linter.unusedSimpArgs false
set_option linter.unusedSectionVars false

/-! ### Written states -/
def mkH : List (Nat × AO) → Tr AO
  | [] => .leaf
  | (i, o) :: l => (mkH l).put i (some o)
theorem mkH_get : ∀ {l : List (Nat × AO)} {i : Nat} {o : AO}, (mkH l).get i = some o → (i, o) ∈ l
  | [], i, o, h => by simp [mkH, Tr.get] at h
  | (j, x) :: l, i, o, h => by
    unfold mkH at h
    rw [Tr.get_put] at h
    by_cases e : i = j
    · subst e
      rw [if_pos rfl] at h
      cases h
      simp
    · rw [if_neg e] at h
      simp [mkH_get h]
def stOf (l : List Value) (m : List (Nat × AO)) (k : Nat) : CS := ⟨initT l 0 .leaf, ⟨mkH m, k⟩⟩

def enO : List MapEntry → List MapEntry → Option (List (Int × Int))
  | [], [] => some []
  | x :: l, y :: l' => bif Nat.beq x.born y.born then (match vi x.key y.key, vi x.val y.val, enO l l' with
    | some p, some q, some r => some (p ++ (q ++ r))
    | _, _, _ => none) else none
  | _, _ => none
def coO : AO → AO → Option (List (Int × Int))
  | .row cs e, .row cs' e' => bif Nat.beq e e' then viM cs cs' else none
  | .mp es c, .mp es' c' => bif Nat.beq c c' then enO es es' else none
  | _, _ => none
theorem vi_eq {x y : Value} {l : List (Int × Int)} (h : vi x y = some l) (he : EqP l) : x = y := veq_eq (vi_ok h he)
theorem enO_ok : ∀ {x y : List MapEntry} {l : List (Int × Int)}, enO x y = some l → EqP l → x = y
  | [], [], l, h, he => rfl
  | x :: r, y :: r', l, h, he => by
    unfold enO at h
    cases hb : Nat.beq x.born y.born with
    | false => rw [hb] at h; cases h
    | true =>
      rw [hb] at h
      simp only [cond_true] at h
      split at h <;> try (cases h; done)
      rename_i p q s h1 h2 h3
      cases h
      obtain ⟨e1, e2⟩ := he.app
      obtain ⟨e2, e3⟩ := e2.app
      have k1 := vi_eq h1 e1
      have k2 := vi_eq h2 e2
      have k3 := Nat.eq_of_beq_eq_true hb
      have k4 := enO_ok h3 e3
      cases x; cases y
      simp only at k1 k2 k3
      subst k1 k2 k3 k4
      rfl
  | [], _ :: _, l, h, he => by simp [enO] at h
  | _ :: _, [], l, h, he => by simp [enO] at h
theorem coO_ok {x y : AO} {l : List (Int × Int)} (h : coO x y = some l) (he : EqP l) : x = y := by
  unfold coO at h
  split at h
  · rename_i cs e cs' e'
    cases hb : Nat.beq e e' with
    | false => rw [hb] at h; cases h
    | true =>
      rw [hb] at h
      rw [veM_eq (viM_ok h he), Nat.eq_of_beq_eq_true hb]
  · rename_i es c es' c'
    cases hb : Nat.beq c c' with
    | false => rw [hb] at h; cases h
    | true =>
      rw [hb] at h
      rw [enO_ok h he, Nat.eq_of_beq_eq_true hb]
  · cases h

def slO (s : Tr Value) : List Value → Nat → Option (List (Int × Int))
  | [], _ => some []
  | v :: l, i => match vi (gS s i) v, slO s l (i + 1) with
    | some p, some q => some (p ++ q)
    | _, _ => none
def obO (t : Tr AO) : List (Nat × AO) → Option (List (Int × Int))
  | [] => some []
  | (i, o) :: l => match t.get i with
    | some x => match coO x o, obO t l with
      | some p, some q => some (p ++ q)
      | _, _ => none
    | none => none
theorem slO_ok {s : Tr Value} : ∀ {l : List Value} {i : Nat} {p : List (Int × Int)}, slO s l i = some p → EqP p → ∀ j v, l[j]? = some v → gS s (i + j) = v
  | [], i, p, h, he, j, v, hj => by simp at hj
  | x :: l, i, p, h, he, j, v, hj => by
    unfold slO at h
    split at h <;> try (cases h; done)
    rename_i a b h1 h2
    cases h
    obtain ⟨e1, e2⟩ := he.app
    cases j with
    | zero => simp at hj; subst hj; exact vi_eq h1 e1
    | succ j =>
      have := slO_ok h2 e2 j v (by simpa using hj)
      rw [show i + (j + 1) = i + 1 + j by omega]
      exact this
theorem obO_ok {t : Tr AO} : ∀ {l : List (Nat × AO)} {p : List (Int × Int)}, obO t l = some p → EqP p → ∀ i o, (i, o) ∈ l → t.get i = some o
  | [], p, h, he, i, o, hm => by simp at hm
  | (j, x) :: l, p, h, he, i, o, hm => by
    unfold obO at h
    split at h <;> try (cases h; done)
    rename_i y hy
    split at h <;> try (cases h; done)
    rename_i a b h1 h2
    cases h
    obtain ⟨e1, e2⟩ := he.app
    rcases List.mem_cons.1 hm with hm | hm
    · cases hm
      rw [hy, coO_ok h1 e1]
    · exact obO_ok h2 e2 i o hm
def covO (n : Nat) (st : CS) (l : List Value) (m : List (Nat × AO)) (k : Nat) : Option (List (Int × Int)) := bif Nat.beq l.length n && Nat.beq st.h.n k then (match slO st.s l 0, obO st.h.t m with
  | some p, some q => some (p ++ q)
  | _, _ => none) else none

def SOK (P : Program) (w0 : World) (n : Nat) (c : Code) (st : CS) (Q : Exit → Act → World → Prop) : Prop := ∀ β a w, SR P w0 n β st a w → c.wp P Q a w
section
variable {P : Program} {w0 : World} {n : Nat}
theorem SR.cov {β : Be} {st : CS} {a : Act} {w : World} (R : SR P w0 n β st a w) {l : List Value} {m : List (Nat × AO)} {k : Nat} {p : List (Int × Int)} (h : covO n st l m k = some p) (he : EqP p) : SR P w0 n β (stOf l m k) a w := by
  unfold covO at h
  cases hb : Nat.beq l.length n && Nat.beq st.h.n k with
  | false => rw [hb] at h; cases h
  | true =>
    rw [hb] at h
    simp only [cond_true] at h
    simp only [Bool.and_eq_true] at hb
    have hl := Nat.eq_of_beq_eq_true hb.1
    have hk := Nat.eq_of_beq_eq_true hb.2
    split at h <;> try (cases h; done)
    rename_i x y h1 h2
    cases h
    obtain ⟨e1, e2⟩ := he.app
    refine ⟨fun t => ?_, R.sz, R.df, R.W.weak fun i o hi => obO_ok h2 e2 i o (mkH_get hi), fun i hi => R.fr i (by show st.h.n ≤ i; rw [hk]; exact hi)⟩
    show VR β (gS (initT l 0 .leaf) t) _
    simp only [gS, initT_get, Tr.get_leaf, Nat.zero_le, true_and, Nat.zero_add, Nat.sub_zero]
    by_cases ht : t < l.length
    · rw [if_pos ht, List.getElem?_eq_getElem ht]
      have := slO_ok h1 e1 t _ (List.getElem?_eq_getElem ht)
      rw [Nat.zero_add] at this
      have hT := R.T t
      rw [this] at hT
      exact hT
    · rw [if_neg ht]
      have : a.tmps.getD t undef = undef := by
        rw [Array.getD_eq_getD_getElem?, Array.getElem?_eq_none (by have := R.sz; omega)]
        rfl
      rw [this]
      exact vr_undef
def dropS : Nat → Code → Code
  | 0, c => c
  | k + 1, .seq x y => dropS k y
  | _ + 1, c => c
def headsO {σ : Type} (run : Code → CS → σ → Option ((Ex × CS) × σ)) : Nat → Code → CS → σ → Option (CS × σ)
  | 0, c, st, O => some (st, O)
  | k + 1, .seq x y, st, O => match run x st O with
    | some ((.normal, st'), O1) => headsO run k y st' O1
    | _ => none
  | _ + 1, _, _, _ => none
theorem headsO_ok {σ : Type} {Good : σ → Prop} {run : Code → CS → σ → Option ((Ex × CS) × σ)} {f : Nat} (hm : P.follows .mixedOrders = true) (hrun : ∀ c st O r O', run c st O = some (r, O') → Good O' → runC P f n c st = some r ∧ Good O) {Q : Exit → Act → World → Prop} :
    ∀ {k : Nat} {c : Code} {st st' : CS} {O O' : σ}, headsO run k c st O = some (st', O') → Good O' → Good O ∧ (SOK P w0 n (dropS k c) st' Q → SOK P w0 n c st Q)
  | 0, c, st, st', O, O', h, g => by cases h; exact ⟨g, fun h => h⟩
  | k + 1, c, st, st', O, O', h, g => by
    cases c with
    | seq x y =>
      unfold headsO at h
      split at h <;> try (cases h; done)
      rename_i st1 O1 h1
      obtain ⟨g1, i1⟩ := headsO_ok hm hrun h g
      obtain ⟨e1, g2⟩ := hrun _ _ _ _ _ h1 g1
      refine ⟨g2, fun hs β a w R => wp_seq (runC_ok hm f n x st .normal st1 e1 w0 β a w R _ fun β1 a1 w1 R1 _ => i1 hs β1 a1 w1 R1)⟩
    | _ => cases h

def stageO (P : Program) (hook : FuncId → List Value → Option Value) (f n k : Nat) (c : Code) (st : CS) (l : List Value) (m : List (Nat × AO)) (nx : Nat) (orc : List (Nat × Bool)) : Option (List (Bool × Bool)) :=
  match headsO (runO askR askN P hook f n) k c st ⟨0, orc, []⟩ with
  | some (st', O) => match covO n st' l m nx with
    | some p => match askP askN p O with
      | (true, O') => some O'.obs
      | _ => none
    | none => none
  | none => none
theorem stageO_ok (hm : P.follows .mixedOrders = true) {hook : FuncId → List Value → Option Value} (hh : ∀ g args v, hook g args = some v → ∀ f h, 30 ≤ f → callW P (runC P f) g args h = some (v, h)) {f k : Nat} {c : Code} {st : CS} {l : List Value} {m : List (Nat × AO)} {nx : Nat}
    {orc : List (Nat × Bool)} {obs : List (Bool × Bool)} (h : stageO P hook f n k c st l m nx orc = some obs) (ho : ∀ p ∈ obs, p.1 = p.2) {Q : Exit → Act → World → Prop} (hs : SOK P w0 n (dropS k c) (stOf l m nx) Q) : SOK P w0 n c st Q := by
  unfold stageO at h
  split at h <;> try (cases h; done)
  rename_i st' O h1
  split at h <;> try (cases h; done)
  rename_i p hp
  split at h <;> try (cases h; done)
  rename_i O' h2
  cases h
  obtain ⟨e1, g1⟩ := askP_ok (Good := GoodR) askN_ok h2 ho
  obtain ⟨_, i1⟩ := headsO_ok (w0 := w0) (Q := Q) hm (fun c st O r O' hr g => runO_ok askR_ok askN_ok hh f n c st O r O' hr g) h1 g1
  exact i1 fun β a w R => hs β a w (R.cov hp e1)
def lastO (P : Program) (hook : FuncId → List Value → Option Value) (f : Nat) (fn : Func) (c : Code) (st : CS) (orc : List (Nat × Bool)) : Option (Value × List (Bool × Bool)) :=
  match runO askR askN P hook f fn.ntmps c st ⟨0, orc, []⟩ with
  | some ((.normal, st'), O) => match resL P st' fn.results.toList with
    | some k => some (packR k, O.obs)
    | none => none
  | some ((.ret, st'), O) => match resL P st' fn.results.toList with
    | some k => some (packR k, O.obs)
    | none => none
  | _ => none
abbrev EndR (w0 : World) (v : Value) : Ending → World → Prop := fun e w' => e = .returned v ∧ w'.os = w0.os ∧ w'.output = w0.output ∧ w'.tape = w0.tape ∧ w0.heap.size ≤ w'.heap.size ∧ ∀ b, b < w0.heap.size → w'.heap[b]? = w0.heap[b]?
theorem lastO_ok (hm : P.follows .mixedOrders = true) {hook : FuncId → List Value → Option Value} (hh : ∀ g args v, hook g args = some v → ∀ f h, 30 ≤ f → callW P (runC P f) g args h = some (v, h)) {f : Nat} {fn : Func} {c : Code} {st : CS} {v : Value}
    {orc : List (Nat × Bool)} {obs : List (Bool × Bool)} (h : lastO P hook f fn c st orc = some (v, obs)) (ho : ∀ p ∈ obs, p.1 = p.2) (hv : cln v = true) : SOK P w0 fn.ntmps c st (bodyPost P fn (EndR w0 v)) := by
  intro β a w R
  unfold lastO at h
  split at h <;> try (cases h; done)
  all_goals
    rename_i st' O h1
    split at h <;> try (cases h; done)
    rename_i k hk
    cases h
    obtain ⟨e1, _⟩ := runO_ok (Good := GoodR) askR_ok askN_ok hh f _ _ _ _ _ _ h1 ho
    refine runC_ok hm f _ _ _ _ _ e1 w0 β a w R _ fun β' a' w' R' Q' => ?_
    obtain ⟨v', q1, q2⟩ := run_resL R' fn hk
    have hvv := cln_eq hv q2
    exact ⟨R'.df, v', q1, by rw [hvv], R'.W.os, R'.W.out, R'.W.tape, R'.W.size, R'.W.old⟩
theorem staged_ok {g : FuncId} {fn : Func} {c : Code} {args : List Value} {v : Value} (hfn : P.funcs[g]? = some fn) (hb : fn.body = some c) (hargs : args.all atomC = true) (hle : args.length ≤ fn.ntmps)
    (h : ∀ w0, SOK P w0 fn.ntmps c ⟨initT args 0 .leaf, ⟨.leaf, 0⟩⟩ (bodyPost P fn (EndR w0 v))) (w : World) : Calls P g args.toArray w (EndR w v) := by
  have W : WR P w (fun _ => none) ⟨.leaf, 0⟩ w := ⟨rfl, rfl, rfl, Nat.le_refl _, fun _ _ => rfl, fun i m h => (by cases h), fun i o m h => (by simp [Tr.get] at h), fun i j o o' m m' h => (by simp [Tr.get] at h)⟩
  have R := enter_ok (args' := args.toArray) (fn := fn) (β := fun _ => none) (by simpa using VL.same hargs) hle W (fun _ _ => rfl)
  exact calls_of_wp hfn hb (h w _ _ w R)
end
end Go.CX
