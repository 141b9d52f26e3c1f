/-
  ForestConflictExact and ForestChangesExact return true at every input and leave their arguments as they were; no condition. By an AI agent.
-/
import Derived.Test.YteppokgkagjklaaH6
import Derived.Test.YteppokgkagjklaaRows
namespace Go.Proofs.Yteppokgkagjklaa
theorem Try.own : ownKnob Try.prog.godebug = none := by kernel_rfl
theorem Try.laidOut : laidOutB Try.prog = true := by kernel_rfl
end Go.Proofs.Yteppokgkagjklaa
namespace Go.AL
open Go.Proofs
set_option linter.unusedVariables false
set_option linter.unusedSimpArgs false
theorem few_not {l : List SEn} (h : F_few l = false) : (!F_few l) = true := by rw [h]; rfl
theorem okF_sub {l l' : List SEn} (h : okF l = true) (hs : ∀ e ∈ l', e ∈ l) (hl : l'.length ≤ l.length) : okF l' = true := by
  simp only [okF, Bool.and_eq_true]
  exact ⟨decide_eq_true (by have := okF_len h; omega), okE_mk (by have := okF_len h; omega) fun e he => okE_mem (okF_E h) (hs e he)⟩
theorem remS_sub (l : List SEn) (id : SId) : (∀ e ∈ (remS (l, id)).1, e ∈ l) ∧ (remS (l, id)).1.length ≤ l.length := by
  unfold remS
  cases decide (findE l id ≥ 0)
  · exact ⟨fun e he => (by cases he), by simp⟩
  · refine ⟨fun e he => ?_, by simp; omega⟩
    rcases List.mem_append.1 he with h | h
    · exact List.mem_of_mem_take h
    · exact List.mem_of_mem_drop h
theorem pruS_sub (l : List SEn) (id : SId) : (∀ e ∈ pruS (l, id), e ∈ l) ∧ (pruS (l, id)).length ≤ l.length := ⟨fun e he => (List.mem_filter.1 he).1, List.length_filter_le ..⟩
theorem eviS_sub (l : List SEn) (c : Int) : (∀ e ∈ eviS (l, c), e ∈ l) ∧ (eviS (l, c)).length ≤ l.length := ⟨fun e he => (List.mem_filter.1 he).1, List.length_filter_le ..⟩
theorem okE_insS {l : List SEn} {e : SEn} (h : okF l = true) (he : len40n (epath e) = true) : okF (insS (l, e)).1 = true ∨ (insS (l, e)).1.length ≤ l.length + 1 ∧ okE (insS (l, e)).1 = true := by
  right
  unfold insS
  cases decide (findE l (eid e) ≥ 0) || decide (atE l e.1 e.2.1 ≥ 0)
  · refine ⟨by rw [show (bif false then (([] : List SEn), false) else (insL e l, true)).1 = insL e l from rfl, len_insL]; omega, okE_mk (by rw [show (bif false then (([] : List SEn), false) else (insL e l, true)).1 = insL e l from rfl, len_insL]; have := okF_len h; omega) fun x hx => ?_⟩
    rcases mem_insL.1 hx with rfl | hx
    · exact he
    · exact okE_mem (okF_E h) hx
  · exact ⟨by simp, rfl⟩
theorem cex_true : ∀ a : List SEn × SId × List SCp × Rg, ArgsW [.rd tSEn, .g tSId, .rd tSCp, .g tRg] a → ∃ f, M_cex f a = some true := by
  rintro ⟨l, src, caps, r⟩ hw
  have hP : P_cex (l, src, caps, r) = true := by
    simp only [P_cex]
    cases hf : F_few l
    · rfl
    obtain ⟨h1, h2, h3⟩ := few_ok hf
    rw [Bool.not_true, cond_false]
    by_cases hc : (caps.length : Int) > 20
    · rw [decide_eq_true hc]; rfl
    rw [decide_eq_false hc, cond_false, okF_E h3]
    have e1 : cnfPre (l, src, caps) = true := by
      simp only [cnfPre, Bool.and_eq_true]; exact ⟨decide_eq_true (by omega), decide_eq_true (show caps.length ≤ _ by omega)⟩
    have e2 : frePre (l, r) = true := decide_eq_true (show l.length ≤ 1000 by omega)
    have e3 : len40n (freS (l, r)) = true := decide_eq_true (free_len _)
    rw [decide_eq_true (show caps.length * 56 ≤ 140737488355328 by omega), e1, e2, e3]
    simp
  have hF : F_cex (l, src, caps, r) = true := by
    have : sameS (freS (l, r), freS (l, r)) = true := decide_eq_true rfl
    simp only [F_cex, this, beq_self_eq_true, cond_true]
    cases F_few l <;> cases decide ((caps.length : Int) > 20) <;> rfl
  have := cex_auto (l, src, caps, r) hP
  rw [hF] at this; exact this
theorem chx_true : ∀ a : List SEn × SEn × SId × Int, ArgsW [.rd tSEn, .g tSEn, .g tSId, .c (.int .i64)] a → ∃ f, M_chx f a = some true := by
  rintro ⟨l, e, id, core⟩ hw
  have hP : P_chx (l, e, id, core) = true := by
    simp only [P_chx]
    cases hf : F_few l
    · rfl
    obtain ⟨h1, h2, h3⟩ := few_ok hf
    rw [Bool.not_true, cond_false]
    by_cases hc : (List.length e.2.2.2.2.2.1 : Int) > 20
    · rw [decide_eq_true hc]; rfl
    have hp : len40n (epath e) = true := decide_eq_true (by show e.2.2.2.2.2.1.length ≤ _; omega)
    have hp' : len40n e.2.2.2.2.2.1 = true := hp
    have e1 : insPreF (l, e) = true := by simp only [insPreF, Bool.and_eq_true]; exact ⟨h3, hp⟩
    have e2 : insPre (l, e) = true := by simp only [insPre, Bool.and_eq_true]; exact ⟨okF_E h3, hp⟩
    have e3 : okE (insS (l, e)).1 = true := by
      rcases okE_insS h3 hp with h | h
      · exact okF_E h
      · exact h.2
    have e4 := okF_E (okF_sub h3 (remS_sub l id).1 (remS_sub l id).2)
    have e5 := okF_E (okF_sub h3 (pruS_sub l id).1 (pruS_sub l id).2)
    have e6 := okF_E (okF_sub h3 (eviS_sub l core).1 (eviS_sub l core).2)
    rw [decide_eq_false hc, cond_false]
    simp only [okF_E h3, h3, e1, e2, e3, e4, e5, e6, Bool.true_and]
    cases sentS ((insS (l, e)).1, (insS (l, e)).1) <;> cases (insS (l, e)).2 == (insS (l, e)).2 <;> cases sentS ((remS (l, id)).1, (remS (l, id)).1) <;> cases (remS (l, id)).2 == (remS (l, id)).2 <;> cases sentS (pruS (l, id), pruS (l, id)) <;> rfl
  have hF : F_chx (l, e, id, core) = true := by
    have hs : ∀ x : List SEn, sentS (x, x) = true := fun x => decide_eq_true rfl
    simp only [F_chx, hs, beq_self_eq_true, cond_true]
    cases F_few l <;> cases decide ((List.length e.2.2.2.2.2.1 : Int) > 20) <;> rfl
  have := chx_auto (l, e, id, core) hP
  rw [hF] at this; exact this
end Go.AL
