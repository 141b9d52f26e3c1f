/-
  ForestStaysValid, ForestInsertRemove and ForestGrows: the plain law. By an AI agent.
-/
import Derived.Test.YteppokgkagjklaaH7
namespace Go.AL
open Go.Proofs
set_option linter.unusedVariables false
set_option linter.unusedSimpArgs false
theorem ancN_of {p e : SEn} (h : anc p e) : ancN p.2.2 e.2.2 := fun k hk => (fabv_iff p.2.2 e.2.2 k).2 (h k hk)
theorem vg_of {m : Int} {l : List SEn} (h : Vf m l) : Vg l := by
  refine ⟨h.node, fun e he => ?_, h.sorted, ?_, ?_, fun p hp e he => ancN_of (h.anc p hp e he)⟩
  · have := h.cs e he
    simp only [csB, Bool.and_eq_true, decide_eq_true_eq]; omega
  · refine h.sorted.imp_of_mem (fun {a b} ha hb hl => ?_)
    rintro ⟨e1, e2⟩
    rw [h.slots a ha b hb e1 e2, less_irrefl] at hl; cases hl
  · exact h.sorted.imp_of_mem (fun {a b} ha hb _ => h.coex a ha b hb)
theorem Vg.sub {l l' : List SEn} (h : Vg l) (hs : l'.Sublist l) : Vg l' :=
  ⟨fun e he => h.node e (hs.subset he), fun e he => h.cs e (hs.subset he), h.sorted.sublist hs, h.slots.sublist hs, h.coex.sublist hs, fun p hp e he => h.anc p (hs.subset hp) e (hs.subset he)⟩
theorem remS_mem {l : List SEn} {e : SEn} (he : e ∈ l) : ∃ k, k < l.length ∧ remS (l, eid e) = (l.take k ++ l.drop (k + 1), true) := by
  obtain ⟨f1, f2, _⟩ := findE_at he rfl
  refine ⟨(findE l (eid e)).toNat, by omega, ?_⟩
  simp only [remS, decide_eq_true (show findE l (eid e) ≥ 0 from f1)]; rfl
theorem rem_sub (l : List SEn) (k : Nat) : (l.take k ++ l.drop (k + 1)).Sublist l := by
  have h : (l.take k ++ l.drop (k + 1)).Sublist (l.take k ++ l.drop k) := by
    refine (List.Sublist.refl _).append ?_
    rw [show l.drop (k + 1) = (l.drop k).drop 1 by rw [List.drop_drop]]
    exact List.drop_sublist ..
  rwa [List.take_append_drop] at h
theorem filter_cnt {α : Type} (p : α → Bool) (l : List α) : (l.filter fun x => !p x).length + (l.filter p).length = l.length := by
  induction l with
  | nil => rfl
  | cons x l ih => simp only [List.filter_cons]; cases p x <;> simp <;> omega
theorem place_mem {l : List SEn} (z : SEn) (which : Int) (h0 : 0 < l.length) : l.getD (place (which, ((l.length : Nat) : Int))).toNat z ∈ l := by
  have := place_range which (s := ((l.length : Nat) : Int)) (by omega)
  rw [List.getD_eq_getElem?_getD, List.getElem?_eq_getElem (by omega)]
  exact List.getElem_mem _
theorem stv_true : ∀ a : List SSt × Int × Int, ∃ f, M_stv f a = some true := by
  rintro ⟨steps, which, core⟩
  obtain ⟨hv, hlen⟩ := forest_vf steps
  have key : P_stv (steps, which, core) = true ∧ F_stv (steps, which, core) = true := by
    have hE : okE (forest steps) = true := okE_vf hv (by omega)
    have hF : okF (forest steps) = true := by simp only [okF, Bool.and_eq_true]; exact ⟨decide_eq_true (by omega), hE⟩
    have hg := vg_of hv
    have e1 := okF_sub hF (eviS_sub (forest steps) (place (core, 4))).1 (eviS_sub (forest steps) (place (core, 4))).2
    have e2 : fvalS (eviS (forest steps, place (core, 4))) = true := (fvalS_iff _).2 (hg.sub List.filter_sublist)
    simp only [P_stv, F_stv, hE, hF, e1, e2, Bool.true_and, Bool.not_true, cond_false]
    generalize forest steps = l at hv hlen hE hF hg ⊢
    cases h0 : (((l.length : Nat) : Int) == 0)
    case true => exact ⟨rfl, rfl⟩
    simp only [cond_false]
    have hpos : 0 < l.length := by
      have : ¬ ((l.length : Nat) : Int) = 0 := by simpa using h0
      omega
    have kp := place_range which (s := ((l.length : Nat) : Int)) (by omega)
    have hpp : place_pre (which, ((l.length : Nat) : Int)) = true := decide_eq_true (by show ((l.length : Nat) : Int) ≤ _; omega)
    have hm := place_mem (0, 0, 0, 0, 0, [], 0, 0, 0, 0, 0, 0, false) which hpos
    rw [hpp, decide_eq_true kp.1, decide_eq_true kp.2]
    generalize l.getD (place (which, ((l.length : Nat) : Int))).toNat (0, 0, 0, 0, 0, [], 0, 0, 0, 0, 0, 0, false) = e at hm ⊢
    have ei : ((e.2.2.1, e.2.2.2.1, e.2.2.2.2.1) : SId) = eid e := rfl
    rw [ei]
    obtain ⟨k, k1, k2⟩ := remS_mem hm
    have g1 := hg.sub (rem_sub l k)
    have g2 : Vg (pruS (l, eid e)) := hg.sub List.filter_sublist
    have o1 := okF_sub hF (remS_sub l (eid e)).1 (remS_sub l (eid e)).2
    have o2 := okF_sub hF (pruS_sub l (eid e)).1 (pruS_sub l (eid e)).2
    have hin : e ∈ pruS (l, eid e) := by
      refine List.mem_filter.2 ⟨hm, ?_⟩
      have := ((vnodB_iff _).1 (hv.node e hm)).2.2.2.2.2
      rw [Bool.not_eq_true', memD_not]; exact this
    obtain ⟨f1, f2, _⟩ := findE_at hin rfl
    have hn : (pruS (l, eid e)).length + (desS l (eid e)).length = l.length := by
      simp only [pruS, desS, List.length_map]
      exact filter_cnt (fun e' : SEn => memD (eid e) (epath e')) l
    have w1 : IntKind.i64.wrap (((l.length : Nat) : Int) - 1) = ((l.length : Nat) : Int) - 1 := i64_id (by omega) (by omega)
    have w2 : IntKind.i64.wrap (((l.length : Nat) : Int) - (((desS l (eid e)).length : Nat) : Int)) = (((pruS (l, eid e)).length : Nat) : Int) := by rw [i64_id (by omega) (by omega)]; omega
    have n1 : ((((l.take k ++ l.drop (k + 1)).length : Nat) : Int) == ((l.length : Nat) : Int) - 1) = true := by
      simp only [beq_iff_eq, List.length_append, List.length_take, List.length_drop]; omega
    rw [k2] at o1 ⊢
    simp only [w1, w2, n1, o1, o2, okF_E o2, (fvalS_iff _).2 g1, (fvalS_iff _).2 g2, fndR_ok, decide_eq_true (show findE (pruS (l, eid e)) (eid e) ≥ 0 from f1), beq_self_eq_true, cond_true, Bool.true_and, Bool.and_true]
    exact ⟨decide_eq_true (okE_len (okF_E o2)), trivial⟩
  have := stv_auto (steps, which, core) key.1
  rw [key.2] at this; exact this
end Go.AL
