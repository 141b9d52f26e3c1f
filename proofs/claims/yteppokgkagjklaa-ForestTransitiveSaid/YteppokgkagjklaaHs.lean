/-
  ForestQueriesExact, ForestTransitive and ForestReparents: the plain law. By an AI agent.
-/
import Derived.Test.YteppokgkagjklaaHq
namespace Go.AL
open Go.Proofs
set_option linter.unusedVariables false
set_option linter.unusedSimpArgs false
theorem fndR_fst (k : Int) : (fndR k).1 = if 0 > k then 0 else k := by
  unfold fndR
  by_cases h : k ≥ 0
  · rw [decide_eq_true h, if_neg (by omega)]; rfl
  · rw [decide_eq_false h, if_pos (by omega)]; rfl
theorem qex_true : ∀ a : List SEn × SId × Int × Int, ArgsW [.rd tSEn, .g tSId, .c (.int .i64), .c (.int .i64)] a → ∃ f, M_qex f a = some true := by
  rintro ⟨l, id, core, slot⟩ hw
  have key : P_qex (l, id, core, slot) = true ∧ F_qex (l, id, core, slot) = true := by
    simp only [P_qex, F_qex]
    cases hf : F_few l
    · exact ⟨rfl, rfl⟩
    obtain ⟨h1, h2, h3⟩ := few_ok hf
    have hp : parPre (l, id) = true := by
      simp only [parPre, Bool.and_eq_true, List.all_eq_true]
      exact ⟨decide_eq_true (by omega), fun e he => decide_eq_true (by have := h2 e he; omega)⟩
    have h4 : len40n l = true := decide_eq_true (by omega)
    have hd : len40n (desS l id) = true := decide_eq_true (by
      simp only [desS, List.length_map]
      have := List.length_filter_le (fun x : SEn => memD id (epath x)) l
      omega)
    simp only [okF_E h3, hp, h4, hd, fndR_ok, fndR_fst, beq_self_eq_true, Bool.true_and, Bool.and_self, Bool.not_true, cond_true, cond_false, decide_true]
    exact ⟨trivial, trivial⟩
  have := qex_auto (l, id, core, slot) key.1
  rw [key.2] at this; exact this
theorem live_iff (l : List SEn) (t : SId) : findE l t ≥ 0 ↔ ∃ y ∈ l, eid y = t := by
  constructor
  · intro h
    obtain ⟨j, x, e1, e2, e3, _⟩ := findI_some (p := fun e : SEn => decide (eid e = t)) (l := l) (k := 0) (by omega) h
    exact ⟨x, List.mem_of_getElem? e2, by simpa using e3⟩
  · rintro ⟨y, hy, he⟩
    exact (findE_at hy he).1
theorem parS_mem {l : List SEn} (hs : l.Pairwise (fun a b => lessI (eid a, eid b) = true)) {u : SEn} (hu : u ∈ l) : parS (l, eid u) = lastIn l (epath u).reverse := by
  obtain ⟨f1, f2, x, f3, f4, f5⟩ := findE_at hu rfl
  have hx : x = u := sorted_uniq hs f3 hu f4
  rw [hx] at f5
  have f5 : l.getD (findE l (eid u)).toNat zE = u := f5
  simp only [parS, decide_eq_true (show findE l (eid u) ≥ 0 from f1), cond_true, f5]
theorem lastIn_spec (l : List SEn) : ∀ q : List SId, (∃ a p c, q = a ++ p :: c ∧ (∀ y ∈ a, findE l y < 0) ∧ findE l p ≥ 0 ∧ lastIn l q = (p, true)) ∨ ((∀ y ∈ q, findE l y < 0) ∧ lastIn l q = ((0, 0, 0), false))
  | [] => .inr ⟨fun y hy => (by cases hy), rfl⟩
  | x :: q => by
    by_cases hx : findE l x ≥ 0
    · exact .inl ⟨[], x, q, rfl, fun y hy => (by cases hy), hx, by simp only [lastIn, decide_eq_true hx]; rfl⟩
    · have e : lastIn l (x :: q) = lastIn l q := by simp only [lastIn, decide_eq_false hx]; rfl
      rcases lastIn_spec l q with ⟨a, p, c, h1, h2, h3, h4⟩ | ⟨h1, h2⟩
      · refine .inl ⟨x :: a, p, c, by rw [h1]; rfl, fun y hy => ?_, h3, by rw [e, h4]⟩
        rcases List.mem_cons.1 hy with rfl | hy
        · omega
        · exact h2 y hy
      · refine .inr ⟨fun y hy => ?_, by rw [e, h2]⟩
        rcases List.mem_cons.1 hy with rfl | hy
        · omega
        · exact h1 y hy
theorem mem_des {l : List SEn} {id b : SId} : b ∈ desS l id ↔ ∃ x ∈ l, id ∈ epath x ∧ eid x = b := by
  simp only [desS, List.mem_map, List.mem_filter, memD_iff]
  constructor
  · rintro ⟨x, ⟨h1, h2⟩, h3⟩; exact ⟨x, h1, h2, h3⟩
  · rintro ⟨x, h1, h2, h3⟩; exact ⟨x, ⟨h1, h2⟩, h3⟩
theorem vf_path {m : Int} {l : List SEn} (h : Vf m l) {x y : SEn} (hx : x ∈ l) (hy : y ∈ l) (hm : eid x ∈ epath y) : ∃ k, (epath y)[k]? = some (eid x) ∧ epath x = (epath y).take k := by
  obtain ⟨k, hk, e⟩ := List.getElem_of_mem hm
  have : (epath y)[k]? = some (eid x) := by rw [List.getElem?_eq_getElem hk, e]
  exact ⟨k, this, (h.anc x hx y hy k this).1⟩
theorem par_below {m : Int} {l : List SEn} (h : Vf m l) {top : SId} (ht : findE l top ≥ 0) {x : SEn} (hx : x ∈ l) (hm : top ∈ epath x) : ∃ p, parS (l, eid x) = (p, true) ∧ (p = top ∨ p ∈ desS l top) := by
  rw [parS_mem h.sorted hx]
  rcases lastIn_spec l (epath x).reverse with ⟨a, p, c, h1, h2, h3, h4⟩ | ⟨h1, h2⟩
  · refine ⟨p, h4, ?_⟩
    have h1 : epath x = c.reverse ++ p :: a.reverse := by rw [← List.reverse_reverse (epath x), h1]; simp
    obtain ⟨z, hz, hze⟩ := (live_iff l p).1 h3
    have hk : (epath x)[c.length]? = some (eid z) := by rw [h1, hze]; simp
    have hpz := (h.anc z hz x hx _ hk).1
    rw [h1] at hm hpz
    rw [show c.length = c.reverse.length by simp, List.take_left] at hpz
    rcases List.mem_append.1 hm with hm | hm
    · exact .inr (mem_des.2 ⟨z, hz, by rw [hpz]; exact hm, hze⟩)
    · rcases List.mem_cons.1 hm with hm | hm
      · exact .inl hm.symm
      · have := h2 top (by simpa using hm); omega
  · have := h1 top (by simpa using hm); omega
theorem trs_2 (K KP : List SEn × SId × List SId × Nat → Bool) {m : Int} {l : List SEn} (h : Vf m l) (hl : l.length ≤ 1000) {top : SId} (ht : findE l top ≥ 0) (i : Nat) {b : SId} (hb : (desS l top)[i]? = some b) (more : List SId) :
    ∀ (r : List SId) (k : Nat), (∀ y ∈ r, y ∈ desS l b) → F_trs_2 K r (l, top, desS l top, i, more, k) = K (l, top, desS l top, i + 1) ∧ (KP (l, top, desS l top, i + 1) = true → P_trs_2 KP r (l, top, desS l top, i, more, k) = true)
  | [], k, hr => by
    have hg : (desS l top).getD (Int.toNat (i : Int)) (0, 0, 0) = b := by rw [Int.toNat_natCast, List.getD_eq_getElem?_getD, hb]; rfl
    obtain ⟨x, hx, hxt, hxb⟩ := mem_des.1 (List.mem_of_getElem? hb)
    obtain ⟨p, hp, hpt⟩ := par_below h ht hx hxt
    have hE := okE_vf h hl
    have hpp : parPre (l, b) = true := by
      simp only [parPre, Bool.and_eq_true, List.all_eq_true]
      exact ⟨decide_eq_true (by omega), fun e he => decide_eq_true (by have := h.path he; omega)⟩
    have hd : len40n (desS l top) = true := decide_eq_true (by
      simp only [desS, List.length_map]
      have := List.length_filter_le (fun x : SEn => memD top (epath x)) l
      omega)
    rw [hxb] at hp
    have e : (p.1 == top.1 && (p.2.1 == top.2.1 && (p.2.2 == top.2.2 && true))) = decide (p = top) := id_eq p top
    simp only [F_trs_2, P_trs_2, hg, hp, hE, hpp, hd, e, Bool.not_true, cond_false, Bool.true_and]
    by_cases he : p = top
    · rw [decide_eq_true he]; exact ⟨rfl, fun h => h⟩
    · rw [decide_eq_false he, memD_iff.2 (hpt.resolve_left he)]; exact ⟨rfl, fun h => h⟩
  | y :: r, k, hr => by
    obtain ⟨i1, i2⟩ := trs_2 K KP h hl ht i hb more r (k + 1) (fun z hz => hr z (List.mem_cons_of_mem _ hz))
    obtain ⟨x, hx, hxt, hxb⟩ := mem_des.1 (List.mem_of_getElem? hb)
    obtain ⟨z, hz, hzb, hzy⟩ := mem_des.1 (hr y (List.mem_cons_self ..))
    rw [← hxb] at hzb
    obtain ⟨k', _, hk2⟩ := vf_path h hx hz hzb
    have hin : memD y (desS l top) = true := memD_iff.2 (mem_des.2 ⟨z, hz, List.mem_of_mem_take (by rw [← hk2]; exact hxt), hzy⟩)
    have hd : len40n (desS l top) = true := decide_eq_true (by
      simp only [desS, List.length_map]
      have := List.length_filter_le (fun x : SEn => memD top (epath x)) l
      omega)
    simp only [F_trs_2, P_trs_2, hin, hd, i1, Bool.not_true, cond_false, Bool.true_and]
    exact ⟨trivial, i2⟩
theorem trs_0 {m : Int} {l : List SEn} (h : Vf m l) (hl : l.length ≤ 1000) {top : SId} (ht : findE l top ≥ 0) : ∀ (r p : List SId), desS l top = p ++ r → F_trs_0 r (l, top, desS l top, p.length) = true ∧ P_trs_0 r (l, top, desS l top, p.length) = true
  | [], p, hd => ⟨rfl, rfl⟩
  | b :: r, p, hd => by
    obtain ⟨i1, i2⟩ := trs_0 h hl ht r (p ++ [b]) (by simpa using hd)
    rw [show (p ++ [b]).length = p.length + 1 by simp] at i1 i2
    have hb : (desS l top)[p.length]? = some b := by rw [hd]; simp
    obtain ⟨j1, j2⟩ := trs_2 (F_trs_0 r) (P_trs_0 r) h hl ht p.length hb (desS l b) (desS l b) 0 (fun y hy => hy)
    have hE := okE_vf h hl
    have hlen : (desS l b).length ≤ 1099511627776 := by
      simp only [desS, List.length_map]
      have := List.length_filter_le (fun x : SEn => memD b (epath x)) l
      omega
    simp only [F_trs_0, P_trs_0, j1, i1, j2 i2, hE, decide_eq_true hlen, Bool.true_and]
    exact ⟨trivial, trivial⟩
theorem trs_true : ∀ a : List SSt × Int, ∃ f, M_trs f a = some true := by
  rintro ⟨steps, which⟩
  obtain ⟨hv, hlen⟩ := forest_vf steps
  have key : P_trs (steps, which) = true ∧ F_trs (steps, which) = true := by
    have hE : okE (forest steps) = true := okE_vf hv (by omega)
    simp only [P_trs, F_trs, hE, Bool.true_and]
    generalize forest steps = l at hv hlen hE ⊢
    cases h0 : (((l.length : Nat) : Int) == 0)
    case true => exact ⟨rfl, rfl⟩
    simp only [cond_false]
    have hpos : 0 < l.length := by
      have : ¬ ((l.length : Nat) : Int) = 0 := by simpa using h0
      omega
    have kp := place_range which (s := ((l.length : Nat) : Int)) (by omega)
    have hpp : place_pre (which, ((l.length : Nat) : Int)) = true := decide_eq_true (by show ((l.length : Nat) : Int) ≤ _; omega)
    have hm : l.getD (place (which, ((l.length : Nat) : Int))).toNat (0, 0, 0, 0, 0, [], 0, 0, 0, 0, 0, 0, false) ∈ l := by
      rw [List.getD_eq_getElem?_getD, List.getElem?_eq_getElem (by omega)]
      exact List.getElem_mem _
    rw [hpp, decide_eq_true kp.1, decide_eq_true kp.2]
    generalize l.getD (place (which, ((l.length : Nat) : Int))).toNat (0, 0, 0, 0, 0, [], 0, 0, 0, 0, 0, 0, false) = e at hm ⊢
    have ei : ((e.2.2.1, e.2.2.2.1, e.2.2.2.2.1) : SId) = eid e := rfl
    rw [ei]
    have hn : memD (eid e) (desS l (eid e)) = false := by
      rw [memD_not]
      intro hh
      obtain ⟨x, hx, h1, h2⟩ := mem_des.1 hh
      rw [← h2] at h1
      exact ((vnodB_iff _).1 (hv.node x hx)).2.2.2.2.2 h1
    have hd : (desS l (eid e)).length ≤ 1099511627776 := by
      simp only [desS, List.length_map]
      have := List.length_filter_le (fun x : SEn => memD (eid e) (epath x)) l
      omega
    obtain ⟨i1, i2⟩ := trs_0 hv (by omega) (findE_at hm rfl).1 (desS l (eid e)) [] rfl
    rw [List.length_nil] at i1 i2
    rw [hn, i1, i2, show len40n (desS l (eid e)) = true from decide_eq_true hd, decide_eq_true hd]
    exact ⟨rfl, rfl⟩
  have := trs_auto (steps, which) key.1
  rw [key.2] at this; exact this
end Go.AL
