/-
  Layer 16: the reference's Map and Unmap answer as the program's. By an AI agent.
-/
import Derived.Test.YtcpdakiailaneaaV4
import Derived.Test.YtcpdakiailaneaaVe
namespace Go.AL
open Go.Proofs
set_option linter.unusedVariables false
set_option linter.unusedSimpArgs false
theorem okT_okM {l : List SPT} (h : okT l = true) : okM l = true := by
  unfold okM
  rw [Bool.and_eq_true]
  exact ⟨decide_eq_true (by have := okT_len h; omega), List.all_eq_true.2 fun t ht => decide_eq_true (by have := okT_mem h ht; omega)⟩
theorem mapsOK_gt {t : SPT} : ∀ {l : List SMp} {last : Int}, mapsOK t l last = true → ∀ m ∈ l, last < m.1
  | [], _, _, m, hm => by cases hm
  | a :: l, last, h, m, hm => by
    simp only [mapsOK, Bool.and_eq_true, Bool.not_eq_true', decide_eq_false_iff_not] at h
    rcases List.mem_cons.1 hm with rfl | hm
    · omega
    · have := mapsOK_gt h.2.2.2.2.2.2.2 m hm; omega
theorem findI_no {α : Type} {p : α → Bool} : ∀ {l : List α} {k : Int}, (∀ x ∈ l, p x = false) → findI p l k = -1
  | [], _, _ => rfl
  | a :: l, k, h => by
    simp only [findI, h a (List.mem_cons_self ..), cond_false]
    exact findI_no (fun x hx => h x (List.mem_cons_of_mem _ hx))
theorem fm_lowP {t : SPT} (x : Int) : ∀ {l : List SMp} {last k : Int}, 0 ≤ k → mapsOK t l last = true → (findI (fun m : SMp => decide (m.1 = x)) l k ≥ 0 ↔ (lowB l x < l.length ∧ (l.getD (lowB l x) zM).1 = x))
  | [], _, _, _, _ => by simp [findI]
  | a :: l, last, k, hk, h => by
    have h' := h
    simp only [mapsOK, Bool.and_eq_true, Bool.not_eq_true', decide_eq_false_iff_not] at h'
    have hr := h'.2.2.2.2.2.2.2
    by_cases h1 : a.1 = x
    · have hl : lowB (a :: l) x = 0 := by simp only [lowB, List.takeWhile_cons, decide_eq_false (show ¬ a.1 < x by omega)]; rfl
      have e : findI (fun m : SMp => decide (m.1 = x)) (a :: l) k = k := by simp only [findI, decide_eq_true h1, cond_true]
      rw [hl, e]
      simp [h1, hk]
    · have e : findI (fun m : SMp => decide (m.1 = x)) (a :: l) k = findI (fun m : SMp => decide (m.1 = x)) l (k + 1) := by simp only [findI, decide_eq_false h1, cond_false]
      rw [e]
      by_cases h2 : a.1 < x
      · have hl : lowB (a :: l) x = lowB l x + 1 := by simp only [lowB, List.takeWhile_cons, decide_eq_true h2, if_true, List.length_cons]
        rw [hl, fm_lowP x (k := k + 1) (by omega) hr]
        simp [List.getD_cons_succ]
      · have hl : lowB (a :: l) x = 0 := by simp only [lowB, List.takeWhile_cons, decide_eq_false h2]; rfl
        rw [hl, findI_no (fun y hy => decide_eq_false (by have := mapsOK_gt hr y hy; omega))]
        simp [h1]
theorem fm_low {t : SPT} (x : Int) {l : List SMp} {last k : Int} (hk : 0 ≤ k) (h : mapsOK t l last = true) : decide (findI (fun m : SMp => decide (m.1 = x)) l k ≥ 0) = (decide (lowB l x < l.length) && decide ((l.getD (lowB l x) zM).1 = x)) := by
  rw [← Bool.decide_and]
  exact decide_eq_decide.2 (fm_lowP x hk h)
def lowT (l : List SPT) (b : Int) : Nat := (l.takeWhile fun t => decide (t.1 < b)).length
theorem pos_low (b : Int) : ∀ {l : List SPT} {k : Nat}, (∀ t ∈ l, t.1 ≠ b) → posI (findI (fun t => decide (t.1 > b)) l (k : Int)) (k + l.length) = k + lowT l b
  | [], k, _ => by simp [findI, posI, lowT]
  | a :: l, k, h => by
    have ha := h a (List.mem_cons_self ..)
    simp only [findI]
    by_cases h1 : a.1 > b
    · have hl : lowT (a :: l) b = 0 := by simp only [lowT, List.takeWhile_cons, decide_eq_false (show ¬ a.1 < b by omega)]; rfl
      rw [decide_eq_true h1, cond_true, hl]
      unfold posI
      rw [decide_eq_false (show ¬ (k : Int) < 0 by omega), cond_false]; omega
    · have hl : lowT (a :: l) b = lowT l b + 1 := by simp only [lowT, List.takeWhile_cons, decide_eq_true (show a.1 < b by omega), if_true, List.length_cons]
      rw [decide_eq_false h1, cond_false, hl]
      have ih := pos_low b (l := l) (k := k + 1) (fun t ht => h t (List.mem_cons_of_mem _ ht))
      rw [List.length_cons, show k + (l.length + 1) = k + 1 + l.length by omega, show ((k : Int) + 1) = ((k + 1 : Nat) : Int) by omega, ih]
      omega
theorem rmap_0 (table : SCp) (m : SMp) : ∀ (r p : List SPT), (p ++ r).length ≤ 68719476736 → F_rmap_0 r (table, m, p ++ r, p.length) = (insAt (p ++ r) (p.length + lowT r table.2.1) (table.2.1, table.2.2.2.2.1, table.2.2.2.2.2.1, [m]), 0) ∧ P_rmap_0 r (table, m, p ++ r, p.length) = true
  | [], p, h => by
    have h : (p ++ []).length ≤ 68719476736 := h
    have hp : p.length ≤ 68719476736 := by simpa using h
    refine ⟨by simp [F_rmap_0, insAt, lowT], ?_⟩
    simp only [P_rmap_0, Bool.and_eq_true]
    refine ⟨decide_eq_true (by simp), decide_eq_true (by simp; omega), decide_eq_true (by simp; omega), decide_eq_true (by simp), decide_eq_true (by simp; omega)⟩
  | u :: r, p, h => by
    by_cases hu : u.1 < table.2.1
    · obtain ⟨i1, i2⟩ := rmap_0 table m r (p ++ [u]) (by simpa using h)
      rw [List.append_assoc, List.singleton_append, List.length_append, List.length_singleton] at i1 i2
      have hl : lowT (u :: r) table.2.1 = lowT r table.2.1 + 1 := by simp only [lowT, List.takeWhile_cons, decide_eq_true hu, if_true, List.length_cons]
      simp only [F_rmap_0, P_rmap_0, decide_eq_true hu, cond_true, i1, i2, hl]
      exact ⟨by congr 2; omega, trivial⟩
    · have hl : lowT (u :: r) table.2.1 = 0 := by simp only [lowT, List.takeWhile_cons, decide_eq_false hu]; rfl
      have hle : p.length + r.length + 1 ≤ 68719476736 := by simp at h; omega
      simp only [F_rmap_0, P_rmap_0, decide_eq_false hu, cond_false, hl]
      refine ⟨by simp [insAt], ?_⟩
      simp only [Bool.and_eq_true]
      refine ⟨decide_eq_true (by simp; omega), decide_eq_true (by simp; omega), decide_eq_true (by simp; omega), decide_eq_true (by simp; omega), decide_eq_true (by simp; omega)⟩
theorem rmap_2 (x : Int) (m : SMp) (out : List SPT) (k : Int) (hk0 : 0 ≤ k) (hk1 : k < ((out.length : Nat) : Int)) : ∀ (r p : List SMp), (p ++ r).length ≤ 68719476736 → F_rmap_2 r (x, m, out, k, p ++ r, p.length) = (out.set k.toNat ((out.getD k.toNat zPT).1, (out.getD k.toNat zPT).2.1, (out.getD k.toNat zPT).2.2.1, insAt (p ++ r) (p.length + lowB r x) m), 0) ∧ P_rmap_2 r (x, m, out, k, p ++ r, p.length) = true
  | [], p, h => by
    have hp : p.length ≤ 68719476736 := by simpa using h
    refine ⟨by simp [F_rmap_2, insAt, lowB, zPT], ?_⟩
    simp only [P_rmap_2, Bool.and_eq_true]
    exact ⟨decide_eq_true (by simp), decide_eq_true (by simp; omega), decide_eq_true (by simp; omega), decide_eq_true (by simp), decide_eq_true (by simp; omega), decide_eq_true hk0, decide_eq_true hk1⟩
  | u :: r, p, h => by
    by_cases hu : u.1 < x
    · obtain ⟨i1, i2⟩ := rmap_2 x m out k hk0 hk1 r (p ++ [u]) (by simpa using h)
      rw [List.append_assoc, List.singleton_append, List.length_append, List.length_singleton] at i1 i2
      have hl : lowB (u :: r) x = lowB r x + 1 := by simp only [lowB, List.takeWhile_cons, decide_eq_true hu, if_true, List.length_cons]
      simp only [F_rmap_2, P_rmap_2, decide_eq_true hu, cond_true, i1, i2, hl]
      exact ⟨by congr 6; omega, trivial⟩
    · have hl : lowB (u :: r) x = 0 := by simp only [lowB, List.takeWhile_cons, decide_eq_false hu]; rfl
      have hle : p.length + r.length + 1 ≤ 68719476736 := by simp at h; omega
      simp only [F_rmap_2, P_rmap_2, decide_eq_false hu, cond_false, hl]
      refine ⟨by simp [insAt, zPT], ?_⟩
      simp only [Bool.and_eq_true]
      exact ⟨decide_eq_true (by simp; omega), decide_eq_true (by simp; omega), decide_eq_true (by simp; omega), decide_eq_true (by simp; omega), decide_eq_true (by simp; omega), decide_eq_true hk0, decide_eq_true hk1⟩
theorem tsL_all : ∀ (r p : List SPT), tsL p r = true → ∀ t ∈ r, tabB t = true
  | [], _, _, t, ht => by cases ht
  | u :: r, p, h, t, ht => by
    simp only [tsL, Bool.and_eq_true] at h
    rcases List.mem_cons.1 ht with rfl | ht
    · exact h.1
    · exact tsL_all r _ h.2.2 t ht
theorem tab_maps {t : SPT} (h : tabB t = true) : mapsOK t t.2.2.2 (-1) = true := by
  simp only [tabB, Bool.and_eq_true] at h; exact h.2.2.2.2.2
theorem ctab0 (a : List SPT × SCp) : decide (ctabS a ≠ 0) = !kindS a ∧ (kindS a = false → ctabS a = 5) := by
  unfold ctabS
  cases kindS a <;> exact ⟨rfl, fun h => by first | rfl | cases h⟩
theorem ft_range {ts : List SPT} {b : Int} (h : ¬ ftS ts b < 0) : 0 ≤ ftS ts b ∧ ftS ts b < ((ts.length : Nat) : Int) := by
  have := findI_lt (fun t : SPT => decide (t.1 = b)) ts 0 (by omega)
  have : ftS ts b < 0 + ts.length := this
  omega
theorem ft_getD {ts : List SPT} {b : Int} (h : ¬ ftS ts b < 0) : ts.getD (ftS ts b).toNat zPT ∈ ts := by
  have := ft_range h
  rw [List.getD_eq_getElem?_getD, List.getElem?_eq_getElem (by omega)]
  exact List.getElem_mem _
theorem rmap_both : ∀ a : List SPT × SCp × Int × SNd × Int, okT a.1 = true → P_rmap a = true ∧ F_rmap a = mapS a := by
  rintro ⟨ts, table, index, n, mask⟩ h
  have h : okT ts = true := h
  have hM := okT_okM h
  have hl := okT_len h
  have h40 : len40n ts = true := decide_eq_true (by omega)
  have ez : ((0, 0, 0, []) : SPT) = zPT := rfl
  simp only [P_rmap, F_rmap, mapS, ncap, h, hM, h40, lim_u, lim_p, geo_nn, (ctab0 _).1, ez, Bool.true_and, decide_eq_true (show ts.length ≤ 1099511627776 by omega)]
  cases hT : tabsB ts
  case false => exact ⟨rfl, rfl⟩
  cases hN : vnodB n
  case false => exact ⟨rfl, rfl⟩
  cases decide (mask < 0)
  case true => exact ⟨rfl, rfl⟩
  cases decide (mask > 7)
  case true => exact ⟨rfl, rfl⟩
  cases hK : kindS (ts, table)
  case false => rw [(ctab0 _).2 hK]; exact ⟨rfl, rfl⟩
  cases F_rmbl (table, n.2.2.2.2)
  case false => exact ⟨rfl, rfl⟩
  simp only [Bool.not_true, Bool.not_false, cond_false, cond_true, Bool.true_and]
  have hcx : decide (cidxS (table, index) ≠ 0) = (decide (index < 0) || decide (index ≥ lim table.2.2.2.2.1)) ∧ ((decide (index < 0) || decide (index ≥ lim table.2.2.2.2.1)) = true → cidxS (table, index) = 6) := by
    unfold cidxS
    cases (decide (index < 0) || decide (index ≥ lim table.2.2.2.2.1)) <;> exact ⟨rfl, fun h => by first | rfl | cases h⟩
  rw [hcx.1]
  by_cases hi0 : index < 0
  · rw [decide_eq_true hi0, Bool.true_or, cond_true, hcx.2 (by rw [decide_eq_true hi0]; rfl)]; exact ⟨rfl, rfl⟩
  by_cases hi1 : index ≥ lim table.2.2.2.2.1
  · rw [decide_eq_false hi0, decide_eq_true hi1, Bool.or_true, cond_true, hcx.2 (by rw [decide_eq_true hi1, Bool.or_true])]; exact ⟨rfl, rfl⟩
  rw [decide_eq_false hi0, decide_eq_false hi1, Bool.or_false, cond_false]
  have hlv : (table.2.2.2.2.2.1 == 0) = decide (table.2.2.2.2.2.1 = 0) := beqI _ _
  have hmm : mapM table index n mask = (index, n.2.2.2.2.2.1, bif decide (table.2.2.2.2.2.1 = 0) then mapRt n mask else 0, n.1, n.2.1, n.2.2.1) := rfl
  by_cases hf : ftS ts table.2.1 < 0
  · have hno : ∀ t ∈ ts, t.1 ≠ table.2.1 := fun t ht e => by
      have := findI_neg (p := fun t : SPT => decide (t.1 = table.2.1)) (l := ts) (decide_eq_false (by show ¬ ftS ts table.2.1 ≥ 0; omega)) t ht
      rw [e] at this; simp at this
    have hp := pos_low table.2.1 (l := ts) (k := 0) hno
    rw [Nat.zero_add, Nat.zero_add] at hp
    have hp : posI (findI (fun t => decide (t.1 > table.2.1)) ts 0) ts.length = lowT ts table.2.1 := hp
    have h0 := fun m => rmap_0 table m ts [] (by simpa using hl)
    simp only [List.nil_append, List.length_nil, Nat.zero_add] at h0
    simp only [decide_eq_true hf, cond_true, hp, hlv, (h0 _).1, (h0 _).2, hmm]
    cases decide (table.2.2.2.2.2.1 = 0) <;> exact ⟨rfl, rfl⟩
  · obtain ⟨hr0, hr1⟩ := ft_range hf
    have hmem := ft_getD hf
    have hml := okT_mem h hmem
    have hmo := tab_maps (tsL_all ts [] hT _ hmem)
    generalize hk : ts.getD (ftS ts table.2.1).toNat zPT = t at hmem hml hmo
    have h2 := fun m => rmap_2 index m ts (ftS ts table.2.1) hr0 hr1 t.2.2.2 [] (by simpa using hml)
    simp only [List.nil_append, List.length_nil, Nat.zero_add, hk] at h2
    have hfm : decide (fmS t.2.2.2 index ≥ 0) = (decide (lowB t.2.2.2 index < t.2.2.2.length) && decide ((t.2.2.2.getD (lowB t.2.2.2 index) zM).1 = index)) := fm_low index (by omega) hmo
    have h40m : len40n t.2.2.2 = true := decide_eq_true (by omega)
    simp only [decide_eq_false hf, cond_false, hk, hlv, h40m, decide_eq_true hr0, decide_eq_true hr1, Bool.true_and, Bool.and_self, cond_true, hfm, Ns.maps, (h2 _).1, (h2 _).2, decide_eq_true (show t.2.2.2.length ≤ 1099511627776 by omega), hmm]
    cases (decide (lowB t.2.2.2 index < t.2.2.2.length) && decide ((t.2.2.2.getD (lowB t.2.2.2 index) zM).1 = index)) <;> cases decide (table.2.2.2.2.2.1 = 0) <;> exact ⟨rfl, rfl⟩
theorem rmap_P : ∀ a : List SPT × SCp × Int × SNd × Int, (fun a : List SPT × SCp × Int × SNd × Int => okT a.1) a = true → P_rmap a = true := fun a h => (rmap_both a h).1
theorem rmap_F : ∀ a : List SPT × SCp × Int × SNd × Int, (fun a : List SPT × SCp × Int × SNd × Int => okT a.1) a = true → F_rmap a = mapS a := fun a h => (rmap_both a h).2
theorem rmap_run : ∀ a, (fun a => okT a.1 : (List (SPT)) × SCp × Int × SNd × Int → Bool) a = true → ∃ f, M_rmap f a = some ((mapS : (List (SPT)) × SCp × Int × SNd × Int → (List (SPT)) × Int) a) := fun a h => by have h1 := rmap_auto a (rmap_P a h); rw [rmap_F a h] at h1; exact h1
noncomputable def E_rmap : Ent := ⟨50, [.rd tSPT, .g tSCp, .c (.int .i64), .g tSNd, .c (.int .i64)], [.o 60 4 tSPT, .v (.int .i64)], fun a => (fun a => okT a.1 : (List (SPT)) × SCp × Int × SNd × Int → Bool) a, fun a => (mapS : (List (SPT)) × SCp × Int × SNd × Int → (List (SPT)) × Int) a⟩
theorem E_rmap_ok : E_rmap.Ok Try.prog := fun a hp vs hv => (rmap_run a hp).elim fun f h => fnX_ok (C := C_rmap) (Lt := Lt_rmap) (fn := Try.f50) (rs := [.tmp 10, .tmp 11]) [.rd tSPT, .g tSCp, .c (.int .i64), .g tSNd, .c (.int .i64)] [.o 60 4 tSPT, .v (.int .i64)] mixed es_rmap Try.func50 rfl rfl rfl (by kernel_rfl) (by kernel_rfl) f h vs hv
end Go.AL
