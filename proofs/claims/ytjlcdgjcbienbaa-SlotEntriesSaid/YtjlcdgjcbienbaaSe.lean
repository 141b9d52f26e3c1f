/-
  Entries of a capability space: contracts. By an AI agent.
-/
import Derived.Test.YtjlcdgjcbienbaaSl2
import Derived.Test.YtjlcdgjcbienbaaSt3
namespace Go.AL
open Go.Proofs
set_option linter.unusedVariables false
set_option linter.unusedSimpArgs false
def entOf (core i : Int) (s : SSl) : SEn := (core, i, s.1, s.2.1, s.2.2.1, s.2.2.2.1, s.2.2.2.2.1, s.2.2.2.2.2.1, s.2.2.2.2.2.2.1, s.2.2.2.2.2.2.2.1, s.2.2.2.2.2.2.2.2.1, s.2.2.2.2.2.2.2.2.2.1, s.2.2.2.2.2.2.2.2.2.2.1)
def entL (core : Int) : List SSl → Nat → List SEn
  | [], _ => []
  | s :: r, i => bif empB s then entL core r (i + 1) else entOf core ((i : Nat) : Int) s :: entL core r (i + 1)
def entS (a : List SSl × Int) : List SEn := srtB ltE (entL a.2 a.1 0)
def entP (a : List SSl × Int) : Bool := okSl a.1 && decide (a.1.length ≤ 1000000)
theorem entL_len (core : Int) : ∀ (r : List SSl) (i : Nat), (entL core r i).length ≤ r.length
  | [], i => Nat.le_refl _
  | s :: r, i => by
    have := entL_len core r (i + 1)
    simp only [entL, List.length_cons]
    cases empB s <;> simp only [cond_true, cond_false, List.length_cons] <;> omega
noncomputable def C_ents : Cfg := ⟨Try.prog, [E_emp, E_ncop], pmT [], 31, [E_ssf], []⟩
theorem es_ents : EsOk Try.prog [E_emp, E_ncop] [E_ssf] := el_cons E_ssf_ok (es_cons E_emp_ok (es_cons E_ncop_ok (es_nil)))
def Lt_ents : Nat → LD := ldT [(0, ⟨[.c 1 (.int .i64), .list 5 999 74 13 tSEn, .rd 8 tSSl, .c 9 (.int .i64), .c 10 (.int .i64)], [], 0⟩)]
noncomputable def M_ents (f : Nat) (a : (List (SSl)) × Int) : Option ((List (SEn))) := (runX (C_ents) Lt_ents (Kret Try.prog [.tmp 4] [.o 74 13 tSEn]) f [.code (bodyOf Try.f48)] (initX [.rd tSSl, .c (.int .i64)] a) : Option (ResT [.o 74 13 tSEn]))
noncomputable def L_ents_0 (f : Nat) (x : Int × (List (SEn)) × (List (SSl)) × Int × Int) : Option ((List (SEn))) := (runX (C_ents) Lt_ents (Kret Try.prog [.tmp 4] [.o 74 13 tSEn]) f (headOf Try.f48 0) ((Lt_ents 0).mk' x) : Option (ResT [.o 74 13 tSEn]))
theorem M_ents_eq (f : Nat) (l : List (SSl)) (core : Int) : M_ents (f + 1) (l, core) =
    L_ents_0 f (core, [], l, (↑l.length : Int), 0) := by kernel_rfl
theorem L_ents_0_eq (f : Nat) (core : Int) (out : List (SEn)) (x8 : List (SSl)) (x9 : Int) (x10 : Int) : L_ents_0 (f + 1) (core, out, x8, x9, x10) =
    bif decide (x10 < x9) then bif decide (0 ≤ x10) && decide (x10 < (↑x8.length : Int)) then bif !empB (x8.getD x10.toNat (0, 0, 0, [], 0, 0, 0, 0, 0, 0, false, 0, 0, 0, 0)) then bif len40n (x8.getD x10.toNat (0, 0, 0, [], 0, 0, 0, 0, 0, 0, false, 0, 0, 0, 0)).2.2.2.1 then bif decide ((out.length + [(core, x10, (x8.getD x10.toNat (0, 0, 0, [], 0, 0, 0, 0, 0, 0, false, 0, 0, 0, 0)).1, (x8.getD x10.toNat (0, 0, 0, [], 0, 0, 0, 0, 0, 0, false, 0, 0, 0, 0)).2.1, (x8.getD x10.toNat (0, 0, 0, [], 0, 0, 0, 0, 0, 0, false, 0, 0, 0, 0)).2.2.1, (x8.getD x10.toNat (0, 0, 0, [], 0, 0, 0, 0, 0, 0, false, 0, 0, 0, 0)).2.2.2.1, (x8.getD x10.toNat (0, 0, 0, [], 0, 0, 0, 0, 0, 0, false, 0, 0, 0, 0)).2.2.2.2.1, (x8.getD x10.toNat (0, 0, 0, [], 0, 0, 0, 0, 0, 0, false, 0, 0, 0, 0)).2.2.2.2.2.1, (x8.getD x10.toNat (0, 0, 0, [], 0, 0, 0, 0, 0, 0, false, 0, 0, 0, 0)).2.2.2.2.2.2.1, (x8.getD x10.toNat (0, 0, 0, [], 0, 0, 0, 0, 0, 0, false, 0, 0, 0, 0)).2.2.2.2.2.2.2.1, (x8.getD x10.toNat (0, 0, 0, [], 0, 0, 0, 0, 0, 0, false, 0, 0, 0, 0)).2.2.2.2.2.2.2.2.1, (x8.getD x10.toNat (0, 0, 0, [], 0, 0, 0, 0, 0, 0, false, 0, 0, 0, 0)).2.2.2.2.2.2.2.2.2.1, (x8.getD x10.toNat (0, 0, 0, [], 0, 0, 0, 0, 0, 0, false, 0, 0, 0, 0)).2.2.2.2.2.2.2.2.2.2.1)].length) * 120 ≤ 140737488355328) then L_ents_0 f (core, out ++ [(core, x10, (x8.getD x10.toNat (0, 0, 0, [], 0, 0, 0, 0, 0, 0, false, 0, 0, 0, 0)).1, (x8.getD x10.toNat (0, 0, 0, [], 0, 0, 0, 0, 0, 0, false, 0, 0, 0, 0)).2.1, (x8.getD x10.toNat (0, 0, 0, [], 0, 0, 0, 0, 0, 0, false, 0, 0, 0, 0)).2.2.1, (x8.getD x10.toNat (0, 0, 0, [], 0, 0, 0, 0, 0, 0, false, 0, 0, 0, 0)).2.2.2.1, (x8.getD x10.toNat (0, 0, 0, [], 0, 0, 0, 0, 0, 0, false, 0, 0, 0, 0)).2.2.2.2.1, (x8.getD x10.toNat (0, 0, 0, [], 0, 0, 0, 0, 0, 0, false, 0, 0, 0, 0)).2.2.2.2.2.1, (x8.getD x10.toNat (0, 0, 0, [], 0, 0, 0, 0, 0, 0, false, 0, 0, 0, 0)).2.2.2.2.2.2.1, (x8.getD x10.toNat (0, 0, 0, [], 0, 0, 0, 0, 0, 0, false, 0, 0, 0, 0)).2.2.2.2.2.2.2.1, (x8.getD x10.toNat (0, 0, 0, [], 0, 0, 0, 0, 0, 0, false, 0, 0, 0, 0)).2.2.2.2.2.2.2.2.1, (x8.getD x10.toNat (0, 0, 0, [], 0, 0, 0, 0, 0, 0, false, 0, 0, 0, 0)).2.2.2.2.2.2.2.2.2.1, (x8.getD x10.toNat (0, 0, 0, [], 0, 0, 0, 0, 0, 0, false, 0, 0, 0, 0)).2.2.2.2.2.2.2.2.2.2.1)], x8, x9, IntKind.i64.wrap (x10 + 1)) else none else none else L_ents_0 f (core, out, x8, x9, IntKind.i64.wrap (x10 + 1)) else none else bif len40n out then some (ssfS (out, ())).2 else none := by kernel_rfl
noncomputable def F_ents_0 : List (SSl) → (Int × (List (SEn)) × (List (SSl)) × Int × Nat) → (List (SEn))
  | [], (core, out, x8, x9, x10) => (ssfS (out, ())).2
  | uu :: rest, (core, out, x8, x9, x10) => bif !empB uu then F_ents_0 rest (core, out ++ [(core, (↑x10 : Int), uu.1, uu.2.1, uu.2.2.1, uu.2.2.2.1, uu.2.2.2.2.1, uu.2.2.2.2.2.1, uu.2.2.2.2.2.2.1, uu.2.2.2.2.2.2.2.1, uu.2.2.2.2.2.2.2.2.1, uu.2.2.2.2.2.2.2.2.2.1, uu.2.2.2.2.2.2.2.2.2.2.1)], x8, x9, x10 + 1) else F_ents_0 rest (core, out, x8, x9, x10 + 1)
noncomputable def P_ents_0 : List (SSl) → (Int × (List (SEn)) × (List (SSl)) × Int × Nat) → Bool
  | [], (core, out, x8, x9, x10) => len40n out
  | uu :: rest, (core, out, x8, x9, x10) => bif !empB uu then len40n uu.2.2.2.1 && (decide ((out.length + [(core, (↑x10 : Int), uu.1, uu.2.1, uu.2.2.1, uu.2.2.2.1, uu.2.2.2.2.1, uu.2.2.2.2.2.1, uu.2.2.2.2.2.2.1, uu.2.2.2.2.2.2.2.1, uu.2.2.2.2.2.2.2.2.1, uu.2.2.2.2.2.2.2.2.2.1, uu.2.2.2.2.2.2.2.2.2.2.1)].length) * 120 ≤ 140737488355328) && P_ents_0 rest (core, out ++ [(core, (↑x10 : Int), uu.1, uu.2.1, uu.2.2.1, uu.2.2.2.1, uu.2.2.2.2.1, uu.2.2.2.2.2.1, uu.2.2.2.2.2.2.1, uu.2.2.2.2.2.2.2.1, uu.2.2.2.2.2.2.2.2.1, uu.2.2.2.2.2.2.2.2.2.1, uu.2.2.2.2.2.2.2.2.2.2.1)], x8, x9, x10 + 1)) else P_ents_0 rest (core, out, x8, x9, x10 + 1)
theorem A_ents_0 : ∀ (rest : List (SSl)) (core : Int) (out : List (SEn)) (x8 : List (SSl)) (x9 : Int) (x10 : Nat) (hd : x8.drop x10 = rest) (hn : x9 = ((x8.length : Nat) : Int)) (hl : x8.length ≤ 1099511627776), Rns (fun f => L_ents_0 f (core, out, x8, x9, ((x10 : Nat) : Int))) (P_ents_0 rest (core, out, x8, x9, x10)) (F_ents_0 rest (core, out, x8, x9, x10))
  | [], core, out, x8, x9, x10, hd, hn, hl => ev_step (T := fun f => bif len40n out then some (ssfS (out, ())).2 else none) (fun f => (L_ents_0_eq f _ _ _ _ _).trans (by simp only [ge_decn hn (drop_ge hd), ge0, Bool.and_self, Bool.true_and, cond_true, cond_false, List.length_set] <;> rfl)) (ev_chk1 ev_some)
  | uu :: rest, core, out, x8, x9, x10, hd, hn, hl => ev_step (T := fun f => bif !empB uu then bif len40n uu.2.2.2.1 then bif decide ((out.length + [(core, (↑x10 : Int), uu.1, uu.2.1, uu.2.2.1, uu.2.2.2.1, uu.2.2.2.2.1, uu.2.2.2.2.2.1, uu.2.2.2.2.2.2.1, uu.2.2.2.2.2.2.2.1, uu.2.2.2.2.2.2.2.2.1, uu.2.2.2.2.2.2.2.2.2.1, uu.2.2.2.2.2.2.2.2.2.2.1)].length) * 120 ≤ 140737488355328) then L_ents_0 f (core, out ++ [(core, (↑x10 : Int), uu.1, uu.2.1, uu.2.2.1, uu.2.2.2.1, uu.2.2.2.2.1, uu.2.2.2.2.2.1, uu.2.2.2.2.2.2.1, uu.2.2.2.2.2.2.2.1, uu.2.2.2.2.2.2.2.2.1, uu.2.2.2.2.2.2.2.2.2.1, uu.2.2.2.2.2.2.2.2.2.2.1)], x8, x9, (↑(x10 + 1) : Int)) else none else none else L_ents_0 f (core, out, x8, x9, (↑(x10 + 1) : Int))) (fun f => (L_ents_0_eq f _ _ _ _ _).trans (by simp only [lt_decn hn (drop_lt hd), lt_dec (drop_lt hd), drop_get hd, wrap_succ (drop_lt hd) hl, getD_set (drop_lt hd), ge0, Bool.and_self, Bool.true_and, cond_true, cond_false, List.length_set] <;> rfl)) (ev_bif (ev_chk (ev_chk (A_ents_0 rest _ _ _ _ _ (by first | exact drop_succ hd | exact drop_set hd | exact drop_setS (drop_set hd)) (by first | exact hn | simpa using hn) (by first | exact hl | simpa using hl)))) (A_ents_0 rest _ _ _ _ _ (by first | exact drop_succ hd | exact drop_set hd | exact drop_setS (drop_set hd)) (by first | exact hn | simpa using hn) (by first | exact hl | simpa using hl)))
noncomputable def F_ents : ((List (SSl)) × Int) → (List (SEn))
  | (l, core) => F_ents_0 l (core, [], l, (↑l.length : Int), 0)
noncomputable def P_ents : ((List (SSl)) × Int) → Bool
  | (l, core) => decide (l.length ≤ 1099511627776) && P_ents_0 l (core, [], l, (↑l.length : Int), 0)
theorem ents_auto : ∀ a : (List (SSl)) × Int, Rns (fun f => M_ents f a) (P_ents a) (F_ents a)
  | (l, core) => ev_step (fun f => M_ents_eq f _ _) (ev_and fun hh => A_ents_0 _ _ _ _ _ _ rfl (by first | rfl | simp) (of_decide_eq_true hh))
theorem ents_0 (core : Int) (x8 : List SSl) (x9 : Int) : ∀ (r : List SSl) (out : List SEn) (i : Nat), (∀ s ∈ r, len40n s.2.2.2.1 = true) → out.length + r.length ≤ 1000000 → F_ents_0 r (core, out, x8, x9, i) = srtB ltE (out ++ entL core r i) ∧ P_ents_0 r (core, out, x8, x9, i) = true
  | [], out, i, h, hl => by
    simp only [List.length_nil] at hl
    refine ⟨by simp [F_ents_0, entL, ssfS], ?_⟩
    simp only [P_ents_0]
    exact decide_eq_true (by omega)
  | s :: r, out, i, h, hl => by
    simp only [List.length_cons] at hl
    have hs := h s (List.mem_cons_self ..)
    obtain ⟨i1, i2⟩ := ents_0 core x8 x9 r out (i + 1) (fun e he => h e (List.mem_cons_of_mem _ he)) (by omega)
    obtain ⟨j1, j2⟩ := ents_0 core x8 x9 r (out ++ [entOf core ((i : Nat) : Int) s]) (i + 1) (fun e he => h e (List.mem_cons_of_mem _ he)) (by simp; omega)
    simp only [F_ents_0, P_ents_0, entL]
    cases empB s
    · refine ⟨j1.trans (by simp), ?_⟩
      simp only [Bool.not_false, cond_true, hs, Bool.true_and, Bool.and_eq_true, decide_eq_true_eq]
      exact ⟨by simp only [List.length_cons, List.length_nil]; omega, j2⟩
    · exact ⟨i1, i2⟩
theorem ents_both : ∀ a : List SSl × Int, entP a = true → P_ents a = true ∧ F_ents a = entS a := by
  rintro ⟨l, core⟩ h
  obtain ⟨h1, h2⟩ := Bool.and_eq_true_iff.1 h
  have h2 : l.length ≤ 1000000 := of_decide_eq_true h2
  obtain ⟨i1, i2⟩ := ents_0 core l ((l.length : Nat) : Int) l [] 0 (fun s hs => okSl_mem h1 hs) (by simpa using h2)
  simp only [P_ents, F_ents, i1, i2, Bool.and_true]
  exact ⟨decide_eq_true (by omega), rfl⟩
theorem ents_P : ∀ a, entP a = true → P_ents a = true := fun a h => (ents_both a h).1
theorem ents_F : ∀ a, entP a = true → F_ents a = entS a := fun a h => (ents_both a h).2
theorem ents_run : ∀ a, (entP : (List (SSl)) × Int → Bool) a = true → ∃ f, M_ents f a = some ((entS : (List (SSl)) × Int → (List (SEn))) a) := fun a h => by have h1 := ents_auto a (ents_P a h); rw [ents_F a h] at h1; exact h1
noncomputable def E_ents : Ent := ⟨48, [.rd tSSl, .c (.int .i64)], [.o 74 13 tSEn], fun a => (entP : (List (SSl)) × Int → Bool) a, fun a => (entS : (List (SSl)) × Int → (List (SEn))) a⟩
theorem E_ents_ok : E_ents.Ok Try.prog := fun a hp vs hv => (ents_run a hp).elim fun f h => fnX_ok (C := C_ents) (Lt := Lt_ents) (fn := Try.f48) (rs := [.tmp 4]) [.rd tSSl, .c (.int .i64)] [.o 74 13 tSEn] mixed es_ents Try.func48 rfl rfl rfl (by kernel_rfl) (by kernel_rfl) f h vs hv
theorem less_ltE (a b : SEn) : lessI ((a.2.2.1, a.2.2.2.1, a.2.2.2.2.1), b.2.2.1, b.2.2.2.1, b.2.2.2.2.1) = ltE a b := by
  rw [Bool.eq_iff_iff, lessI_iff, ltE_iff]; exact Iff.rfl
theorem entL_mem {core : Int} : ∀ {r : List SSl} {i : Nat} {e : SEn}, e ∈ entL core r i → ∃ j s, r[j]? = some s ∧ empB s = false ∧ e = entOf core ((i + j : Nat) : Int) s
  | s :: r, i, e, h => by
    simp only [entL] at h
    cases he : empB s
    · rw [he] at h
      rcases List.mem_cons.1 h with rfl | h
      · exact ⟨0, s, rfl, he, rfl⟩
      · obtain ⟨j, t, h1, h2, h3⟩ := entL_mem h
        exact ⟨j + 1, t, by simpa using h1, h2, by rw [h3]; congr 2; omega⟩
    · rw [he] at h
      obtain ⟨j, t, h1, h2, h3⟩ := entL_mem h
      exact ⟨j + 1, t, by simpa using h1, h2, by rw [h3]; congr 2; omega⟩
theorem entS_mem {l : List SSl} {core : Int} {e : SEn} : e ∈ entS (l, core) ↔ e ∈ entL core l 0 := (perm_srtB _).mem_iff
theorem entS_len (l : List SSl) (core : Int) : (entS (l, core)).length = (entL core l 0).length := len_srtB _
theorem entS_okE {l : List SSl} {core : Int} (h : entP (l, core) = true) : okE (entS (l, core)) = true := by
  obtain ⟨h1, h2⟩ := Bool.and_eq_true_iff.1 h
  have h2 : l.length ≤ 1000000 := of_decide_eq_true h2
  refine okE_mk (by rw [entS_len]; have := entL_len core l 0; omega) fun e he => ?_
  obtain ⟨j, s, g1, g2, rfl⟩ := entL_mem (entS_mem.1 he)
  exact okSl_mem h1 (List.mem_of_getElem? g1)
end Go.AL
