/-
  Entries of a capability space: contracts. By an AI agent.
-/
import Derived.Test.YtjlcdgjcbienbaaSl2
import Derived.Test.YtjlcdgjcbienbaaSt3
namespace Go.AL
open Go.Proofs
set_option linter.unusedVariables false
set_option linter.unusedSimpArgs false
def entOf (core i : Int) (s : SSl) : SEn := (core, i, s.1, s.2.1, s.2.2.1, s.2.2.2.1, s.2.2.2.2.1, s.2.2.2.2.2.1, s.2.2.2.2.2.2.1, s.2.2.2.2.2.2.2.1, s.2.2.2.2.2.2.2.2.1, s.2.2.2.2.2.2.2.2.2.1, s.2.2.2.2.2.2.2.2.2.2.1)
def entL (core : Int) : List SSl → Nat → List SEn
  | [], _ => []
  | s :: r, i => bif empB s then entL core r (i + 1) else entOf core ((i : Nat) : Int) s :: entL core r (i + 1)
def entS (a : List SSl × Int) : List SEn := srtB ltE (entL a.2 a.1 0)
def entP (a : List SSl × Int) : Bool := okSl a.1 && decide (a.1.length ≤ 1000000)
theorem entL_len (core : Int) : ∀ (r : List SSl) (i : Nat), (entL core r i).length ≤ r.length
  | [], i => Nat.le_refl _
  | s :: r, i => by
    have := entL_len core r (i + 1)
    simp only [entL, List.length_cons]
    cases empB s <;> simp only [cond_true, cond_false, List.length_cons] <;> omega
noncomputable def C_ents : Cfg := ⟨Try.prog, [E_emp, E_ncop], pmT [], 31, [E_ssf], []⟩
theorem es_ents : EsOk Try.prog [E_emp, E_ncop] [E_ssf] := el_cons E_ssf_ok (es_cons E_emp_ok (es_cons E_ncop_ok (es_nil)))
def Lt_ents : Nat → LD := ldT [(0, ⟨[.c 1 (.int .i64), .list 5 999 74 13 tSEn, .rd 8 tSSl, .c 9 (.int .i64), .c 10 (.int .i64)], [], 0⟩)]
noncomputable def M_ents (f : Nat) (a : (List (SSl)) × Int) : Option ((List (SEn))) := (runX (C_ents) Lt_ents (Kret Try.prog [.tmp 4] [.o 74 13 tSEn]) f [.code (bodyOf Try.f48)] (initX [.rd tSSl, .c (.int .i64)] a) : Option (ResT [.o 74 13 tSEn]))
noncomputable def L_ents_0 (f : Nat) (x : Int × (List (SEn)) × (List (SSl)) × Int × Int) : Option ((List (SEn))) := (runX (C_ents) Lt_ents (Kret Try.prog [.tmp 4] [.o 74 13 tSEn]) f (headOf Try.f48 0) ((Lt_ents 0).mk' x) : Option (ResT [.o 74 13 tSEn]))
theorem M_ents_eq (f : Nat) (l : List (SSl)) (core : Int) : M_ents (f + 1) (l, core) =
    L_ents_0 f (core, [], l, (↑l.length : Int), 0) := by kernel_rfl
theorem L_ents_0_eq (f : Nat) (core : Int) (out : List (SEn)) (x8 : List (SSl)) (x9 : Int) (x10 : Int) : L_ents_0 (f + 1) (core, out, x8, x9, x10) =
    bif decide (x10 < x9) then bif decide (0 ≤ x10) && decide (x10 < (↑x8.length : Int)) then bif !empB (x8.getD x10.toNat (0, 0, 0, [], 0, 0, 0, 0, 0, 0, false, 0, 0, 0, 0)) then bif len40n (x8.getD x10.toNat (0, 0, 0, [], 0, 0, 0, 0, 0, 0, false, 0, 0, 0, 0)).2.2.2.1 then bif decide ((out.length + [(core, x10, (x8.getD x10.toNat (0, 0, 0, [], 0, 0, 0, 0, 0, 0, false, 0, 0, 0, 0)).1, (x8.getD x10.toNat (0, 0, 0, [], 0, 0, 0, 0, 0, 0, false, 0, 0, 0, 0)).2.1, (x8.getD x10.toNat (0, 0, 0, [], 0, 0, 0, 0, 0, 0, false, 0, 0, 0, 0)).2.2.1, (x8.getD x10.toNat (0, 0, 0, [], 0, 0, 0, 0, 0, 0, false, 0, 0, 0, 0)).2.2.2.1, (x8.getD x10.toNat (0, 0, 0, [], 0, 0, 0, 0, 0, 0, false, 0, 0, 0, 0)).2.2.2.2.1, (x8.getD x10.toNat (0, 0, 0, [], 0, 0, 0, 0, 0, 0, false, 0, 0, 0, 0)).2.2.2.2.2.1, (x8.getD x10.toNat (0, 0, 0, [], 0, 0, 0, 0, 0, 0, false, 0, 0, 0, 0)).2.2.2.2.2.2.1, (x8.getD x10.toNat (0, 0, 0, [], 0, 0, 0, 0, 0, 0, false, 0, 0, 0, 0)).2.2.2.2.2.2.2.1, (x8.getD x10.toNat (0, 0, 0, [], 0, 0, 0, 0, 0, 0, false, 0, 0, 0, 0)).2.2.2.2.2.2.2.2.1, (x8.getD x10.toNat (0, 0, 0, [], 0, 0, 0, 0, 0, 0, false, 0, 0, 0, 0)).2.2.2.2.2.2.2.2.2.1, (x8.getD x10.toNat (0, 0, 0, [], 0, 0, 0, 0, 0, 0, false, 0, 0, 0, 0)).2.2.2.2.2.2.2.2.2.2.1)].length) * 120 ≤ 140737488355328) then L_ents_0 f (core, out ++ [(core, x10, (x8.getD x10.toNat (0, 0, 0, [], 0, 0, 0, 0, 0, 0, false, 0, 0, 0, 0)).1, (x8.getD x10.toNat (0, 0, 0, [], 0, 0, 0, 0, 0, 0, false, 0, 0, 0, 0)).2.1, (x8.getD x10.toNat (0, 0, 0, [], 0, 0, 0, 0, 0, 0, false, 0, 0, 0, 0)).2.2.1, (x8.getD x10.toNat (0, 0, 0, [], 0, 0, 0, 0, 0, 0, false, 0, 0, 0, 0)).2.2.2.1, (x8.getD x10.toNat (0, 0, 0, [], 0, 0, 0, 0, 0, 0, false, 0, 0, 0, 0)).2.2.2.2.1, (x8.getD x10.toNat (0, 0, 0, [], 0, 0, 0, 0, 0, 0, false, 0, 0, 0, 0)).2.2.2.2.2.1, (x8.getD x10.toNat (0, 0, 0, [], 0, 0, 0, 0, 0, 0, false, 0, 0, 0, 0)).2.2.2.2.2.2.1, (x8.getD x10.toNat (0, 0, 0, [], 0, 0, 0, 0, 0, 0, false, 0, 0, 0, 0)).2.2.2.2.2.2.2.1, (x8.getD x10.toNat (0, 0, 0, [], 0, 0, 0, 0, 0, 0, false, 0, 0, 0, 0)).2.2.2.2.2.2.2.2.1, (x8.getD x10.toNat (0, 0, 0, [], 0, 0, 0, 0, 0, 0, false, 0, 0, 0, 0)).2.2.2.2.2.2.2.2.2.1, (x8.getD x10.toNat (0, 0, 0, [], 0, 0, 0, 0, 0, 0, false, 0, 0, 0, 0)).2.2.2.2.2.2.2.2.2.2.1)], x8, x9, IntKind.i64.wrap (x10 + 1)) else none else none else L_ents_0 f (core, out, x8, x9, IntKind.i64.wrap (x10 + 1)) else none else bif len40n out then some (ssfS (out, ())).2 else none := by kernel_rfl
noncomputable def F_ents_0 : List (SSl) → (Int × (List (SEn)) × (List (SSl)) × Int × Nat) → (List (SEn))
  | [], (core, out, x8, x9, x10) => (ssfS (out, ())).2
  | uu :: rest, (core, out, x8, x9, x10) => bif !empB uu then F_ents_0 rest (core, out ++ [(core, (↑x10 : Int), uu.1, uu.2.1, uu.2.2.1, uu.2.2.2.1, uu.2.2.2.2.1, uu.2.2.2.2.2.1, uu.2.2.2.2.2.2.1, uu.2.2.2.2.2.2.2.1, uu.2.2.2.2.2.2.2.2.1, uu.2.2.2.2.2.2.2.2.2.1, uu.2.2.2.2.2.2.2.2.2.2.1)], x8, x9, x10 + 1) else F_ents_0 rest (core, out, x8, x9, x10 + 1)
noncomputable def P_ents_0 : List (SSl) → (Int × (List (SEn)) × (List (SSl)) × Int × Nat) → Bool
  | [], (core, out, x8, x9, x10) => len40n out
  | uu :: rest, (core, out, x8, x9, x10) => bif !empB uu then len40n uu.2.2.2.1 && (decide ((out.length + [(core, (↑x10 : Int), uu.1, uu.2.1, uu.2.2.1, uu.2.2.2.1, uu.2.2.2.2.1, uu.2.2.2.2.2.1, uu.2.2.2.2.2.2.1, uu.2.2.2.2.2.2.2.1, uu.2.2.2.2.2.2.2.2.1, uu.2.2.2.2.2.2.2.2.2.1, uu.2.2.2.2.2.2.2.2.2.2.1)].length) * 120 ≤ 140737488355328) && P_ents_0 rest (core, out ++ [(core, (↑x10 : Int), uu.1, uu.2.1, uu.2.2.1, uu.2.2.2.1, uu.2.2.2.2.1, uu.2.2.2.2.2.1, uu.2.2.2.2.2.2.1, uu.2.2.2.2.2.2.2.1, uu.2.2.2.2.2.2.2.2.1, uu.2.2.2.2.2.2.2.2.2.1, uu.2.2.2.2.2.2.2.2.2.2.1)], x8, x9, x10 + 1)) else P_ents_0 rest (core, out, x8, x9, x10 + 1)
theorem A_ents_0 : ∀ (rest : List (SSl)) (core : Int) (out : List (SEn)) (x8 : List (SSl)) (x9 : Int) (x10 : Nat) (hd : x8.drop x10 = rest) (hn : x9 = ((x8.length : Nat) : Int)) (hl : x8.length ≤ 1099511627776), Rns (fun f => L_ents_0 f (core, out, x8, x9, ((x10 : Nat) : Int))) (P_ents_0 rest (core, out, x8, x9, x10)) (F_ents_0 rest (core, out, x8, x9, x10))
  | [], core, out, x8, x9, x10, hd, hn, hl => ev_step (T := fun f => bif len40n out then some (ssfS (out, ())).2 else none) (fun f => (L_ents_0_eq f _ _ _ _ _).trans (by simp only [ge_decn hn (drop_ge hd), ge0, Bool.and_self, Bool.true_and, cond_true, cond_false, List.length_set] <;> rfl)) (ev_chk1 ev_some)
  | uu :: rest, core, out, x8, x9, x10, hd, hn, hl => ev_step (T := fun f => bif !empB uu then bif len40n uu.2.2.2.1 then bif decide ((out.length + [(core, (↑x10 : Int), uu.1, uu.2.1, uu.2.2.1, uu.2.2.2.1, uu.2.2.2.2.1, uu.2.2.2.2.2.1, uu.2.2.2.2.2.2.1, uu.2.2.2.2.2.2.2.1, uu.2.2.2.2.2.2.2.2.1, uu.2.2.2.2.2.2.2.2.2.1, uu.2.2.2.2.2.2.2.2.2.2.1)].length) * 120 ≤ 140737488355328) then L_ents_0 f (core, out ++ [(core, (↑x10 : Int), uu.1, uu.2.1, uu.2.2.1, uu.2.2.2.1, uu.2.2.2.2.1, uu.2.2.2.2.2.1, uu.2.2.2.2.2.2.1, uu.2.2.2.2.2.2.2.1, uu.2.2.2.2.2.2.2.2.1, uu.2.2.2.2.2.2.2.2.2.1, uu.2.2.2.2.2.2.2.2.2.2.1)], x8, x9, (↑(x10 + 1) : Int)) else none else none else L_ents_0 f (core, out, x8, x9, (↑(x10 + 1) : Int))) (fun f => (L_ents_0_eq f _ _ _ _ _).trans (by simp only [lt_decn hn (drop_lt hd), lt_dec (drop_lt hd), drop_get hd, wrap_succ (drop_lt hd) hl, getD_set (drop_lt hd), ge0, Bool.and_self, Bool.true_and, cond_true, cond_false, List.length_set] <;> rfl)) (ev_bif (ev_chk (ev_chk (A_ents_0 rest _ _ _ _ _ (by first | exact drop_succ hd | exact drop_set hd | exact drop_setS (drop_set hd)) (by first | exact hn | simpa using hn) (by first | exact hl | simpa using hl)))) (A_ents_0 rest _ _ _ _ _ (by first | exact drop_succ hd | exact drop_set hd | exact drop_setS (drop_set hd)) (by first | exact hn | simpa using hn) (by first | exact hl | simpa using hl)))
noncomputable def F_ents : ((List (SSl)) × Int) → (List (SEn))
  | (l, core) => F_ents_0 l (core, [], l, (↑l.length : Int), 0)
noncomputable def P_ents : ((List (SSl)) × Int) → Bool
  | (l, core) => decide (l.length ≤ 1099511627776) && P_ents_0 l (core, [], l, (↑l.length : Int), 0)
theorem ents_auto : ∀ a : (List (SSl)) × Int, Rns (fun f => M_ents f a) (P_ents a) (F_ents a)
  | (l, core) => ev_step (fun f => M_ents_eq f _ _) (ev_and fun hh => A_ents_0 _ _ _ _ _ _ rfl (by first | rfl | simp) (of_decide_eq_true hh))
theorem ents_0 (core : Int) (x8 : List SSl) (x9 : Int) : ∀ (r : List SSl) (out : List SEn) (i : Nat), (∀ s ∈ r, len40n s.2.2.2.1 = true) → out.length + r.length ≤ 1000000 → F_ents_0 r (core, out, x8, x9, i) = srtB ltE (out ++ entL core r i) ∧ P_ents_0 r (core, out, x8, x9, i) = true
  | [], out, i, h, hl => by
    simp only [List.length_nil] at hl
    refine ⟨by simp [F_ents_0, entL, ssfS], ?_⟩
    simp only [P_ents_0]
    exact decide_eq_true (by omega)
  | s :: r, out, i, h, hl => by
    simp only [List.length_cons] at hl
    have hs := h s (List.mem_cons_self ..)
    obtain ⟨i1, i2⟩ := ents_0 core x8 x9 r out (i + 1) (fun e he => h e (List.mem_cons_of_mem _ he)) (by omega)
    obtain ⟨j1, j2⟩ := ents_0 core x8 x9 r (out ++ [entOf core ((i : Nat) : Int) s]) (i + 1) (fun e he => h e (List.mem_cons_of_mem _ he)) (by simp; omega)
    simp only [F_ents_0, P_ents_0, entL]
    cases empB s
    · refine ⟨j1.trans (by simp), ?_⟩
      simp only [Bool.not_false, cond_true, hs, Bool.true_and, Bool.and_eq_true, decide_eq_true_eq]
      exact ⟨by simp only [List.length_cons, List.length_nil]; omega, j2⟩
    · exact ⟨i1, i2⟩
theorem ents_both : ∀ a : List SSl × Int, entP a = true → P_ents a = true ∧ F_ents a = entS a := by
  rintro ⟨l, core⟩ h
  obtain ⟨h1, h2⟩ := Bool.and_eq_true_iff.1 h
  have h2 : l.length ≤ 1000000 := of_decide_eq_true h2
  obtain ⟨i1, i2⟩ := ents_0 core l ((l.length : Nat) : Int) l [] 0 (fun s hs => okSl_mem h1 hs) (by simpa using h2)
  simp only [P_ents, F_ents, i1, i2, Bool.and_true]
  exact ⟨decide_eq_true (by omega), rfl⟩
theorem ents_P : ∀ a, entP a = true → P_ents a = true := fun a h => (ents_both a h).1
theorem ents_F : ∀ a, entP a = true → F_ents a = entS a := fun a h => (ents_both a h).2
theorem ents_run : ∀ a, (entP : (List (SSl)) × Int → Bool) a = true → ∃ f, M_ents f a = some ((entS : (List (SSl)) × Int → (List (SEn))) a) := fun a h => by have h1 := ents_auto a (ents_P a h); rw [ents_F a h] at h1; exact h1
noncomputable def E_ents : Ent := ⟨48, [.rd tSSl, .c (.int .i64)], [.o 74 13 tSEn], fun a => (entP : (List (SSl)) × Int → Bool) a, fun a => (entS : (List (SSl)) × Int → (List (SEn))) a⟩
theorem E_ents_ok : E_ents.Ok Try.prog := fun a hp vs hv => (ents_run a hp).elim fun f h => fnX_ok (C := C_ents) (Lt := Lt_ents) (fn := Try.f48) (rs := [.tmp 4]) [.rd tSSl, .c (.int .i64)] [.o 74 13 tSEn] mixed es_ents Try.func48 rfl rfl rfl (by kernel_rfl) (by kernel_rfl) f h vs hv
noncomputable def C_rsle : Cfg := ⟨Try.prog, [E_remp, E_less, E_rcent, E_rcent, E_cnode], pmT [(7, ([(0, []), (1, []), (2, []), (3, []), (4, []), (5, []), (6, []), (7, []), (8, []), (9, []), (10, []), (11, []), (12, []), (13, []), (14, []), (15, []), (16, []), (17, [])], [(22, 39)])), (9, ([(0, []), (1, []), (2, []), (4, []), (5, []), (6, []), (7, []), (8, []), (9, []), (10, []), (3, []), (11, []), (12, []), (13, []), (14, []), (15, [])], [(8, 8), (42, 56)]))], 64, [], []⟩
theorem es_rsle : EsOk Try.prog [E_remp, E_less, E_rcent, E_rcent, E_cnode] [] := es_cons E_remp_ok (es_cons E_less_ok (es_cons E_rcent_ok (es_cons E_rcent_ok (es_cons E_cnode_ok (es_nil)))))
def Lt_rsle : Nat → LD := ldT [(0, ⟨[.rd 0 tSSl, .c 1 (.int .i64), .c 5 (.sl tSEn), .c 6 (.int .i64)], [], 0⟩), (2, ⟨[.rd 0 tSSl, .c 1 (.int .i64), .c 5 (.sl tSEn), .c 6 (.int .i64), .c 7 (.int .i64)], [], 0⟩)]
noncomputable def M_rsle (f : Nat) (a : (List (SSl)) × Int) : Option ((List (SEn))) := (runX (C_rsle) Lt_rsle (Kret Try.prog [.tmp 4] [.v (.sl tSEn)]) f [.code (bodyOf Try.f49)] (initX [.rd tSSl, .c (.int .i64)] a) : Option (ResT [.v (.sl tSEn)]))
noncomputable def L_rsle_0 (f : Nat) (x : (List (SSl)) × Int × (List (SEn)) × Int) : Option ((List (SEn))) := (runX (C_rsle) Lt_rsle (Kret Try.prog [.tmp 4] [.v (.sl tSEn)]) f (headOf Try.f49 0) ((Lt_rsle 0).mk' x) : Option (ResT [.v (.sl tSEn)]))
noncomputable def L_rsle_2 (f : Nat) (x : (List (SSl)) × Int × (List (SEn)) × Int × Int) : Option ((List (SEn))) := (runX (C_rsle) Lt_rsle (Kret Try.prog [.tmp 4] [.v (.sl tSEn)]) f (headOf Try.f49 2) ((Lt_rsle 2).mk' x) : Option (ResT [.v (.sl tSEn)]))
theorem M_rsle_eq (f : Nat) (l : List (SSl)) (core : Int) : M_rsle (f + 1) (l, core) =
    L_rsle_0 f (l, core, [], 0) := by kernel_rfl
theorem L_rsle_0_eq (f : Nat) (l : List (SSl)) (core : Int) (out : List (SEn)) (i : Int) : L_rsle_0 (f + 1) (l, core, out, i) =
    bif decide (i < (↑l.length : Int)) then bif decide (0 ≤ i) && decide (i < (↑l.length : Int)) then bif empB (l.getD i.toNat (0, 0, 0, [], 0, 0, 0, 0, 0, 0, false, 0, 0, 0, 0)) then L_rsle_0 f (l, core, out, IntKind.i64.wrap (i + 1)) else L_rsle_2 f (l, core, out, i, (↑out.length : Int)) else none else some out := by kernel_rfl
theorem L_rsle_2_eq (f : Nat) (l : List (SSl)) (core : Int) (out : List (SEn)) (i : Int) (k : Int) : L_rsle_2 (f + 1) (l, core, out, i, k) =
    bif decide (k > 0) then bif decide (0 ≤ i) && decide (i < (↑l.length : Int)) then bif decide (0 ≤ IntKind.i64.wrap (k - 1)) && decide (IntKind.i64.wrap (k - 1) < (↑out.length : Int)) then bif lessI (((l.getD i.toNat (0, 0, 0, [], 0, 0, 0, 0, 0, 0, false, 0, 0, 0, 0)).1, (l.getD i.toNat (0, 0, 0, [], 0, 0, 0, 0, 0, 0, false, 0, 0, 0, 0)).2.1, (l.getD i.toNat (0, 0, 0, [], 0, 0, 0, 0, 0, 0, false, 0, 0, 0, 0)).2.2.1), (out.getD (IntKind.i64.wrap (k - 1)).toNat (0, 0, 0, 0, 0, [], 0, 0, 0, 0, 0, 0, false)).2.2.1, (out.getD (IntKind.i64.wrap (k - 1)).toNat (0, 0, 0, 0, 0, [], 0, 0, 0, 0, 0, 0, false)).2.2.2.1, (out.getD (IntKind.i64.wrap (k - 1)).toNat (0, 0, 0, 0, 0, [], 0, 0, 0, 0, 0, 0, false)).2.2.2.2.1) then L_rsle_2 f (l, core, out, i, IntKind.i64.wrap (k - 1)) else bif decide (0 ≤ k) && decide (k ≤ (↑out.length : Int)) then bif decide (0 ≤ i) && decide (i < (↑l.length : Int)) then bif okE (List.take k.toNat out) then bif len40n (l.getD i.toNat (0, 0, 0, [], 0, 0, 0, 0, 0, 0, false, 0, 0, 0, 0)).2.2.2.1 then bif decide (((List.take k.toNat out).length + [(core, i, (l.getD i.toNat (0, 0, 0, [], 0, 0, 0, 0, 0, 0, false, 0, 0, 0, 0)).1, (l.getD i.toNat (0, 0, 0, [], 0, 0, 0, 0, 0, 0, false, 0, 0, 0, 0)).2.1, (l.getD i.toNat (0, 0, 0, [], 0, 0, 0, 0, 0, 0, false, 0, 0, 0, 0)).2.2.1, (l.getD i.toNat (0, 0, 0, [], 0, 0, 0, 0, 0, 0, false, 0, 0, 0, 0)).2.2.2.1, (l.getD i.toNat (0, 0, 0, [], 0, 0, 0, 0, 0, 0, false, 0, 0, 0, 0)).2.2.2.2.1, (l.getD i.toNat (0, 0, 0, [], 0, 0, 0, 0, 0, 0, false, 0, 0, 0, 0)).2.2.2.2.2.1, (l.getD i.toNat (0, 0, 0, [], 0, 0, 0, 0, 0, 0, false, 0, 0, 0, 0)).2.2.2.2.2.2.1, (l.getD i.toNat (0, 0, 0, [], 0, 0, 0, 0, 0, 0, false, 0, 0, 0, 0)).2.2.2.2.2.2.2.1, (l.getD i.toNat (0, 0, 0, [], 0, 0, 0, 0, 0, 0, false, 0, 0, 0, 0)).2.2.2.2.2.2.2.2.1, (l.getD i.toNat (0, 0, 0, [], 0, 0, 0, 0, 0, 0, false, 0, 0, 0, 0)).2.2.2.2.2.2.2.2.2.1, (l.getD i.toNat (0, 0, 0, [], 0, 0, 0, 0, 0, 0, false, 0, 0, 0, 0)).2.2.2.2.2.2.2.2.2.2.1)].length) * 120 ≤ 140737488355328) then bif decide (0 ≤ k) && decide (k ≤ (↑out.length : Int)) then bif decide (((List.take k.toNat out ++ [(core, i, (l.getD i.toNat (0, 0, 0, [], 0, 0, 0, 0, 0, 0, false, 0, 0, 0, 0)).1, (l.getD i.toNat (0, 0, 0, [], 0, 0, 0, 0, 0, 0, false, 0, 0, 0, 0)).2.1, (l.getD i.toNat (0, 0, 0, [], 0, 0, 0, 0, 0, 0, false, 0, 0, 0, 0)).2.2.1, (l.getD i.toNat (0, 0, 0, [], 0, 0, 0, 0, 0, 0, false, 0, 0, 0, 0)).2.2.2.1, (l.getD i.toNat (0, 0, 0, [], 0, 0, 0, 0, 0, 0, false, 0, 0, 0, 0)).2.2.2.2.1, (l.getD i.toNat (0, 0, 0, [], 0, 0, 0, 0, 0, 0, false, 0, 0, 0, 0)).2.2.2.2.2.1, (l.getD i.toNat (0, 0, 0, [], 0, 0, 0, 0, 0, 0, false, 0, 0, 0, 0)).2.2.2.2.2.2.1, (l.getD i.toNat (0, 0, 0, [], 0, 0, 0, 0, 0, 0, false, 0, 0, 0, 0)).2.2.2.2.2.2.2.1, (l.getD i.toNat (0, 0, 0, [], 0, 0, 0, 0, 0, 0, false, 0, 0, 0, 0)).2.2.2.2.2.2.2.2.1, (l.getD i.toNat (0, 0, 0, [], 0, 0, 0, 0, 0, 0, false, 0, 0, 0, 0)).2.2.2.2.2.2.2.2.2.1, (l.getD i.toNat (0, 0, 0, [], 0, 0, 0, 0, 0, 0, false, 0, 0, 0, 0)).2.2.2.2.2.2.2.2.2.2.1)]).length + (List.drop k.toNat out).length) * 120 ≤ 140737488355328) then L_rsle_0 f (l, core, List.take k.toNat out ++ [(core, i, (l.getD i.toNat (0, 0, 0, [], 0, 0, 0, 0, 0, 0, false, 0, 0, 0, 0)).1, (l.getD i.toNat (0, 0, 0, [], 0, 0, 0, 0, 0, 0, false, 0, 0, 0, 0)).2.1, (l.getD i.toNat (0, 0, 0, [], 0, 0, 0, 0, 0, 0, false, 0, 0, 0, 0)).2.2.1, (l.getD i.toNat (0, 0, 0, [], 0, 0, 0, 0, 0, 0, false, 0, 0, 0, 0)).2.2.2.1, (l.getD i.toNat (0, 0, 0, [], 0, 0, 0, 0, 0, 0, false, 0, 0, 0, 0)).2.2.2.2.1, (l.getD i.toNat (0, 0, 0, [], 0, 0, 0, 0, 0, 0, false, 0, 0, 0, 0)).2.2.2.2.2.1, (l.getD i.toNat (0, 0, 0, [], 0, 0, 0, 0, 0, 0, false, 0, 0, 0, 0)).2.2.2.2.2.2.1, (l.getD i.toNat (0, 0, 0, [], 0, 0, 0, 0, 0, 0, false, 0, 0, 0, 0)).2.2.2.2.2.2.2.1, (l.getD i.toNat (0, 0, 0, [], 0, 0, 0, 0, 0, 0, false, 0, 0, 0, 0)).2.2.2.2.2.2.2.2.1, (l.getD i.toNat (0, 0, 0, [], 0, 0, 0, 0, 0, 0, false, 0, 0, 0, 0)).2.2.2.2.2.2.2.2.2.1, (l.getD i.toNat (0, 0, 0, [], 0, 0, 0, 0, 0, 0, false, 0, 0, 0, 0)).2.2.2.2.2.2.2.2.2.2.1)] ++ List.drop k.toNat out, IntKind.i64.wrap (i + 1)) else none else none else none else none else none else none else none else none else none else bif decide (0 ≤ k) && decide (k ≤ (↑out.length : Int)) then bif decide (0 ≤ i) && decide (i < (↑l.length : Int)) then bif okE (List.take k.toNat out) then bif len40n (l.getD i.toNat (0, 0, 0, [], 0, 0, 0, 0, 0, 0, false, 0, 0, 0, 0)).2.2.2.1 then bif decide (((List.take k.toNat out).length + [(core, i, (l.getD i.toNat (0, 0, 0, [], 0, 0, 0, 0, 0, 0, false, 0, 0, 0, 0)).1, (l.getD i.toNat (0, 0, 0, [], 0, 0, 0, 0, 0, 0, false, 0, 0, 0, 0)).2.1, (l.getD i.toNat (0, 0, 0, [], 0, 0, 0, 0, 0, 0, false, 0, 0, 0, 0)).2.2.1, (l.getD i.toNat (0, 0, 0, [], 0, 0, 0, 0, 0, 0, false, 0, 0, 0, 0)).2.2.2.1, (l.getD i.toNat (0, 0, 0, [], 0, 0, 0, 0, 0, 0, false, 0, 0, 0, 0)).2.2.2.2.1, (l.getD i.toNat (0, 0, 0, [], 0, 0, 0, 0, 0, 0, false, 0, 0, 0, 0)).2.2.2.2.2.1, (l.getD i.toNat (0, 0, 0, [], 0, 0, 0, 0, 0, 0, false, 0, 0, 0, 0)).2.2.2.2.2.2.1, (l.getD i.toNat (0, 0, 0, [], 0, 0, 0, 0, 0, 0, false, 0, 0, 0, 0)).2.2.2.2.2.2.2.1, (l.getD i.toNat (0, 0, 0, [], 0, 0, 0, 0, 0, 0, false, 0, 0, 0, 0)).2.2.2.2.2.2.2.2.1, (l.getD i.toNat (0, 0, 0, [], 0, 0, 0, 0, 0, 0, false, 0, 0, 0, 0)).2.2.2.2.2.2.2.2.2.1, (l.getD i.toNat (0, 0, 0, [], 0, 0, 0, 0, 0, 0, false, 0, 0, 0, 0)).2.2.2.2.2.2.2.2.2.2.1)].length) * 120 ≤ 140737488355328) then bif decide (0 ≤ k) && decide (k ≤ (↑out.length : Int)) then bif decide (((List.take k.toNat out ++ [(core, i, (l.getD i.toNat (0, 0, 0, [], 0, 0, 0, 0, 0, 0, false, 0, 0, 0, 0)).1, (l.getD i.toNat (0, 0, 0, [], 0, 0, 0, 0, 0, 0, false, 0, 0, 0, 0)).2.1, (l.getD i.toNat (0, 0, 0, [], 0, 0, 0, 0, 0, 0, false, 0, 0, 0, 0)).2.2.1, (l.getD i.toNat (0, 0, 0, [], 0, 0, 0, 0, 0, 0, false, 0, 0, 0, 0)).2.2.2.1, (l.getD i.toNat (0, 0, 0, [], 0, 0, 0, 0, 0, 0, false, 0, 0, 0, 0)).2.2.2.2.1, (l.getD i.toNat (0, 0, 0, [], 0, 0, 0, 0, 0, 0, false, 0, 0, 0, 0)).2.2.2.2.2.1, (l.getD i.toNat (0, 0, 0, [], 0, 0, 0, 0, 0, 0, false, 0, 0, 0, 0)).2.2.2.2.2.2.1, (l.getD i.toNat (0, 0, 0, [], 0, 0, 0, 0, 0, 0, false, 0, 0, 0, 0)).2.2.2.2.2.2.2.1, (l.getD i.toNat (0, 0, 0, [], 0, 0, 0, 0, 0, 0, false, 0, 0, 0, 0)).2.2.2.2.2.2.2.2.1, (l.getD i.toNat (0, 0, 0, [], 0, 0, 0, 0, 0, 0, false, 0, 0, 0, 0)).2.2.2.2.2.2.2.2.2.1, (l.getD i.toNat (0, 0, 0, [], 0, 0, 0, 0, 0, 0, false, 0, 0, 0, 0)).2.2.2.2.2.2.2.2.2.2.1)]).length + (List.drop k.toNat out).length) * 120 ≤ 140737488355328) then L_rsle_0 f (l, core, List.take k.toNat out ++ [(core, i, (l.getD i.toNat (0, 0, 0, [], 0, 0, 0, 0, 0, 0, false, 0, 0, 0, 0)).1, (l.getD i.toNat (0, 0, 0, [], 0, 0, 0, 0, 0, 0, false, 0, 0, 0, 0)).2.1, (l.getD i.toNat (0, 0, 0, [], 0, 0, 0, 0, 0, 0, false, 0, 0, 0, 0)).2.2.1, (l.getD i.toNat (0, 0, 0, [], 0, 0, 0, 0, 0, 0, false, 0, 0, 0, 0)).2.2.2.1, (l.getD i.toNat (0, 0, 0, [], 0, 0, 0, 0, 0, 0, false, 0, 0, 0, 0)).2.2.2.2.1, (l.getD i.toNat (0, 0, 0, [], 0, 0, 0, 0, 0, 0, false, 0, 0, 0, 0)).2.2.2.2.2.1, (l.getD i.toNat (0, 0, 0, [], 0, 0, 0, 0, 0, 0, false, 0, 0, 0, 0)).2.2.2.2.2.2.1, (l.getD i.toNat (0, 0, 0, [], 0, 0, 0, 0, 0, 0, false, 0, 0, 0, 0)).2.2.2.2.2.2.2.1, (l.getD i.toNat (0, 0, 0, [], 0, 0, 0, 0, 0, 0, false, 0, 0, 0, 0)).2.2.2.2.2.2.2.2.1, (l.getD i.toNat (0, 0, 0, [], 0, 0, 0, 0, 0, 0, false, 0, 0, 0, 0)).2.2.2.2.2.2.2.2.2.1, (l.getD i.toNat (0, 0, 0, [], 0, 0, 0, 0, 0, 0, false, 0, 0, 0, 0)).2.2.2.2.2.2.2.2.2.2.1)] ++ List.drop k.toNat out, IntKind.i64.wrap (i + 1)) else none else none else none else none else none else none else none := by kernel_rfl
theorem less_ltE (a b : SEn) : lessI ((a.2.2.1, a.2.2.2.1, a.2.2.2.2.1), b.2.2.1, b.2.2.2.1, b.2.2.2.2.1) = ltE a b := by
  rw [Bool.eq_iff_iff, lessI_iff, ltE_iff]; exact Iff.rfl
theorem rsle_2 {l p q : List SSl} {s : SSl} {core : Int} {R : List SEn} (hl : l = p ++ s :: q) (hp : p.length ≤ 1000000) (hs : len40n s.2.2.2.1 = true) : ∀ (n : Nat) (a b : List SEn), a.length = n → SrtB ltE (a ++ b) → (∀ z ∈ b, ltE (entOf core ((p.length : Nat) : Int) s) z = true) → a.length + b.length ≤ 1000000 → okE (a ++ b) = true →
    (∃ f, L_rsle_0 f (l, core, insB ltE (entOf core ((p.length : Nat) : Int) s) (a ++ b), ((p.length + 1 : Nat) : Int)) = some R) → ∃ f, L_rsle_2 f (l, core, a ++ b, ((p.length : Nat) : Int), ((a.length : Nat) : Int)) = some R := by
  subst hl
  intro n
  have w1 : IntKind.i64.wrap (((p.length : Nat) : Int) + 1) = ((p.length + 1 : Nat) : Int) := by rw [i64_id (by omega) (by omega)]; rfl
  induction n with
  | zero =>
    intro a b hn hsr hb hlen hok ⟨f, hf⟩
    obtain rfl := List.eq_nil_of_length_eq_zero hn
    refine ⟨f + 1, (L_rsle_2_eq f _ _ _ _ _).trans ?_⟩
    have e1 : insB ltE (entOf core ((p.length : Nat) : Int) s) ([] ++ b) = [] ++ [entOf core ((p.length : Nat) : Int) s] ++ b := by
      cases b with
      | nil => rfl
      | cons z b => simp only [List.nil_append, insB, hb z (List.mem_cons_self ..), cond_true]; rfl
    rw [e1] at hf
    rw [show ((([] : List SEn).length : Nat) : Int) = 0 from rfl, show decide ((0 : Int) > 0) = false from rfl, cond_false, lt_mid, getD_mid, ge0, w1]
    simp only [show (0 : Int).toNat = 0 from rfl, List.take_zero, List.drop_zero, List.nil_append, hs]
    have d0 : decide ((0 : Int) ≤ 0) = true := rfl
    have d1 : decide ((0 : Int) ≤ ((b.length : Nat) : Int)) = true := ge0 _
    have d2 : okE [] = true := rfl
    simp only [d0, d1, d2, Bool.and_self, cond_true]
    have d3 : ∀ x : SEn, decide ((([] : List SEn).length + [x].length) * 120 ≤ 140737488355328) = true := fun x => decide_eq_true (by simp)
    have d4 : ∀ x : SEn, decide (([x].length + b.length) * 120 ≤ 140737488355328) = true := fun x => decide_eq_true (by simp at hlen ⊢; omega)
    simp only [d3, d4, cond_true]
    exact hf
  | succ n ih =>
    intro a b hn hsr hb hlen hok hR
    obtain ⟨a, z, rfl⟩ : ∃ a' z, a = a' ++ [z] := ⟨a.dropLast, a.getLast (by intro h; rw [h] at hn; cases hn), (List.dropLast_concat_getLast _).symm⟩
    have han : a.length = n := by rw [List.length_append, List.length_singleton] at hn; exact Nat.succ.inj hn
    simp only [List.length_append, List.length_cons, List.length_nil] at hlen
    have wk : IntKind.i64.wrap ((((a ++ [z]).length : Nat) : Int) - 1) = ((a.length : Nat) : Int) := by
      rw [i64_id (by simp) (by simp only [List.length_append, List.length_cons, List.length_nil]; omega)]; simp only [List.length_append, List.length_cons, List.length_nil]; omega
    have gz : (a ++ [z] ++ b).getD ((a.length : Nat) : Int).toNat (0, 0, 0, 0, 0, [], 0, 0, 0, 0, 0, 0, false) = z := by
      rw [Int.toNat_natCast]; have := getD_one (x := a) (q := []) (r := z) (y := b) (p := z) (z := zE) rfl
      simp
    have hk : decide ((((a ++ [z]).length : Nat) : Int) > 0) = true := decide_eq_true (by simp only [List.length_append, List.length_cons, List.length_nil]; omega)
    have hkl : decide (((a.length : Nat) : Int) < (((a ++ [z] ++ b).length : Nat) : Int)) = true := decide_eq_true (by simp only [List.length_append, List.length_cons, List.length_nil]; omega)
    have hle := less_ltE (entOf core ((p.length : Nat) : Int) s) z
    cases hc : ltE (entOf core ((p.length : Nat) : Int) s) z
    · obtain ⟨f, hf⟩ := hR
      refine ⟨f + 1, (L_rsle_2_eq f _ _ _ _ _).trans ?_⟩
      have hp2 : ∀ y ∈ a ++ [z], ltE (entOf core ((p.length : Nat) : Int) s) y = false := fun y hy => by
        have hsa := (List.pairwise_append.1 hsr).1
        rcases List.mem_append.1 hy with hy | hy
        · exact ordE.ntrans y z _ ((List.pairwise_append.1 hsa).2.2 y hy z (List.mem_singleton.2 rfl)) hc
        · rw [List.mem_singleton.1 hy]; exact hc
      have e1 : insB ltE (entOf core ((p.length : Nat) : Int) s) (a ++ [z] ++ b) = a ++ [z] ++ [entOf core ((p.length : Nat) : Int) s] ++ b := by
        cases b with
        | nil => rw [List.append_nil, insB_snoc ordE hp2, List.append_nil]
        | cons y b =>
          have hsb : SrtB ltE (a ++ [z] ++ [y]) := hsr.sublist (List.Sublist.append_left (by simp) _)
          rw [insB_front ordE (s := a ++ [z]) hsb (hb y (List.mem_cons_self ..)), insB_snoc ordE hp2]
      rw [e1] at hf
      rw [hc] at hle
      have hle : lessI ((s.1, s.2.1, s.2.2.1), z.2.2.1, z.2.2.2.1, z.2.2.2.2.1) = false := hle
      rw [hk, cond_true, lt_mid, getD_mid, ge0, ge0, wk, hkl, gz, hle, w1, ge0]
      have d1 : decide ((((a ++ [z]).length : Nat) : Int) ≤ (((a ++ [z] ++ b).length : Nat) : Int)) = true := decide_eq_true (by simp only [List.length_append]; omega)
      have d2 : okE (a ++ [z]) = true := okE_mk (by simp only [List.length_append, List.length_cons, List.length_nil]; omega) fun e he => okE_mem hok (List.mem_append_left _ he)
      have d3 : ∀ x : SEn, decide (((a ++ [z]).length + [x].length) * 120 ≤ 140737488355328) = true := fun x => decide_eq_true (by simp only [List.length_append, List.length_cons, List.length_nil]; omega)
      have d4 : ∀ x : SEn, decide (((a ++ [z] ++ [x]).length + b.length) * 120 ≤ 140737488355328) = true := fun x => decide_eq_true (by simp only [List.length_append, List.length_cons, List.length_nil]; omega)
      have t1 : List.take ((((a ++ [z]).length : Nat) : Int)).toNat (a ++ [z] ++ b) = a ++ [z] := by rw [Int.toNat_natCast, List.take_left]
      have t2 : List.drop ((((a ++ [z]).length : Nat) : Int)).toNat (a ++ [z] ++ b) = b := by rw [Int.toNat_natCast, List.drop_left]
      simp only [t1, t2, d1, d2, d3, d4, hs, Bool.and_self, cond_true, cond_false]
      exact hf
    · obtain ⟨f, hf⟩ := ih a (z :: b) han (by simpa using hsr) (fun y hy => by
        rcases List.mem_cons.1 hy with rfl | hy
        · exact hc
        · exact hb y hy) (by simp only [List.length_cons]; omega) (by simpa using hok) (by simpa using hR)
      refine ⟨f + 1, (L_rsle_2_eq f _ _ _ _ _).trans ?_⟩
      rw [hc] at hle
      have hle : lessI ((s.1, s.2.1, s.2.2.1), z.2.2.1, z.2.2.2.1, z.2.2.2.2.1) = true := hle
      rw [hk, cond_true, lt_mid, getD_mid, ge0, ge0, wk, hkl, gz, hle]
      simp only [Bool.and_self, cond_true]
      simpa using hf
theorem okE_entOf {core i : Int} {s : SSl} (h : len40n s.2.2.2.1 = true) : len40n (entOf core i s).2.2.2.2.2.1 = true := h
theorem rsle_0 {core : Int} : ∀ (r p : List SSl) (out : List SEn), (∀ s ∈ r, len40n s.2.2.2.1 = true) → p.length + r.length ≤ 1000000 → out.length ≤ p.length → SrtB ltE out → okE out = true →
    ∃ f, L_rsle_0 f (p ++ r, core, out, ((p.length : Nat) : Int)) = some ((entL core r p.length).foldl (fun s x => insB ltE x s) out)
  | [], p, out, h, hl, ho, hs, hok => ⟨1, (L_rsle_0_eq 0 _ _ _ _).trans (by rw [lt_end]; rfl)⟩
  | s :: r, p, out, h, hl, ho, hs, hok => by
    simp only [List.length_cons] at hl
    have e1 : IntKind.i64.wrap (((p.length : Nat) : Int) + 1) = ((p.length + 1 : Nat) : Int) := by rw [i64_id (by omega) (by omega)]; rfl
    have el : (p ++ [s]).length = p.length + 1 := by simp
    have h1 := h s (List.mem_cons_self ..)
    cases he : empB s
    · have hi := len_insB (lt := ltE) (entOf core ((p.length : Nat) : Int) s) out
      obtain ⟨f, hf⟩ := rsle_0 (core := core) r (p ++ [s]) (insB ltE (entOf core ((p.length : Nat) : Int) s) out) (fun e he => h e (List.mem_cons_of_mem _ he)) (by rw [el]; omega) (by rw [el, hi]; omega) (srt_insB ordE hs) (okE_mk (by rw [hi]; omega) fun e he => by
        rcases mem_insB.1 he with rfl | he
        · exact okE_entOf h1
        · exact okE_mem hok he)
      rw [el, List.append_assoc, List.singleton_append] at hf
      obtain ⟨g, hg⟩ := rsle_2 (core := core) (R := (entL core r (p.length + 1)).foldl (fun s x => insB ltE x s) (insB ltE (entOf core ((p.length : Nat) : Int) s) out)) (p := p) (q := r) (s := s) rfl (by omega) h1 out.length out [] rfl (by simpa using hs) (fun z hz => by cases hz) (by simp only [List.length_nil]; omega) (by simpa using hok) ⟨f, by rw [List.append_nil]; exact hf⟩
      refine ⟨g + 1, (L_rsle_0_eq g _ _ _ _).trans ?_⟩
      rw [lt_mid, getD_mid, ge0, he]
      simp only [Bool.and_self, cond_true, cond_false, entL, he, List.foldl_cons]
      rw [List.append_nil] at hg
      exact hg
    · obtain ⟨f, hf⟩ := rsle_0 (core := core) r (p ++ [s]) out (fun e he => h e (List.mem_cons_of_mem _ he)) (by rw [el]; omega) (by rw [el]; omega) hs hok
      rw [el, List.append_assoc, List.singleton_append] at hf
      refine ⟨f + 1, (L_rsle_0_eq f _ _ _ _).trans ?_⟩
      rw [lt_mid, getD_mid, ge0, he, e1]
      simp only [Bool.and_self, cond_true, entL, he]
      exact hf
theorem rsle_run : ∀ a, entP a = true → ∃ f, M_rsle f a = some (entS a) := by
  rintro ⟨l, core⟩ h
  obtain ⟨h1, h2⟩ := Bool.and_eq_true_iff.1 h
  have h2 : l.length ≤ 1000000 := of_decide_eq_true h2
  obtain ⟨f, hf⟩ := rsle_0 (core := core) l [] [] (fun s hs => okSl_mem h1 hs) (by simpa using h2) (Nat.le_refl _) .nil rfl
  exact ⟨f + 1, (M_rsle_eq f _ _).trans hf⟩
noncomputable def E_rsle : Ent := ⟨49, [.rd tSSl, .c (.int .i64)], [.v (.sl tSEn)], fun a => (entP : (List (SSl)) × Int → Bool) a, fun a => (entS : (List (SSl)) × Int → (List (SEn))) a⟩
theorem E_rsle_ok : E_rsle.Ok Try.prog := fun a hp vs hv => (rsle_run a hp).elim fun f h => fnX_ok (C := C_rsle) (Lt := Lt_rsle) (fn := Try.f49) (rs := [.tmp 4]) [.rd tSSl, .c (.int .i64)] [.v (.sl tSEn)] mixed es_rsle Try.func49 rfl rfl rfl (by kernel_rfl) (by kernel_rfl) f h vs hv
noncomputable def C_senl : Cfg := ⟨Try.prog, [E_snode], pmT [(6, ([(0, []), (1, []), (2, []), (3, []), (4, []), (5, []), (6, []), (7, []), (8, []), (9, []), (10, []), (11, []), (12, []), (13, []), (14, []), (15, []), (16, []), (17, []), (18, []), (19, []), (20, []), (21, []), (22, []), (23, []), (24, []), (25, []), (26, []), (27, []), (28, []), (29, []), (30, []), (31, []), (32, []), (33, []), (34, []), (35, []), (36, []), (37, [])], [(17, 54)]))], 55, [], []⟩
theorem es_senl : EsOk Try.prog [E_snode] [] := es_cons E_snode_ok (es_nil)
def Lt_senl : Nat → LD := ldT [(0, ⟨[.rd 0 tSEn, .rd 1 tSEn, .c 5 (.int .i64)], [], 0⟩)]
noncomputable def M_senl (f : Nat) (a : (List (SEn)) × (List (SEn))) : Option (Bool) := (runX (C_senl) Lt_senl (Kret Try.prog [.tmp 4] [.v (.bool)]) f [.code (bodyOf Try.f47)] (initX [.rd tSEn, .rd tSEn] a) : Option (ResT [.v (.bool)]))
noncomputable def L_senl_0 (f : Nat) (x : (List (SEn)) × (List (SEn)) × Int) : Option (Bool) := (runX (C_senl) Lt_senl (Kret Try.prog [.tmp 4] [.v (.bool)]) f (headOf Try.f47 0) ((Lt_senl 0).mk' x) : Option (ResT [.v (.bool)]))
theorem M_senl_eq (f : Nat) (a : List (SEn)) (b : List (SEn)) : M_senl (f + 1) (a, b) =
    bif (↑a.length : Int) != (↑b.length : Int) then some false else L_senl_0 f (a, b, 0) := by kernel_rfl
theorem L_senl_0_eq (f : Nat) (a : List (SEn)) (b : List (SEn)) (i : Int) : L_senl_0 (f + 1) (a, b, i) =
    bif decide (i < (↑a.length : Int)) then bif decide (0 ≤ i) && decide (i < (↑a.length : Int)) then bif decide (0 ≤ i) && decide (i < (↑b.length : Int)) then bif (a.getD i.toNat (0, 0, 0, 0, 0, [], 0, 0, 0, 0, 0, 0, false)).1 != (b.getD i.toNat (0, 0, 0, 0, 0, [], 0, 0, 0, 0, 0, 0, false)).1 then some false else bif decide (0 ≤ i) && decide (i < (↑a.length : Int)) then bif decide (0 ≤ i) && decide (i < (↑b.length : Int)) then bif (a.getD i.toNat (0, 0, 0, 0, 0, [], 0, 0, 0, 0, 0, 0, false)).2.1 != (b.getD i.toNat (0, 0, 0, 0, 0, [], 0, 0, 0, 0, 0, 0, false)).2.1 then some false else bif decide (0 ≤ i) && decide (i < (↑a.length : Int)) then bif decide (0 ≤ i) && decide (i < (↑b.length : Int)) then bif len40n (a.getD i.toNat (0, 0, 0, 0, 0, [], 0, 0, 0, 0, 0, 0, false)).2.2.2.2.2.1 then bif !decide ((a.getD i.toNat (0, 0, 0, 0, 0, [], 0, 0, 0, 0, 0, 0, false)).2.2 = (b.getD i.toNat (0, 0, 0, 0, 0, [], 0, 0, 0, 0, 0, 0, false)).2.2) then some false else L_senl_0 f (a, b, IntKind.i64.wrap (i + 1)) else none else none else none else none else none else none else none else some true := by kernel_rfl
noncomputable def F_senl_0 : List (SEn) → ((List (SEn)) × (List (SEn)) × Nat) → Bool
  | [], (a, b, i) => true
  | uu :: rest, (a, b, i) => bif uu.1 != (b.getD (↑i : Int).toNat (0, 0, 0, 0, 0, [], 0, 0, 0, 0, 0, 0, false)).1 then false else bif uu.2.1 != (b.getD (↑i : Int).toNat (0, 0, 0, 0, 0, [], 0, 0, 0, 0, 0, 0, false)).2.1 then false else bif !decide (uu.2.2 = (b.getD (↑i : Int).toNat (0, 0, 0, 0, 0, [], 0, 0, 0, 0, 0, 0, false)).2.2) then false else F_senl_0 rest (a, b, i + 1)
noncomputable def P_senl_0 : List (SEn) → ((List (SEn)) × (List (SEn)) × Nat) → Bool
  | [], (a, b, i) => true
  | uu :: rest, (a, b, i) => decide ((↑i : Int) < (↑b.length : Int)) && bif uu.1 != (b.getD (↑i : Int).toNat (0, 0, 0, 0, 0, [], 0, 0, 0, 0, 0, 0, false)).1 then true else decide ((↑i : Int) < (↑b.length : Int)) && bif uu.2.1 != (b.getD (↑i : Int).toNat (0, 0, 0, 0, 0, [], 0, 0, 0, 0, 0, 0, false)).2.1 then true else decide ((↑i : Int) < (↑b.length : Int)) && (len40n uu.2.2.2.2.2.1 && bif !decide (uu.2.2 = (b.getD (↑i : Int).toNat (0, 0, 0, 0, 0, [], 0, 0, 0, 0, 0, 0, false)).2.2) then true else P_senl_0 rest (a, b, i + 1))
theorem A_senl_0 : ∀ (rest : List (SEn)) (a : List (SEn)) (b : List (SEn)) (i : Nat) (hd : a.drop i = rest) (hl : a.length ≤ 1099511627776), Rns (fun f => L_senl_0 f (a, b, ((i : Nat) : Int))) (P_senl_0 rest (a, b, i)) (F_senl_0 rest (a, b, i))
  | [], a, b, i, hd, hl => ev_step (T := fun f => some true) (fun f => (L_senl_0_eq f _ _ _).trans (by simp only [ge_dec (drop_ge hd), ge0, Bool.and_self, Bool.true_and, cond_true, cond_false, List.length_set] <;> rfl)) ev_some
  | uu :: rest, a, b, i, hd, hl => ev_step (T := fun f => bif decide ((↑i : Int) < (↑b.length : Int)) then bif uu.1 != (b.getD (↑i : Int).toNat (0, 0, 0, 0, 0, [], 0, 0, 0, 0, 0, 0, false)).1 then some false else bif decide ((↑i : Int) < (↑b.length : Int)) then bif uu.2.1 != (b.getD (↑i : Int).toNat (0, 0, 0, 0, 0, [], 0, 0, 0, 0, 0, 0, false)).2.1 then some false else bif decide ((↑i : Int) < (↑b.length : Int)) then bif len40n uu.2.2.2.2.2.1 then bif !decide (uu.2.2 = (b.getD (↑i : Int).toNat (0, 0, 0, 0, 0, [], 0, 0, 0, 0, 0, 0, false)).2.2) then some false else L_senl_0 f (a, b, (↑(i + 1) : Int)) else none else none else none else none) (fun f => (L_senl_0_eq f _ _ _).trans (by simp only [lt_dec (drop_lt hd), drop_get hd, wrap_succ (drop_lt hd) hl, getD_set (drop_lt hd), ge0, Bool.and_self, Bool.true_and, cond_true, cond_false, List.length_set] <;> rfl)) (ev_chk (ev_bif ev_some (ev_chk (ev_bif ev_some (ev_chk (ev_chk (ev_bif ev_some (A_senl_0 rest _ _ _ (by first | exact drop_succ hd | exact drop_set hd | exact drop_setS (drop_set hd)) (by first | exact hl | simpa using hl)))))))))
noncomputable def F_senl : ((List (SEn)) × (List (SEn))) → Bool
  | (a, b) => bif (↑a.length : Int) != (↑b.length : Int) then false else F_senl_0 a (a, b, 0)
noncomputable def P_senl : ((List (SEn)) × (List (SEn))) → Bool
  | (a, b) => bif (↑a.length : Int) != (↑b.length : Int) then true else decide (a.length ≤ 1099511627776) && P_senl_0 a (a, b, 0)
theorem senl_auto : ∀ a : (List (SEn)) × (List (SEn)), Rns (fun f => M_senl f a) (P_senl a) (F_senl a)
  | (a, b) => ev_step (fun f => M_senl_eq f _ _) (ev_bif ev_some (ev_and fun hh => A_senl_0 _ _ _ _ rfl (of_decide_eq_true hh)))
theorem senl_0 (a b : List SEn) (hab : a.length = b.length) : ∀ (r q p : List SEn) , b = p ++ q → r.length = q.length → (∀ e ∈ r, len40n e.2.2.2.2.2.1 = true) → F_senl_0 r (a, b, p.length) = decide (r = q) ∧ P_senl_0 r (a, b, p.length) = true
  | [], [], p, hb, h, ho => ⟨rfl, rfl⟩
  | [], u :: q, p, hb, h, ho => by simp at h
  | u :: r, [], p, hb, h, ho => by simp at h
  | u :: r, v :: q, p, hb, h, ho => by
    simp only [List.length_cons] at h
    obtain ⟨i1, i2⟩ := senl_0 a b hab r q (p ++ [v]) (by simpa using hb) (by omega) (fun e he => ho e (List.mem_cons_of_mem _ he))
    rw [show (p ++ [v]).length = p.length + 1 by simp] at i1 i2
    have hu := ho u (List.mem_cons_self ..)
    have hg : b.getD (((p.length : Nat) : Int)).toNat (0, 0, 0, 0, 0, [], 0, 0, 0, 0, 0, 0, false) = v := by rw [hb]; exact getD_mid ..
    have hlt : decide (((p.length : Nat) : Int) < ((b.length : Nat) : Int)) = true := by rw [hb]; exact lt_mid ..
    simp only [F_senl_0, P_senl_0, hg, hlt, hu, i1, i2, Bool.true_and]
    have e : decide (u :: r = v :: q) = (decide (u.1 = v.1) && (decide (u.2.1 = v.2.1) && (decide (u.2.2 = v.2.2) && decide (r = q)))) := by
      rw [Bool.eq_iff_iff]; simp only [decide_eq_true_eq, Bool.and_eq_true, List.cons.injEq]
      constructor
      · rintro ⟨rfl, h4⟩; exact ⟨rfl, rfl, rfl, h4⟩
      · rintro ⟨h1, h2, h3, h4⟩; exact ⟨Prod.ext h1 (Prod.ext h2 h3), h4⟩
    rw [e]
    have b1 : (u.1 != v.1) = !decide (u.1 = v.1) := bneI _ _
    have b2 : (u.2.1 != v.2.1) = !decide (u.2.1 = v.2.1) := bneI _ _
    rw [b1, b2]
    cases decide (u.1 = v.1)
    · exact ⟨rfl, rfl⟩
    cases decide (u.2.1 = v.2.1)
    · exact ⟨rfl, rfl⟩
    cases decide (u.2.2 = v.2.2)
    · exact ⟨rfl, rfl⟩
    exact ⟨rfl, rfl⟩
theorem senl_both : ∀ a : List SEn × List SEn, (fun a : List SEn × List SEn => okE a.1) a = true → P_senl a = true ∧ F_senl a = (fun a : List SEn × List SEn => decide (a.1 = a.2)) a := by
  rintro ⟨a, b⟩ h
  have h : okE a = true := h
  by_cases hl : a.length = b.length
  · obtain ⟨i1, i2⟩ := senl_0 a b hl a b [] rfl hl (fun e he => okE_mem h he)
    have e : (((a.length : Nat) : Int) != ((b.length : Nat) : Int)) = false := by rw [hl]; simp
    simp only [List.length_nil] at i1 i2
    simp only [P_senl, F_senl, e, i1, i2, cond_false, Bool.and_true]
    exact ⟨decide_eq_true (okE_len h), trivial⟩
  · have e : (((a.length : Nat) : Int) != ((b.length : Nat) : Int)) = true := by
      rw [bneI, decide_eq_false (by omega)]; rfl
    simp only [P_senl, F_senl, e, cond_true]
    exact ⟨trivial, (decide_eq_false (fun h => hl (by rw [h]))).symm⟩
theorem senl_P : ∀ a, (fun a : List SEn × List SEn => okE a.1) a = true → P_senl a = true := fun a h => (senl_both a h).1
theorem senl_F : ∀ a, (fun a : List SEn × List SEn => okE a.1) a = true → F_senl a = (fun a : List SEn × List SEn => decide (a.1 = a.2)) a := fun a h => (senl_both a h).2
theorem senl_run : ∀ a, (fun a => okE a.1 : (List (SEn)) × (List (SEn)) → Bool) a = true → ∃ f, M_senl f a = some ((fun a => decide (a.1 = a.2) : (List (SEn)) × (List (SEn)) → Bool) a) := fun a h => by have h1 := senl_auto a (senl_P a h); rw [senl_F a h] at h1; exact h1
noncomputable def E_senl : Ent := ⟨47, [.rd tSEn, .rd tSEn], [.v (.bool)], fun a => (fun a => okE a.1 : (List (SEn)) × (List (SEn)) → Bool) a, fun a => (fun a => decide (a.1 = a.2) : (List (SEn)) × (List (SEn)) → Bool) a⟩
theorem E_senl_ok : E_senl.Ok Try.prog := fun a hp vs hv => (senl_run a hp).elim fun f h => fnX_ok (C := C_senl) (Lt := Lt_senl) (fn := Try.f47) (rs := [.tmp 4]) [.rd tSEn, .rd tSEn] [.v (.bool)] mixed es_senl Try.func47 rfl rfl rfl (by kernel_rfl) (by kernel_rfl) f h vs hv
noncomputable def C_sexl : Cfg := ⟨Try.prog, [E_few, E_awake, E_csl, E_ents, E_rsle, E_senl], pmT [], 20, [], []⟩
theorem es_sexl : EsOk Try.prog [E_few, E_awake, E_csl, E_ents, E_rsle, E_senl] [] := es_cons E_few_ok (es_cons E_awake_ok (es_cons E_csl_ok (es_cons E_ents_ok (es_cons E_rsle_ok (es_cons E_senl_ok (es_nil))))))
def Lt_sexl : Nat → LD := ldT []
noncomputable def M_sexl (f : Nat) (a : (List (SSl)) × Int) : Option (Bool) := (runX (C_sexl) Lt_sexl (Kret Try.prog [.tmp 4] [.v (.bool)]) f [.code (bodyOf Try.f10)] (initX [.rd tSSl, .c (.int .i64)] a) : Option (ResT [.v (.bool)]))
theorem M_sexl_eq (f : Nat) (l : List (SSl)) (core : Int) : M_sexl (f + 1) (l, core) =
    bif !fewB l then some true else bif okSl l then bif entP (l, core) then bif entP (l, core) then bif okE (entS (l, core)) then bif decide (entS (l, core) = entS (l, core)) then some true else some false else none else none else none else none := by kernel_rfl
noncomputable def F_sexl : ((List (SSl)) × Int) → Bool
  | (l, core) => bif !fewB l then true else bif decide (entS (l, core) = entS (l, core)) then true else false
noncomputable def P_sexl : ((List (SSl)) × Int) → Bool
  | (l, core) => bif !fewB l then true else okSl l && (entP (l, core) && (entP (l, core) && okE (entS (l, core))))
theorem sexl_auto : ∀ a : (List (SSl)) × Int, Rns (fun f => M_sexl f a) (P_sexl a) (F_sexl a)
  | (l, core) => ev_step (fun f => M_sexl_eq f _ _) (ev_bif ev_some (ev_chk (ev_chk (ev_chk (ev_chk1 (ev_bift ev_some ev_some))))))
theorem entL_mem {core : Int} : ∀ {r : List SSl} {i : Nat} {e : SEn}, e ∈ entL core r i → ∃ j s, r[j]? = some s ∧ empB s = false ∧ e = entOf core ((i + j : Nat) : Int) s
  | s :: r, i, e, h => by
    simp only [entL] at h
    cases he : empB s
    · rw [he] at h
      rcases List.mem_cons.1 h with rfl | h
      · exact ⟨0, s, rfl, he, rfl⟩
      · obtain ⟨j, t, h1, h2, h3⟩ := entL_mem h
        exact ⟨j + 1, t, by simpa using h1, h2, by rw [h3]; congr 2; omega⟩
    · rw [he] at h
      obtain ⟨j, t, h1, h2, h3⟩ := entL_mem h
      exact ⟨j + 1, t, by simpa using h1, h2, by rw [h3]; congr 2; omega⟩
theorem entS_mem {l : List SSl} {core : Int} {e : SEn} : e ∈ entS (l, core) ↔ e ∈ entL core l 0 := (perm_srtB _).mem_iff
theorem entS_len (l : List SSl) (core : Int) : (entS (l, core)).length = (entL core l 0).length := len_srtB _
theorem entS_okE {l : List SSl} {core : Int} (h : entP (l, core) = true) : okE (entS (l, core)) = true := by
  obtain ⟨h1, h2⟩ := Bool.and_eq_true_iff.1 h
  have h2 : l.length ≤ 1000000 := of_decide_eq_true h2
  refine okE_mk (by rw [entS_len]; have := entL_len core l 0; omega) fun e he => ?_
  obtain ⟨j, s, g1, g2, rfl⟩ := entL_mem (entS_mem.1 he)
  exact okSl_mem h1 (List.mem_of_getElem? g1)
theorem sexl_true : ∀ a : List SSl × Int, ∃ f, M_sexl f a = some true := by
  rintro ⟨l, core⟩
  have h : P_sexl (l, core) = true ∧ F_sexl (l, core) = true := by
    simp only [P_sexl, F_sexl]
    cases hf : fewB l
    · exact ⟨rfl, rfl⟩
    have h1 := few_okSl hf
    have h2 : entP (l, core) = true := Bool.and_eq_true_iff.2 ⟨h1, decide_eq_true (by
      have := (Bool.and_eq_true_iff.1 hf).1
      have := of_decide_eq_true this
      show l.length ≤ _; omega)⟩
    simp only [h1, h2, entS_okE h2]
    simp
  have := sexl_auto (l, core) h.1
  rw [h.2] at this; exact this
end Go.AL
