/-
  Capability spaces: contracts of the functions of layer 14 and of its reference. By an AI agent.
-/
import Derived.Test.YtjlcdgjcbienbaaG3
namespace Go.AL
open Go.Proofs
set_option linter.unusedVariables false
set_option linter.unusedSimpArgs false
abbrev tSSl : List Ty := [.int .i64, .int .i64, .int .i64, .sl [.int .i64, .int .i64, .int .i64], .int .i64, .int .i64, .int .i64, .int .i64, .int .i64, .int .i64, .bool, .int .i64, .int .i64, .int .i64, .int .i64]
abbrev SSl := Int × Int × Int × (List (Int × Int × Int)) × Int × Int × Int × Int × Int × Int × Bool × Int × Int × Int × Int
def sid (s : SSl) : SId := (s.1, s.2.1, s.2.2.1)
def snd (s : SSl) : SNd := (s.1, s.2.1, s.2.2.1, s.2.2.2.1, s.2.2.2.2.1, s.2.2.2.2.2.1, s.2.2.2.2.2.2.1, s.2.2.2.2.2.2.2.1, s.2.2.2.2.2.2.2.2.1, s.2.2.2.2.2.2.2.2.2.1, s.2.2.2.2.2.2.2.2.2.2.1)
def sop (s : SSl) : Int := s.2.2.2.2.2.2.2.2.2.2.2.1
def slk (s : SSl) : SId := s.2.2.2.2.2.2.2.2.2.2.2.2
def mkS (n : SNd) (op : Int) (lk : SId) : SSl := (n.1, n.2.1, n.2.2.1, n.2.2.2.1, n.2.2.2.2.1, n.2.2.2.2.2.1, n.2.2.2.2.2.2.1, n.2.2.2.2.2.2.2.1, n.2.2.2.2.2.2.2.2.1, n.2.2.2.2.2.2.2.2.2.1, n.2.2.2.2.2.2.2.2.2.2, op, lk)
instance decSl : DecidableEq SSl := @instDecidableEqProd Int _ _ (@instDecidableEqProd Int _ _ (@instDecidableEqProd Int _ _ (@instDecidableEqProd (List SId) _ _ (@instDecidableEqProd Int _ _ (@instDecidableEqProd Int _ _ (@instDecidableEqProd Int _ _ (@instDecidableEqProd Int _ _ (@instDecidableEqProd Int _ _ (@instDecidableEqProd Int _ _ (@instDecidableEqProd Bool _ _ (@instDecidableEqProd Int SId _ inferInstance)))))))))))
def okSl (l : List SSl) : Bool := decide (l.length ≤ 68719476736) && l.all fun s => len40n s.2.2.2.1
theorem okSl_len {l : List SSl} (h : okSl l = true) : l.length ≤ 68719476736 := by
  simp only [okSl, Bool.and_eq_true, decide_eq_true_eq] at h; exact h.1
theorem okSl_mem {l : List SSl} (h : okSl l = true) {s : SSl} (hs : s ∈ l) : len40n s.2.2.2.1 = true := by
  simp only [okSl, Bool.and_eq_true] at h; exact List.all_eq_true.1 h.2 s hs
theorem okSl_mk {l : List SSl} (h1 : l.length ≤ 68719476736) (h2 : ∀ s ∈ l, len40n s.2.2.2.1 = true) : okSl l = true := by
  simp only [okSl, Bool.and_eq_true, decide_eq_true_eq]; exact ⟨h1, List.all_eq_true.2 h2⟩
def empB (s : SSl) : Bool := decide (sid s = (0, 0, 0))
def busB (s : SSl) : Bool := !decide (sop s = 0) || !decide (slk s = (0, 0, 0))
noncomputable def C_remp : Cfg := ⟨Try.prog, [], pmT [], 8, [], []⟩
theorem es_remp : EsOk Try.prog [] [] := es_nil
def Lt_remp : Nat → LD := ldT []
noncomputable def M_remp (f : Nat) (a : SSl) : Option (Bool) := (runX (C_remp) Lt_remp (Kret Try.prog [.tmp 2] [.v (.bool)]) f [.code (bodyOf Try.f22)] (initX [.g tSSl] a) : Option (ResT [.v (.bool)]))
theorem M_remp_eq (f : Nat) (s : SSl) : M_remp (f + 1) s =
    some (s.1 == 0 && (s.2.1 == 0 && (s.2.2.1 == 0 && true))) := by kernel_rfl
noncomputable def F_remp : SSl → Bool
  | s => s.1 == 0 && (s.2.1 == 0 && (s.2.2.1 == 0 && true))
noncomputable def P_remp : SSl → Bool
  | s => true
theorem remp_auto : ∀ a : SSl, Rns (fun f => M_remp f a) (P_remp a) (F_remp a)
  | s => ev_step (fun f => M_remp_eq f _) ev_some
theorem remp_P : ∀ a, (fun _ => true) a = true → P_remp a = true := fun _ _ => rfl
theorem remp_F : ∀ a, (fun _ => true) a = true → F_remp a = empB a := fun a _ => id_eq (sid a) (0, 0, 0)
theorem remp_run : ∀ a, (fun _ => true : SSl → Bool) a = true → ∃ f, M_remp f a = some ((empB : SSl → Bool) a) := fun a h => by have h1 := remp_auto a (remp_P a h); rw [remp_F a h] at h1; exact h1
noncomputable def E_remp : Ent := ⟨22, [.g tSSl], [.v (.bool)], fun a => (fun _ => true : SSl → Bool) a, fun a => (empB : SSl → Bool) a⟩
theorem E_remp_ok : E_remp.Ok Try.prog := fun a hp vs hv => (remp_run a hp).elim fun f h => fnX_ok (C := C_remp) (Lt := Lt_remp) (fn := Try.f22) (rs := [.tmp 2]) [.g tSSl] [.v (.bool)] mixed es_remp Try.func22 rfl rfl rfl (by kernel_rfl) (by kernel_rfl) f h vs hv
theorem bus_eq (a : SSl) : (bif sop a != 0 then true else !((slk a).1 == 0 && ((slk a).2.1 == 0 && ((slk a).2.2 == 0 && true)))) = busB a := by
  rw [show ((slk a).1 == 0 && ((slk a).2.1 == 0 && ((slk a).2.2 == 0 && true))) = decide (slk a = (0, 0, 0)) from id_eq (slk a) (0, 0, 0), bneI, busB]
  cases decide (sop a = 0) <;> rfl
noncomputable def C_emp : Cfg := ⟨Try.prog, [], pmT [], 8, [], []⟩
theorem es_emp : EsOk Try.prog [] [] := es_nil
def Lt_emp : Nat → LD := ldT []
noncomputable def M_emp (f : Nat) (a : SSl) : Option (Bool) := (runX (C_emp) Lt_emp (Kret Try.prog [.tmp 2] [.v (.bool)]) f [.code (bodyOf Try.f21)] (initX [.g tSSl] a) : Option (ResT [.v (.bool)]))
theorem M_emp_eq (f : Nat) (s : SSl) : M_emp (f + 1) s =
    some (s.1 == 0 && (s.2.1 == 0 && (s.2.2.1 == 0 && true))) := by kernel_rfl
noncomputable def F_emp : SSl → Bool
  | s => s.1 == 0 && (s.2.1 == 0 && (s.2.2.1 == 0 && true))
noncomputable def P_emp : SSl → Bool
  | s => true
theorem emp_auto : ∀ a : SSl, Rns (fun f => M_emp f a) (P_emp a) (F_emp a)
  | s => ev_step (fun f => M_emp_eq f _) ev_some
theorem emp_P : ∀ a, (fun _ => true) a = true → P_emp a = true := fun _ _ => rfl
theorem emp_F : ∀ a, (fun _ => true) a = true → F_emp a = empB a := fun a _ => id_eq (sid a) (0, 0, 0)
theorem emp_run : ∀ a, (fun _ => true : SSl → Bool) a = true → ∃ f, M_emp f a = some ((empB : SSl → Bool) a) := fun a h => by have h1 := emp_auto a (emp_P a h); rw [emp_F a h] at h1; exact h1
noncomputable def E_emp : Ent := ⟨21, [.g tSSl], [.v (.bool)], fun a => (fun _ => true : SSl → Bool) a, fun a => (empB : SSl → Bool) a⟩
theorem E_emp_ok : E_emp.Ok Try.prog := fun a hp vs hv => (emp_run a hp).elim fun f h => fnX_ok (C := C_emp) (Lt := Lt_emp) (fn := Try.f21) (rs := [.tmp 2]) [.g tSSl] [.v (.bool)] mixed es_emp Try.func21 rfl rfl rfl (by kernel_rfl) (by kernel_rfl) f h vs hv
noncomputable def C_bus : Cfg := ⟨Try.prog, [], pmT [], 12, [], []⟩
theorem es_bus : EsOk Try.prog [] [] := es_nil
def Lt_bus : Nat → LD := ldT []
noncomputable def M_bus (f : Nat) (a : SSl) : Option (Bool) := (runX (C_bus) Lt_bus (Kret Try.prog [.tmp 2] [.v (.bool)]) f [.code (bodyOf Try.f23)] (initX [.g tSSl] a) : Option (ResT [.v (.bool)]))
theorem M_bus_eq (f : Nat) (s : SSl) : M_bus (f + 1) s =
    bif s.2.2.2.2.2.2.2.2.2.2.2.1 != 0 then some true else some !(s.2.2.2.2.2.2.2.2.2.2.2.2.1 == 0 && (s.2.2.2.2.2.2.2.2.2.2.2.2.2.1 == 0 && (s.2.2.2.2.2.2.2.2.2.2.2.2.2.2 == 0 && true))) := by kernel_rfl
noncomputable def F_bus : SSl → Bool
  | s => bif s.2.2.2.2.2.2.2.2.2.2.2.1 != 0 then true else !(s.2.2.2.2.2.2.2.2.2.2.2.2.1 == 0 && (s.2.2.2.2.2.2.2.2.2.2.2.2.2.1 == 0 && (s.2.2.2.2.2.2.2.2.2.2.2.2.2.2 == 0 && true)))
noncomputable def P_bus : SSl → Bool
  | s => true
theorem bus_auto : ∀ a : SSl, Rns (fun f => M_bus f a) (P_bus a) (F_bus a)
  | s => ev_step (fun f => M_bus_eq f _) (ev_bift ev_some ev_some)
theorem bus_P : ∀ a, (fun _ => true) a = true → P_bus a = true := fun _ _ => rfl
theorem bus_F : ∀ a, (fun _ => true) a = true → F_bus a = busB a := fun a _ => bus_eq a
theorem bus_run : ∀ a, (fun _ => true : SSl → Bool) a = true → ∃ f, M_bus f a = some ((busB : SSl → Bool) a) := fun a h => by have h1 := bus_auto a (bus_P a h); rw [bus_F a h] at h1; exact h1
noncomputable def E_bus : Ent := ⟨23, [.g tSSl], [.v (.bool)], fun a => (fun _ => true : SSl → Bool) a, fun a => (busB : SSl → Bool) a⟩
theorem E_bus_ok : E_bus.Ok Try.prog := fun a hp vs hv => (bus_run a hp).elim fun f h => fnX_ok (C := C_bus) (Lt := Lt_bus) (fn := Try.f23) (rs := [.tmp 2]) [.g tSSl] [.v (.bool)] mixed es_bus Try.func23 rfl rfl rfl (by kernel_rfl) (by kernel_rfl) f h vs hv
noncomputable def C_csl : Cfg := ⟨Try.prog, [E_cnode], pmT [(5, ([(0, []), (1, []), (2, []), (3, []), (4, []), (5, []), (7, []), (8, []), (9, []), (10, []), (11, []), (12, []), (13, []), (14, []), (15, []), (16, []), (6, []), (17, []), (18, []), (19, []), (20, [])], [(3, 3), (11, 30)]))], 32, [], []⟩
theorem es_csl : EsOk Try.prog [E_cnode] [] := es_cons E_cnode_ok (es_nil)
def Lt_csl : Nat → LD := ldT [(0, ⟨[.rd 0 tSSl, .list 3 999 33 15 tSSl, .c 4 (.int .i64)], [], 0⟩)]
noncomputable def M_csl (f : Nat) (a : (List (SSl))) : Option ((List (SSl))) := (runX (C_csl) Lt_csl (Kret Try.prog [.tmp 2] [.o 33 15 tSSl]) f [.code (bodyOf Try.f16)] (initX [.rd tSSl] a) : Option (ResT [.o 33 15 tSSl]))
noncomputable def L_csl_0 (f : Nat) (x : (List (SSl)) × (List (SSl)) × Int) : Option ((List (SSl))) := (runX (C_csl) Lt_csl (Kret Try.prog [.tmp 2] [.o 33 15 tSSl]) f (headOf Try.f16 0) ((Lt_csl 0).mk' x) : Option (ResT [.o 33 15 tSSl]))
theorem M_csl_eq (f : Nat) (l : List (SSl)) : M_csl (f + 1) l =
    L_csl_0 f (l, [], 0) := by kernel_rfl
theorem L_csl_0_eq (f : Nat) (l : List (SSl)) (out : List (SSl)) (i : Int) : L_csl_0 (f + 1) (l, out, i) =
    bif decide (i < (↑l.length : Int)) then bif decide (0 ≤ i) && decide (i < (↑l.length : Int)) then bif decide (0 ≤ i) && decide (i < (↑l.length : Int)) then bif decide (0 ≤ i) && decide (i < (↑l.length : Int)) then bif len40n (l.getD i.toNat (0, 0, 0, [], 0, 0, 0, 0, 0, 0, false, 0, 0, 0, 0)).2.2.2.1 then bif decide ((out.length + [((l.getD i.toNat (0, 0, 0, [], 0, 0, 0, 0, 0, 0, false, 0, 0, 0, 0)).1, (l.getD i.toNat (0, 0, 0, [], 0, 0, 0, 0, 0, 0, false, 0, 0, 0, 0)).2.1, (l.getD i.toNat (0, 0, 0, [], 0, 0, 0, 0, 0, 0, false, 0, 0, 0, 0)).2.2.1, (l.getD i.toNat (0, 0, 0, [], 0, 0, 0, 0, 0, 0, false, 0, 0, 0, 0)).2.2.2.1, (l.getD i.toNat (0, 0, 0, [], 0, 0, 0, 0, 0, 0, false, 0, 0, 0, 0)).2.2.2.2.1, (l.getD i.toNat (0, 0, 0, [], 0, 0, 0, 0, 0, 0, false, 0, 0, 0, 0)).2.2.2.2.2.1, (l.getD i.toNat (0, 0, 0, [], 0, 0, 0, 0, 0, 0, false, 0, 0, 0, 0)).2.2.2.2.2.2.1, (l.getD i.toNat (0, 0, 0, [], 0, 0, 0, 0, 0, 0, false, 0, 0, 0, 0)).2.2.2.2.2.2.2.1, (l.getD i.toNat (0, 0, 0, [], 0, 0, 0, 0, 0, 0, false, 0, 0, 0, 0)).2.2.2.2.2.2.2.2.1, (l.getD i.toNat (0, 0, 0, [], 0, 0, 0, 0, 0, 0, false, 0, 0, 0, 0)).2.2.2.2.2.2.2.2.2.1, (l.getD i.toNat (0, 0, 0, [], 0, 0, 0, 0, 0, 0, false, 0, 0, 0, 0)).2.2.2.2.2.2.2.2.2.2.1, (l.getD i.toNat (0, 0, 0, [], 0, 0, 0, 0, 0, 0, false, 0, 0, 0, 0)).2.2.2.2.2.2.2.2.2.2.2)].length) * 136 ≤ 140737488355328) then L_csl_0 f (l, out ++ [l.getD i.toNat (0, 0, 0, [], 0, 0, 0, 0, 0, 0, false, 0, 0, 0, 0)], IntKind.i64.wrap (i + 1)) else none else none else none else none else none else some out := by kernel_rfl
noncomputable def F_csl_0 : List (SSl) → ((List (SSl)) × (List (SSl)) × Nat) → (List (SSl))
  | [], (l, out, i) => out
  | uu :: rest, (l, out, i) => F_csl_0 rest (l, out ++ [uu], i + 1)
noncomputable def P_csl_0 : List (SSl) → ((List (SSl)) × (List (SSl)) × Nat) → Bool
  | [], (l, out, i) => true
  | uu :: rest, (l, out, i) => len40n uu.2.2.2.1 && (decide ((out.length + [(uu.1, uu.2.1, uu.2.2.1, uu.2.2.2.1, uu.2.2.2.2.1, uu.2.2.2.2.2.1, uu.2.2.2.2.2.2.1, uu.2.2.2.2.2.2.2.1, uu.2.2.2.2.2.2.2.2.1, uu.2.2.2.2.2.2.2.2.2.1, uu.2.2.2.2.2.2.2.2.2.2.1, uu.2.2.2.2.2.2.2.2.2.2.2)].length) * 136 ≤ 140737488355328) && P_csl_0 rest (l, out ++ [uu], i + 1))
theorem A_csl_0 : ∀ (rest : List (SSl)) (l : List (SSl)) (out : List (SSl)) (i : Nat) (hd : l.drop i = rest) (hl : l.length ≤ 1099511627776), Rns (fun f => L_csl_0 f (l, out, ((i : Nat) : Int))) (P_csl_0 rest (l, out, i)) (F_csl_0 rest (l, out, i))
  | [], l, out, i, hd, hl => ev_step (T := fun f => some out) (fun f => (L_csl_0_eq f _ _ _).trans (by simp only [ge_dec (drop_ge hd), ge0, Bool.and_self, Bool.true_and, cond_true, cond_false, List.length_set] <;> rfl)) ev_some
  | uu :: rest, l, out, i, hd, hl => ev_step (T := fun f => bif len40n uu.2.2.2.1 then bif decide ((out.length + [(uu.1, uu.2.1, uu.2.2.1, uu.2.2.2.1, uu.2.2.2.2.1, uu.2.2.2.2.2.1, uu.2.2.2.2.2.2.1, uu.2.2.2.2.2.2.2.1, uu.2.2.2.2.2.2.2.2.1, uu.2.2.2.2.2.2.2.2.2.1, uu.2.2.2.2.2.2.2.2.2.2.1, uu.2.2.2.2.2.2.2.2.2.2.2)].length) * 136 ≤ 140737488355328) then L_csl_0 f (l, out ++ [uu], (↑(i + 1) : Int)) else none else none) (fun f => (L_csl_0_eq f _ _ _).trans (by simp only [lt_dec (drop_lt hd), drop_get hd, wrap_succ (drop_lt hd) hl, getD_set (drop_lt hd), ge0, Bool.and_self, Bool.true_and, cond_true, cond_false, List.length_set] <;> rfl)) (ev_chk (ev_chk (A_csl_0 rest _ _ _ (by first | exact drop_succ hd | exact drop_set hd | exact drop_setS (drop_set hd)) (by first | exact hl | simpa using hl))))
noncomputable def F_csl : (List (SSl)) → (List (SSl))
  | l => F_csl_0 l (l, [], 0)
noncomputable def P_csl : (List (SSl)) → Bool
  | l => decide (l.length ≤ 1099511627776) && P_csl_0 l (l, [], 0)
theorem csl_auto : ∀ a : (List (SSl)), Rns (fun f => M_csl f a) (P_csl a) (F_csl a)
  | l => ev_step (fun f => M_csl_eq f _) (ev_and fun hh => A_csl_0 _ _ _ _ rfl (of_decide_eq_true hh))
theorem csl_0 (l : List SSl) : ∀ (r : List SSl) (out : List SSl) (k : Nat), (∀ e ∈ r, len40n e.2.2.2.1 = true) → out.length + r.length ≤ 68719476736 → F_csl_0 r (l, out, k) = out ++ r ∧ P_csl_0 r (l, out, k) = true
  | [], out, k, h, hl => ⟨by simp [F_csl_0], rfl⟩
  | u :: r, out, k, h, hl => by
    obtain ⟨i1, i2⟩ := csl_0 l r (out ++ [u]) (k + 1) (fun e he => h e (List.mem_cons_of_mem _ he)) (by simp at hl ⊢; omega)
    have h1 := h u (List.mem_cons_self ..)
    simp only [F_csl_0, P_csl_0, i1, i2, h1]
    exact ⟨by simp, by simp at hl ⊢; omega⟩
theorem csl_P : ∀ a, okSl a = true → P_csl a = true := fun a h => by
  have := okSl_len h
  simp only [P_csl, (csl_0 a a [] 0 (fun e he => okSl_mem h he) (by simpa using this)).2, Bool.and_true]; exact decide_eq_true (by omega)
theorem csl_F : ∀ a, okSl a = true → F_csl a = a := fun a h => by
  simp only [F_csl, (csl_0 a a [] 0 (fun e he => okSl_mem h he) (by simpa using okSl_len h)).1, List.nil_append]
theorem csl_run : ∀ a, (okSl : (List (SSl)) → Bool) a = true → ∃ f, M_csl f a = some ((fun a => a : (List (SSl)) → (List (SSl))) a) := fun a h => by have h1 := csl_auto a (csl_P a h); rw [csl_F a h] at h1; exact h1
noncomputable def E_csl : Ent := ⟨16, [.rd tSSl], [.o 33 15 tSSl], fun a => (okSl : (List (SSl)) → Bool) a, fun a => (fun a => a : (List (SSl)) → (List (SSl))) a⟩
theorem E_csl_ok : E_csl.Ok Try.prog := fun a hp vs hv => (csl_run a hp).elim fun f h => fnX_ok (C := C_csl) (Lt := Lt_csl) (fn := Try.f16) (rs := [.tmp 2]) [.rd tSSl] [.o 33 15 tSSl] mixed es_csl Try.func16 rfl rfl rfl (by kernel_rfl) (by kernel_rfl) f h vs hv
noncomputable def C_scl : Cfg := ⟨Try.prog, [], pmT [], 8, [], []⟩
theorem es_scl : EsOk Try.prog [] := es_nil
theorem X_scl (l : List (SSl)) : (runX C_scl (fun _ => ⟨[], [], 0⟩) (Kret Try.prog [.tmp 2] [.o 33 15 tSSl]) 1 [.code (bodyOf Try.f76)] (initX [.rd tSSl] l) : Option (ResT [.o 33 15 tSSl])) = bif Decidable.decide (0 < l.length) && Bool.true then bif Decidable.decide ((([] : List Nat).length + l.length) * (bytesOf Try.prog 33) ≤ 140737488355328) then some l else none else none := by kernel_rfl
noncomputable def E_scl : Ent := ⟨76, [.rd tSSl], [.o 33 15 tSSl], fun a => len36n (a : List (SSl)), fun a => (a : List (SSl))⟩
theorem E_scl_ok : E_scl.Ok Try.prog := fun a hp vs hv => clone_ok (τ := tSSl) (t := 33) (es := 15)
    (fun a h0 h1 vs hv => fnX_ok (C := C_scl) (Lt := fun _ => ⟨[], [], 0⟩) (fn := Try.f76) (rs := [.tmp 2]) [.rd tSSl] [.o 33 15 tSSl] mixed es_scl Try.func76 rfl rfl rfl (by kernel_rfl) (by kernel_rfl) 1 ((X_scl a).trans (clone_len36 h0 h1 (by decide +kernel))) vs hv)
    (fnX_ok (C := C_scl) (Lt := fun _ => ⟨[], [], 0⟩) (fn := Try.f76) (rs := [.tmp 2]) (a := ()) [.raw (.slice none 0 0)] [.o 33 15 tSSl] mixed es_scl Try.func76 rfl rfl rfl (by kernel_rfl) (by kernel_rfl) 1 (by kernel_rfl) _ (by simp only [ArgsV, ArgsV1, ArgV]; exact ⟨_, rfl, rfl⟩))
    (fun b c => fnX_ok (C := C_scl) (Lt := fun _ => ⟨[], [], 0⟩) (fn := Try.f76) (rs := [.tmp 2]) (a := ()) [.raw (.slice (some b) 0 c)] [.o 33 15 tSSl] mixed es_scl Try.func76 rfl rfl rfl (by kernel_rfl) (by kernel_rfl) 1 (by kernel_rfl) _ (by simp only [ArgsV, ArgsV1, ArgV]; exact ⟨_, rfl, rfl⟩))
    a (of_decide_eq_true hp) vs hv
noncomputable def C_cop : Cfg := ⟨Try.prog, [E_scl, E_ncop], pmT [], 24, [], []⟩
theorem es_cop : EsOk Try.prog [E_scl, E_ncop] [] := es_cons E_scl_ok (es_cons E_ncop_ok (es_nil))
def Lt_cop : Nat → LD := ldT [(0, ⟨[.list 3 999 33 15 tSSl, .c 8 (.int .i64), .c 9 (.int .i64)], [], 0⟩)]
noncomputable def M_cop (f : Nat) (a : (List (SSl))) : Option ((List (SSl))) := (runX (C_cop) Lt_cop (Kret Try.prog [.tmp 2] [.o 33 15 tSSl]) f [.code (bodyOf Try.f58)] (initX [.rd tSSl] a) : Option (ResT [.o 33 15 tSSl]))
noncomputable def L_cop_0 (f : Nat) (x : (List (SSl)) × Int × Int) : Option ((List (SSl))) := (runX (C_cop) Lt_cop (Kret Try.prog [.tmp 2] [.o 33 15 tSSl]) f (headOf Try.f58 0) ((Lt_cop 0).mk' x) : Option (ResT [.o 33 15 tSSl]))
theorem M_cop_eq (f : Nat) (l : List (SSl)) : M_cop (f + 1) l =
    bif len36n l then L_cop_0 f (l, (↑l.length : Int), 0) else none := by kernel_rfl
theorem L_cop_0_eq (f : Nat) (out : List (SSl)) (x8 : Int) (x9 : Int) : L_cop_0 (f + 1) (out, x8, x9) =
    bif decide (x9 < x8) then bif decide (0 ≤ x9) && decide (x9 < (↑out.length : Int)) then bif len40n (out.getD x9.toNat (0, 0, 0, [], 0, 0, 0, 0, 0, 0, false, 0, 0, 0, 0)).2.2.2.1 then bif decide (0 ≤ x9) && decide (x9 < (↑out.length : Int)) then L_cop_0 f (out.set x9.toNat (out.getD x9.toNat (0, 0, 0, [], 0, 0, 0, 0, 0, 0, false, 0, 0, 0, 0)), x8, IntKind.i64.wrap (x9 + 1)) else none else none else none else some out := by kernel_rfl
noncomputable def F_cop_0 : List (SSl) → ((List (SSl)) × Int × Nat) → (List (SSl))
  | [], (out, x8, x9) => out
  | uu :: rest, (out, x8, x9) => F_cop_0 rest (out.set (↑x9 : Int).toNat uu, x8, x9 + 1)
noncomputable def P_cop_0 : List (SSl) → ((List (SSl)) × Int × Nat) → Bool
  | [], (out, x8, x9) => true
  | uu :: rest, (out, x8, x9) => len40n uu.2.2.2.1 && P_cop_0 rest (out.set (↑x9 : Int).toNat uu, x8, x9 + 1)
theorem A_cop_0 : ∀ (rest : List (SSl)) (out : List (SSl)) (x8 : Int) (x9 : Nat) (hd : out.drop x9 = rest) (hn : x8 = ((out.length : Nat) : Int)) (hl : out.length ≤ 1099511627776), Rns (fun f => L_cop_0 f (out, x8, ((x9 : Nat) : Int))) (P_cop_0 rest (out, x8, x9)) (F_cop_0 rest (out, x8, x9))
  | [], out, x8, x9, hd, hn, hl => ev_step (T := fun f => some out) (fun f => (L_cop_0_eq f _ _ _).trans (by simp only [ge_decn hn (drop_ge hd), ge0, Bool.and_self, Bool.true_and, cond_true, cond_false, List.length_set] <;> rfl)) ev_some
  | uu :: rest, out, x8, x9, hd, hn, hl => ev_step (T := fun f => bif len40n uu.2.2.2.1 then L_cop_0 f (out.set (↑x9 : Int).toNat uu, x8, (↑(x9 + 1) : Int)) else none) (fun f => (L_cop_0_eq f _ _ _).trans (by simp only [lt_decn hn (drop_lt hd), lt_dec (drop_lt hd), drop_get hd, wrap_succ (drop_lt hd) hl, getD_set (drop_lt hd), ge0, Bool.and_self, Bool.true_and, cond_true, cond_false, List.length_set] <;> rfl)) (ev_chk (A_cop_0 rest _ _ _ (by first | exact drop_succ hd | exact drop_set hd | exact drop_setS (drop_set hd)) (by first | exact hn | simpa using hn) (by first | exact hl | simpa using hl)))
noncomputable def F_cop : (List (SSl)) → (List (SSl))
  | l => F_cop_0 l (l, (↑l.length : Int), 0)
noncomputable def P_cop : (List (SSl)) → Bool
  | l => len36n l && (decide (l.length ≤ 1099511627776) && P_cop_0 l (l, (↑l.length : Int), 0))
theorem cop_auto : ∀ a : (List (SSl)), Rns (fun f => M_cop f a) (P_cop a) (F_cop a)
  | l => ev_step (fun f => M_cop_eq f _) (ev_chk (ev_and fun hh => A_cop_0 _ _ _ _ rfl (by first | rfl | simp) (of_decide_eq_true hh)))
theorem set_step {α : Type} {l r : List α} {u v : α} {k : Nat} (h : l.drop k = u :: r) : (l.set (Int.toNat ((k : Nat) : Int)) v).take (k + 1) = l.take k ++ [v] ∧ (l.set (Int.toNat ((k : Nat) : Int)) v).drop (k + 1) = r := by
  refine ⟨?_, drop_set h⟩
  have hl := drop_lt h
  rw [Int.toNat_natCast, List.take_add_one, List.getElem?_set_self hl, List.take_set_of_le (by omega)]
  rfl
theorem set_same {α : Type} {l r : List α} {u : α} {k : Nat} (h : l.drop k = u :: r) : l.set (Int.toNat ((k : Nat) : Int)) u = l := by
  rw [Int.toNat_natCast]
  apply List.ext_getElem? 
  intro i
  by_cases hi : k = i
  · subst hi; rw [List.getElem?_set_self (drop_lt h), drop_get? h]
  · rw [List.getElem?_set_ne hi]
theorem cop_0 (n : Int) : ∀ (r : List SSl) (out : List SSl) (k : Nat), out.drop k = r → (∀ e ∈ r, len40n e.2.2.2.1 = true) → F_cop_0 r (out, n, k) = out ∧ P_cop_0 r (out, n, k) = true
  | [], out, k, h, hl => ⟨rfl, rfl⟩
  | u :: r, out, k, h, hl => by
    obtain ⟨i1, i2⟩ := cop_0 n r out (k + 1) (drop_succ h) (fun e he => hl e (List.mem_cons_of_mem _ he))
    simp only [F_cop_0, P_cop_0, set_same h, i1, i2, hl u (List.mem_cons_self ..)]
    exact ⟨trivial, rfl⟩
theorem cop_P : ∀ a, okSl a = true → P_cop a = true := fun a h => by
  have := okSl_len h
  simp only [P_cop, (cop_0 _ a a 0 rfl (fun e he => okSl_mem h he)).2, Bool.and_true, Bool.and_eq_true]; exact ⟨decide_eq_true (by omega), decide_eq_true (by omega)⟩
theorem cop_F : ∀ a, okSl a = true → F_cop a = a := fun a h => by
  simp only [F_cop, (cop_0 _ a a 0 rfl (fun e he => okSl_mem h he)).1]
theorem cop_run : ∀ a, (okSl : (List (SSl)) → Bool) a = true → ∃ f, M_cop f a = some ((fun a => a : (List (SSl)) → (List (SSl))) a) := fun a h => by have h1 := cop_auto a (cop_P a h); rw [cop_F a h] at h1; exact h1
noncomputable def E_cop : Ent := ⟨58, [.rd tSSl], [.o 33 15 tSSl], fun a => (okSl : (List (SSl)) → Bool) a, fun a => (fun a => a : (List (SSl)) → (List (SSl))) a⟩
theorem E_cop_ok : E_cop.Ok Try.prog := fun a hp vs hv => (cop_run a hp).elim fun f h => fnX_ok (C := C_cop) (Lt := Lt_cop) (fn := Try.f58) (rs := [.tmp 2]) [.rd tSSl] [.o 33 15 tSSl] mixed es_cop Try.func58 rfl rfl rfl (by kernel_rfl) (by kernel_rfl) f h vs hv
noncomputable def C_page : Cfg := ⟨Try.prog, [], pmT [], 2, [], []⟩
theorem es_page : EsOk Try.prog [] [] := es_nil
def Lt_page : Nat → LD := ldT []
noncomputable def M_page (f : Nat) (a : Unit) : Option (SCp) := (runX (C_page) Lt_page (Kret Try.prog [.cell 0 29] [.g tSCp]) f [.code (bodyOf Try.f36)] (initX [] a) : Option (ResT [.g tSCp]))
theorem M_page_eq (f : Nat)  : M_page (f + 1) () =
    some (2, 4096, 12, 3, 0, 0, false) := by kernel_rfl
noncomputable def F_page : Unit → SCp
  | () => (2, 4096, 12, 3, 0, 0, false)
noncomputable def P_page : Unit → Bool
  | () => true
theorem page_auto : ∀ a : Unit, Rns (fun f => M_page f a) (P_page a) (F_page a)
  | () => ev_step (fun f => M_page_eq f ) ev_some
def pageC : SCp := (2, 4096, 12, 3, 0, 0, false)
theorem page_P : ∀ a, (fun _ => true) a = true → P_page a = true := fun _ _ => rfl
theorem page_F : ∀ a, (fun _ => true) a = true → F_page a = (fun _ => pageC) a := fun _ _ => rfl
theorem page_run : ∀ a, (fun _ => true : Unit → Bool) a = true → ∃ f, M_page f a = some ((fun _ => pageC : Unit → SCp) a) := fun a h => by have h1 := page_auto a (page_P a h); rw [page_F a h] at h1; exact h1
noncomputable def E_page : Ent := ⟨36, [], [.g tSCp], fun a => (fun _ => true : Unit → Bool) a, fun a => (fun _ => pageC : Unit → SCp) a⟩
theorem E_page_ok : E_page.Ok Try.prog := fun a hp vs hv => (page_run a hp).elim fun f h => fnX_ok (C := C_page) (Lt := Lt_page) (fn := Try.f36) (rs := [.cell 0 29]) [] [.g tSCp] mixed es_page Try.func36 rfl rfl rfl (by kernel_rfl) (by kernel_rfl) f h vs hv
theorem map_loop {α : Type} (G : List α → List α → Nat → List α) (f : α → α) (h0 : ∀ out k, G [] out k = out)
    (h1 : ∀ u r out k, out.drop k = u :: r → G (u :: r) out k = G r (out.set (Int.toNat ((k : Nat) : Int)) (f u)) (k + 1)) :
    ∀ (r out : List α) (k : Nat), out.drop k = r → G r out k = out.take k ++ r.map f
  | [], out, k, h => by rw [h0, List.map_nil, List.append_nil, List.take_of_length_le (by have := drop_ge h; omega)]
  | u :: r, out, k, h => by
    obtain ⟨s1, s2⟩ := set_step (v := f u) h
    rw [h1 u r out k h, map_loop G f h0 h1 r _ (k + 1) s2, s1]; simp
theorem all_loop {α : Type} (P : List α → List α → Nat → Bool) (f : α → α) (h0 : ∀ out k, P [] out k = true)
    (h1 : ∀ u r out k, out.drop k = u :: r → P (u :: r) out k = P r (out.set (Int.toNat ((k : Nat) : Int)) (f u)) (k + 1)) :
    ∀ (r out : List α) (k : Nat), out.drop k = r → P r out k = true
  | [], out, k, h => h0 _ _
  | u :: r, out, k, h => by rw [h1 u r out k h]; exact all_loop P f h0 h1 r _ (k + 1) (set_step h).2
theorem sid_eq (u : SSl) (id : SId) : (u.1 == id.1 && (u.2.1 == id.2.1 && (u.2.2.1 == id.2.2 && true))) = decide (sid u = id) := id_eq (sid u) id
def hasS (id : SId) (s : SSl) : Bool := !empB s && decide (sid s = id)
noncomputable def C_find : Cfg := ⟨Try.prog, [E_emp], pmT [], 27, [], []⟩
theorem es_find : EsOk Try.prog [E_emp] [] := es_cons E_emp_ok (es_nil)
def Lt_find : Nat → LD := ldT [(0, ⟨[.box 3 3 26 3 tSId, .rd 8 tSSl, .c 9 (.int .i64), .c 10 (.int .i64)], [], 0⟩)]
noncomputable def M_find (f : Nat) (a : (List (SSl)) × SId) : Option (Int × Bool) := (runX (C_find) Lt_find (Kret Try.prog [.tmp 4, .tmp 5] [.v (.int .i64), .v (.bool)]) f [.code (bodyOf Try.f19)] (initX [.rd tSSl, .g tSId] a) : Option (ResT [.v (.int .i64), .v (.bool)]))
noncomputable def L_find_0 (f : Nat) (x : SId × (List (SSl)) × Int × Int) : Option (Int × Bool) := (runX (C_find) Lt_find (Kret Try.prog [.tmp 4, .tmp 5] [.v (.int .i64), .v (.bool)]) f (headOf Try.f19 0) ((Lt_find 0).mk' x) : Option (ResT [.v (.int .i64), .v (.bool)]))
theorem M_find_eq (f : Nat) (l : List (SSl)) (id : SId) : M_find (f + 1) (l, id) =
    L_find_0 f (id, l, (↑l.length : Int), 0) := by kernel_rfl
theorem L_find_0_eq (f : Nat) (id : SId) (x8 : List (SSl)) (x9 : Int) (x10 : Int) : L_find_0 (f + 1) (id, x8, x9, x10) =
    bif decide (x10 < x9) then bif decide (0 ≤ x10) && decide (x10 < (↑x8.length : Int)) then bif !empB (x8.getD x10.toNat (0, 0, 0, [], 0, 0, 0, 0, 0, 0, false, 0, 0, 0, 0)) then bif (x8.getD x10.toNat (0, 0, 0, [], 0, 0, 0, 0, 0, 0, false, 0, 0, 0, 0)).1 == id.1 && ((x8.getD x10.toNat (0, 0, 0, [], 0, 0, 0, 0, 0, 0, false, 0, 0, 0, 0)).2.1 == id.2.1 && ((x8.getD x10.toNat (0, 0, 0, [], 0, 0, 0, 0, 0, 0, false, 0, 0, 0, 0)).2.2.1 == id.2.2 && true)) then some (x10, true) else L_find_0 f (id, x8, x9, IntKind.i64.wrap (x10 + 1)) else L_find_0 f (id, x8, x9, IntKind.i64.wrap (x10 + 1)) else none else some (0, false) := by kernel_rfl
noncomputable def F_find_0 : List (SSl) → (SId × (List (SSl)) × Int × Nat) → Int × Bool
  | [], (id, x8, x9, x10) => (0, false)
  | uu :: rest, (id, x8, x9, x10) => bif !empB uu then bif uu.1 == id.1 && (uu.2.1 == id.2.1 && (uu.2.2.1 == id.2.2 && true)) then ((↑x10 : Int), true) else F_find_0 rest (id, x8, x9, x10 + 1) else F_find_0 rest (id, x8, x9, x10 + 1)
noncomputable def P_find_0 : List (SSl) → (SId × (List (SSl)) × Int × Nat) → Bool
  | [], (id, x8, x9, x10) => true
  | uu :: rest, (id, x8, x9, x10) => bif !empB uu then bif uu.1 == id.1 && (uu.2.1 == id.2.1 && (uu.2.2.1 == id.2.2 && true)) then true else P_find_0 rest (id, x8, x9, x10 + 1) else P_find_0 rest (id, x8, x9, x10 + 1)
theorem A_find_0 : ∀ (rest : List (SSl)) (id : SId) (x8 : List (SSl)) (x9 : Int) (x10 : Nat) (hd : x8.drop x10 = rest) (hn : x9 = ((x8.length : Nat) : Int)) (hl : x8.length ≤ 1099511627776), Rns (fun f => L_find_0 f (id, x8, x9, ((x10 : Nat) : Int))) (P_find_0 rest (id, x8, x9, x10)) (F_find_0 rest (id, x8, x9, x10))
  | [], id, x8, x9, x10, hd, hn, hl => ev_step (T := fun f => some (0, false)) (fun f => (L_find_0_eq f _ _ _ _).trans (by simp only [ge_decn hn (drop_ge hd), ge0, Bool.and_self, Bool.true_and, cond_true, cond_false, List.length_set] <;> rfl)) ev_some
  | uu :: rest, id, x8, x9, x10, hd, hn, hl => ev_step (T := fun f => bif !empB uu then bif uu.1 == id.1 && (uu.2.1 == id.2.1 && (uu.2.2.1 == id.2.2 && true)) then some ((↑x10 : Int), true) else L_find_0 f (id, x8, x9, (↑(x10 + 1) : Int)) else L_find_0 f (id, x8, x9, (↑(x10 + 1) : Int))) (fun f => (L_find_0_eq f _ _ _ _).trans (by simp only [lt_decn hn (drop_lt hd), lt_dec (drop_lt hd), drop_get hd, wrap_succ (drop_lt hd) hl, getD_set (drop_lt hd), ge0, Bool.and_self, Bool.true_and, cond_true, cond_false, List.length_set] <;> rfl)) (ev_bif (ev_bif ev_some (A_find_0 rest _ _ _ _ (by first | exact drop_succ hd | exact drop_set hd | exact drop_setS (drop_set hd)) (by first | exact hn | simpa using hn) (by first | exact hl | simpa using hl))) (A_find_0 rest _ _ _ _ (by first | exact drop_succ hd | exact drop_set hd | exact drop_setS (drop_set hd)) (by first | exact hn | simpa using hn) (by first | exact hl | simpa using hl)))
noncomputable def F_find : ((List (SSl)) × SId) → Int × Bool
  | (l, id) => F_find_0 l (id, l, (↑l.length : Int), 0)
noncomputable def P_find : ((List (SSl)) × SId) → Bool
  | (l, id) => decide (l.length ≤ 1099511627776) && P_find_0 l (id, l, (↑l.length : Int), 0)
theorem find_auto : ∀ a : (List (SSl)) × SId, Rns (fun f => M_find f a) (P_find a) (F_find a)
  | (l, id) => ev_step (fun f => M_find_eq f _ _) (ev_and fun hh => A_find_0 _ _ _ _ _ rfl (by first | rfl | simp) (of_decide_eq_true hh))
def findS (a : List SSl × SId) : Int × Bool := bif decide (findI (hasS a.2) a.1 0 ≥ 0) then (findI (hasS a.2) a.1 0, true) else (0, false)
theorem find_0 (l : List SSl) (n : Int) (id : SId) : ∀ (r : List SSl) (k : Nat), F_find_0 r (id, l, n, k) = (bif decide (findI (hasS id) r k ≥ 0) then (findI (hasS id) r k, true) else (0, false)) ∧ P_find_0 r (id, l, n, k) = true
  | [], k => ⟨rfl, rfl⟩
  | u :: r, k => by
    obtain ⟨i1, i2⟩ := find_0 l n id r (k + 1)
    simp only [F_find_0, P_find_0, sid_eq, i1, i2]
    have e : findI (hasS id) (u :: r) k = bif !empB u && decide (sid u = id) then (k : Int) else findI (hasS id) r ((k + 1 : Nat) : Int) := rfl
    constructor
    · rw [e]
      cases empB u <;> cases decide (sid u = id) <;> first | rfl | (simp only [Bool.not_false, Bool.and_self, cond_true]; rw [decide_eq_true (show (k : Int) ≥ 0 by omega)]; rfl)
    · cases empB u <;> cases decide (sid u = id) <;> rfl
theorem find_P : ∀ a : List SSl × SId, len40n a.1 = true → P_find a = true := fun a h => by simp only [P_find, (find_0 _ _ _ _ _).2, Bool.and_true]; exact h
theorem find_F : ∀ a : List SSl × SId, len40n a.1 = true → F_find a = findS a := fun a h => by simp only [F_find, (find_0 _ _ _ _ _).1]; rfl
theorem find_run : ∀ a, (fun a => len40n a.1 : (List (SSl)) × SId → Bool) a = true → ∃ f, M_find f a = some ((findS : (List (SSl)) × SId → Int × Bool) a) := fun a h => by have h1 := find_auto a (find_P a h); rw [find_F a h] at h1; exact h1
noncomputable def E_find : Ent := ⟨19, [.rd tSSl, .g tSId], [.v (.int .i64), .v (.bool)], fun a => (fun a => len40n a.1 : (List (SSl)) × SId → Bool) a, fun a => (findS : (List (SSl)) × SId → Int × Bool) a⟩
theorem E_find_ok : E_find.Ok Try.prog := fun a hp vs hv => (find_run a hp).elim fun f h => fnX_ok (C := C_find) (Lt := Lt_find) (fn := Try.f19) (rs := [.tmp 4, .tmp 5]) [.rd tSSl, .g tSId] [.v (.int .i64), .v (.bool)] mixed es_find Try.func19 rfl rfl rfl (by kernel_rfl) (by kernel_rfl) f h vs hv
/-! ### Release, Lock, Unlock, Sweep -/
def setOp (s : SSl) (op : Int) : SSl := mkS (snd s) op (slk s)
def setLk (s : SSl) (lk : SId) : SSl := mkS (snd s) (sop s) lk
def relF (op : Int) (s : SSl) : SSl := bif decide (sop s = op) then setOp s 0 else s
def relS (a : List SSl × Int) : List SSl := a.1.map (relF a.2)
noncomputable def C_rel : Cfg := ⟨Try.prog, [E_cop], pmT [], 27, [], []⟩
theorem es_rel : EsOk Try.prog [E_cop] [] := es_cons E_cop_ok (es_nil)
def Lt_rel : Nat → LD := ldT [(0, ⟨[.c 1 (.int .i64), .list 5 999 33 15 tSSl, .c 10 (.int .i64), .c 11 (.int .i64)], [], 0⟩)]
noncomputable def M_rel (f : Nat) (a : (List (SSl)) × Int) : Option ((List (SSl))) := (runX (C_rel) Lt_rel (Kret Try.prog [.tmp 4] [.o 33 15 tSSl]) f [.code (bodyOf Try.f28)] (initX [.rd tSSl, .c (.int .i64)] a) : Option (ResT [.o 33 15 tSSl]))
noncomputable def L_rel_0 (f : Nat) (x : Int × (List (SSl)) × Int × Int) : Option ((List (SSl))) := (runX (C_rel) Lt_rel (Kret Try.prog [.tmp 4] [.o 33 15 tSSl]) f (headOf Try.f28 0) ((Lt_rel 0).mk' x) : Option (ResT [.o 33 15 tSSl]))
theorem M_rel_eq (f : Nat) (l : List (SSl)) (op : Int) : M_rel (f + 1) (l, op) =
    bif okSl l then L_rel_0 f (op, l, (↑l.length : Int), 0) else none := by kernel_rfl
theorem L_rel_0_eq (f : Nat) (op : Int) (out : List (SSl)) (x10 : Int) (x11 : Int) : L_rel_0 (f + 1) (op, out, x10, x11) =
    bif decide (x11 < x10) then bif decide (0 ≤ x11) && decide (x11 < (↑out.length : Int)) then bif (out.getD x11.toNat (0, 0, 0, [], 0, 0, 0, 0, 0, 0, false, 0, 0, 0, 0)).2.2.2.2.2.2.2.2.2.2.2.1 == op then bif decide (0 ≤ x11) && decide (x11 < (↑out.length : Int)) then L_rel_0 f (op, out.set x11.toNat ((out.getD x11.toNat (0, 0, 0, [], 0, 0, 0, 0, 0, 0, false, 0, 0, 0, 0)).1, (out.getD x11.toNat (0, 0, 0, [], 0, 0, 0, 0, 0, 0, false, 0, 0, 0, 0)).2.1, (out.getD x11.toNat (0, 0, 0, [], 0, 0, 0, 0, 0, 0, false, 0, 0, 0, 0)).2.2.1, (out.getD x11.toNat (0, 0, 0, [], 0, 0, 0, 0, 0, 0, false, 0, 0, 0, 0)).2.2.2.1, (out.getD x11.toNat (0, 0, 0, [], 0, 0, 0, 0, 0, 0, false, 0, 0, 0, 0)).2.2.2.2.1, (out.getD x11.toNat (0, 0, 0, [], 0, 0, 0, 0, 0, 0, false, 0, 0, 0, 0)).2.2.2.2.2.1, (out.getD x11.toNat (0, 0, 0, [], 0, 0, 0, 0, 0, 0, false, 0, 0, 0, 0)).2.2.2.2.2.2.1, (out.getD x11.toNat (0, 0, 0, [], 0, 0, 0, 0, 0, 0, false, 0, 0, 0, 0)).2.2.2.2.2.2.2.1, (out.getD x11.toNat (0, 0, 0, [], 0, 0, 0, 0, 0, 0, false, 0, 0, 0, 0)).2.2.2.2.2.2.2.2.1, (out.getD x11.toNat (0, 0, 0, [], 0, 0, 0, 0, 0, 0, false, 0, 0, 0, 0)).2.2.2.2.2.2.2.2.2.1, (out.getD x11.toNat (0, 0, 0, [], 0, 0, 0, 0, 0, 0, false, 0, 0, 0, 0)).2.2.2.2.2.2.2.2.2.2.1, 0, (out.getD x11.toNat (0, 0, 0, [], 0, 0, 0, 0, 0, 0, false, 0, 0, 0, 0)).2.2.2.2.2.2.2.2.2.2.2.2), x10, IntKind.i64.wrap (x11 + 1)) else none else L_rel_0 f (op, out, x10, IntKind.i64.wrap (x11 + 1)) else none else some out := by kernel_rfl
noncomputable def F_rel_0 : List (SSl) → (Int × (List (SSl)) × Int × Nat) → (List (SSl))
  | [], (op, out, x10, x11) => out
  | uu :: rest, (op, out, x10, x11) => bif uu.2.2.2.2.2.2.2.2.2.2.2.1 == op then F_rel_0 rest (op, out.set (↑x11 : Int).toNat (uu.1, uu.2.1, uu.2.2.1, uu.2.2.2.1, uu.2.2.2.2.1, uu.2.2.2.2.2.1, uu.2.2.2.2.2.2.1, uu.2.2.2.2.2.2.2.1, uu.2.2.2.2.2.2.2.2.1, uu.2.2.2.2.2.2.2.2.2.1, uu.2.2.2.2.2.2.2.2.2.2.1, 0, uu.2.2.2.2.2.2.2.2.2.2.2.2), x10, x11 + 1) else F_rel_0 rest (op, out, x10, x11 + 1)
noncomputable def P_rel_0 : List (SSl) → (Int × (List (SSl)) × Int × Nat) → Bool
  | [], (op, out, x10, x11) => true
  | uu :: rest, (op, out, x10, x11) => bif uu.2.2.2.2.2.2.2.2.2.2.2.1 == op then P_rel_0 rest (op, out.set (↑x11 : Int).toNat (uu.1, uu.2.1, uu.2.2.1, uu.2.2.2.1, uu.2.2.2.2.1, uu.2.2.2.2.2.1, uu.2.2.2.2.2.2.1, uu.2.2.2.2.2.2.2.1, uu.2.2.2.2.2.2.2.2.1, uu.2.2.2.2.2.2.2.2.2.1, uu.2.2.2.2.2.2.2.2.2.2.1, 0, uu.2.2.2.2.2.2.2.2.2.2.2.2), x10, x11 + 1) else P_rel_0 rest (op, out, x10, x11 + 1)
theorem A_rel_0 : ∀ (rest : List (SSl)) (op : Int) (out : List (SSl)) (x10 : Int) (x11 : Nat) (hd : out.drop x11 = rest) (hn : x10 = ((out.length : Nat) : Int)) (hl : out.length ≤ 1099511627776), Rns (fun f => L_rel_0 f (op, out, x10, ((x11 : Nat) : Int))) (P_rel_0 rest (op, out, x10, x11)) (F_rel_0 rest (op, out, x10, x11))
  | [], op, out, x10, x11, hd, hn, hl => ev_step (T := fun f => some out) (fun f => (L_rel_0_eq f _ _ _ _).trans (by simp only [ge_decn hn (drop_ge hd), ge0, Bool.and_self, Bool.true_and, cond_true, cond_false, List.length_set] <;> rfl)) ev_some
  | uu :: rest, op, out, x10, x11, hd, hn, hl => ev_step (T := fun f => bif uu.2.2.2.2.2.2.2.2.2.2.2.1 == op then L_rel_0 f (op, out.set (↑x11 : Int).toNat (uu.1, uu.2.1, uu.2.2.1, uu.2.2.2.1, uu.2.2.2.2.1, uu.2.2.2.2.2.1, uu.2.2.2.2.2.2.1, uu.2.2.2.2.2.2.2.1, uu.2.2.2.2.2.2.2.2.1, uu.2.2.2.2.2.2.2.2.2.1, uu.2.2.2.2.2.2.2.2.2.2.1, 0, uu.2.2.2.2.2.2.2.2.2.2.2.2), x10, (↑(x11 + 1) : Int)) else L_rel_0 f (op, out, x10, (↑(x11 + 1) : Int))) (fun f => (L_rel_0_eq f _ _ _ _).trans (by simp only [lt_decn hn (drop_lt hd), lt_dec (drop_lt hd), drop_get hd, wrap_succ (drop_lt hd) hl, getD_set (drop_lt hd), ge0, Bool.and_self, Bool.true_and, cond_true, cond_false, List.length_set] <;> rfl)) (ev_bif (A_rel_0 rest _ _ _ _ (by first | exact drop_succ hd | exact drop_set hd | exact drop_setS (drop_set hd)) (by first | exact hn | simpa using hn) (by first | exact hl | simpa using hl)) (A_rel_0 rest _ _ _ _ (by first | exact drop_succ hd | exact drop_set hd | exact drop_setS (drop_set hd)) (by first | exact hn | simpa using hn) (by first | exact hl | simpa using hl)))
noncomputable def F_rel : ((List (SSl)) × Int) → (List (SSl))
  | (l, op) => F_rel_0 l (op, l, (↑l.length : Int), 0)
noncomputable def P_rel : ((List (SSl)) × Int) → Bool
  | (l, op) => okSl l && (decide (l.length ≤ 1099511627776) && P_rel_0 l (op, l, (↑l.length : Int), 0))
theorem rel_auto : ∀ a : (List (SSl)) × Int, Rns (fun f => M_rel f a) (P_rel a) (F_rel a)
  | (l, op) => ev_step (fun f => M_rel_eq f _ _) (ev_chk (ev_and fun hh => A_rel_0 _ _ _ _ _ rfl (by first | rfl | simp) (of_decide_eq_true hh)))
theorem rel_1 (op n : Int) (u : SSl) (r out : List SSl) (k : Nat) (h : out.drop k = u :: r) : F_rel_0 (u :: r) (op, out, n, k) = F_rel_0 r (op, out.set (Int.toNat ((k : Nat) : Int)) (relF op u), n, k + 1) ∧ P_rel_0 (u :: r) (op, out, n, k) = P_rel_0 r (op, out.set (Int.toNat ((k : Nat) : Int)) (relF op u), n, k + 1) := by
  simp only [F_rel_0, P_rel_0, relF, beqI]
  have e : decide (u.2.2.2.2.2.2.2.2.2.2.2.1 = op) = decide (sop u = op) := rfl
  rw [e]
  cases decide (sop u = op)
  · simp only [cond_false, set_same h]; exact ⟨trivial, trivial⟩
  · exact ⟨rfl, rfl⟩
theorem rel_P : ∀ a : List SSl × Int, okSl a.1 = true → P_rel a = true := fun a h => by
  have := okSl_len h
  simp only [P_rel, h, all_loop (fun r out k => P_rel_0 r (a.2, out, ((a.1.length : Nat) : Int), k)) (relF a.2) (fun _ _ => rfl) (fun u r out k h => (rel_1 a.2 _ u r out k h).2) a.1 a.1 0 rfl, Bool.and_true, Bool.true_and]
  exact decide_eq_true (by omega)
theorem rel_F : ∀ a : List SSl × Int, okSl a.1 = true → F_rel a = relS a := fun a h => map_loop (fun r out k => F_rel_0 r (a.2, out, ((a.1.length : Nat) : Int), k)) (relF a.2) (fun _ _ => rfl) (fun u r out k h => (rel_1 a.2 _ u r out k h).1) a.1 a.1 0 rfl
theorem rel_run : ∀ a, (fun a => okSl a.1 : (List (SSl)) × Int → Bool) a = true → ∃ f, M_rel f a = some ((relS : (List (SSl)) × Int → (List (SSl))) a) := fun a h => by have h1 := rel_auto a (rel_P a h); rw [rel_F a h] at h1; exact h1
noncomputable def E_rel : Ent := ⟨28, [.rd tSSl, .c (.int .i64)], [.o 33 15 tSSl], fun a => (fun a => okSl a.1 : (List (SSl)) × Int → Bool) a, fun a => (relS : (List (SSl)) × Int → (List (SSl))) a⟩
theorem E_rel_ok : E_rel.Ok Try.prog := fun a hp vs hv => (rel_run a hp).elim fun f h => fnX_ok (C := C_rel) (Lt := Lt_rel) (fn := Try.f28) (rs := [.tmp 4]) [.rd tSSl, .c (.int .i64)] [.o 33 15 tSSl] mixed es_rel Try.func28 rfl rfl rfl (by kernel_rfl) (by kernel_rfl) f h vs hv
end Go.AL
