/-
  Layer 16: walks; caches. By an AI agent.
-/
import Derived.Test.YtcpdakiailaneaaV3
namespace Go.AL
open Go.Proofs
set_option linter.unusedVariables false
set_option linter.unusedSimpArgs false
noncomputable def C_ncl : Cfg := ⟨Try.prog, [], pmT [], 8, [], []⟩
theorem es_ncl : EsOk Try.prog [] := es_nil
theorem X_ncl (l : List (Int)) : (runX C_ncl (fun _ => ⟨[], [], 0⟩) (Kret Try.prog [.tmp 2] [.o 3 1 [.int .i64]]) 1 [.code (bodyOf Try.f110)] (initX [.rd [.int .i64]] l) : Option (ResT [.o 3 1 [.int .i64]])) = bif Decidable.decide (0 < l.length) && Bool.true then bif Decidable.decide ((([] : List Nat).length + l.length) * (bytesOf Try.prog 3) ≤ 140737488355328) then some l else none else none := by kernel_rfl
noncomputable def E_ncl : Ent := ⟨110, [.rd [.int .i64]], [.o 3 1 [.int .i64]], fun a => len40n (a : List (Int)), fun a => (a : List (Int))⟩
theorem E_ncl_ok : E_ncl.Ok Try.prog := fun a hp vs hv => clone_ok (τ := [.int .i64]) (t := 3) (es := 1)
    (fun a h0 h1 vs hv => fnX_ok (C := C_ncl) (Lt := fun _ => ⟨[], [], 0⟩) (fn := Try.f110) (rs := [.tmp 2]) [.rd [.int .i64]] [.o 3 1 [.int .i64]] mixed es_ncl Try.func110 rfl rfl rfl (by kernel_rfl) (by kernel_rfl) 1 ((X_ncl a).trans (clone_len h0 h1 (by decide +kernel))) vs hv)
    (fnX_ok (C := C_ncl) (Lt := fun _ => ⟨[], [], 0⟩) (fn := Try.f110) (rs := [.tmp 2]) (a := ()) [.raw (.slice none 0 0)] [.o 3 1 [.int .i64]] mixed es_ncl Try.func110 rfl rfl rfl (by kernel_rfl) (by kernel_rfl) 1 (by kernel_rfl) _ (by simp only [ArgsV, ArgsV1, ArgV]; exact ⟨_, rfl, rfl⟩))
    (fun b c => fnX_ok (C := C_ncl) (Lt := fun _ => ⟨[], [], 0⟩) (fn := Try.f110) (rs := [.tmp 2]) (a := ()) [.raw (.slice (some b) 0 c)] [.o 3 1 [.int .i64]] mixed es_ncl Try.func110 rfl rfl rfl (by kernel_rfl) (by kernel_rfl) 1 (by kernel_rfl) _ (by simp only [ArgsV, ArgsV1, ArgV]; exact ⟨_, rfl, rfl⟩))
    a (of_decide_eq_true hp) vs hv
noncomputable def C_ctr : Cfg := ⟨Try.prog, [E_icl, E_ncl], pmT [(1, ([(0, []), (1, []), (3, []), (4, []), (2, []), (6, []), (5, []), (7, []), (8, []), (9, [])], [(3, 10)]))], 12, [], []⟩
theorem es_ctr : EsOk Try.prog [E_icl, E_ncl] [] := es_cons E_icl_ok (es_cons E_ncl_ok (es_nil))
def Lt_ctr : Nat → LD := ldT []
noncomputable def M_ctr (f : Nat) (a : STr) : Option (STr) := (runX (C_ctr) Lt_ctr (Kret Try.prog [.cell 2 45] [.g tSTr]) f [.code (bodyOf Try.f70)] (initX [.g tSTr] a) : Option (ResT [.g tSTr]))
theorem M_ctr_eq (f : Nat) (t : STr) : M_ctr (f + 1) t =
    bif len40n t.2.2.2.2.1 then bif len40n t.2.2.2.2.2 then some t else none else none := by kernel_rfl
noncomputable def F_ctr : STr → STr
  | t => t
noncomputable def P_ctr : STr → Bool
  | t => len40n t.2.2.2.2.1 && len40n t.2.2.2.2.2
theorem ctr_auto : ∀ a : STr, Rns (fun f => M_ctr f a) (P_ctr a) (F_ctr a)
  | t => ev_step (fun f => M_ctr_eq f _) (ev_chk (ev_chk1 ev_some))
noncomputable def C_str : Cfg := ⟨Try.prog, [E_sids, E_sints], pmT [], 45, [], []⟩
theorem es_str : EsOk Try.prog [E_sids, E_sints] [] := es_cons E_sids_ok (es_cons E_sints_ok (es_nil))
def Lt_str : Nat → LD := ldT []
noncomputable def M_str (f : Nat) (a : STr × STr) : Option (Bool) := (runX (C_str) Lt_str (Kret Try.prog [.tmp 4] [.v (.bool)]) f [.code (bodyOf Try.f39)] (initX [.g tSTr, .g tSTr] a) : Option (ResT [.v (.bool)]))
theorem M_str_eq (f : Nat) (a : STr) (b : STr) : M_str (f + 1) (a, b) =
    bif a.1 == b.1 then bif a.2.1 == b.2.1 then bif a.2.2.1 == b.2.2.1 then bif a.2.2.2.1 == b.2.2.2.1 then bif len40n a.2.2.2.2.1 then bif decide (a.2.2.2.2.1 = b.2.2.2.2.1) then bif len40n a.2.2.2.2.2 then some (decide (a.2.2.2.2.2 = b.2.2.2.2.2)) else none else some false else none else some false else some false else some false else some false := by kernel_rfl
noncomputable def F_str : (STr × STr) → Bool
  | (a, b) => bif a.1 == b.1 then bif a.2.1 == b.2.1 then bif a.2.2.1 == b.2.2.1 then bif a.2.2.2.1 == b.2.2.2.1 then bif decide (a.2.2.2.2.1 = b.2.2.2.2.1) then decide (a.2.2.2.2.2 = b.2.2.2.2.2) else false else false else false else false else false
noncomputable def P_str : (STr × STr) → Bool
  | (a, b) => bif a.1 == b.1 then bif a.2.1 == b.2.1 then bif a.2.2.1 == b.2.2.1 then bif a.2.2.2.1 == b.2.2.2.1 then len40n a.2.2.2.2.1 && bif decide (a.2.2.2.2.1 = b.2.2.2.2.1) then len40n a.2.2.2.2.2 else true else true else true else true else true
theorem str_auto : ∀ a : STr × STr, Rns (fun f => M_str f a) (P_str a) (F_str a)
  | (a, b) => ev_step (fun f => M_str_eq f _ _) (ev_bif (ev_bif (ev_bif (ev_bif (ev_chk (ev_bif (ev_chk1 ev_some) ev_some)) ev_some) ev_some) ev_some) ev_some)
end Go.AL
