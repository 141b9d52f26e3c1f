/-
  Capability spaces: Sweep, Reserve, Put, Take, Valid, and how capability spaces are made. By an AI agent.
-/
import Derived.Test.YtjlcdgjcbienbaaG4
namespace Go.AL
open Go.Proofs
set_option linter.unusedVariables false
set_option linter.unusedSimpArgs false
/-! ### Sweep -/
def zNdl : SNd := (0, 0, 0, [], 0, 0, 0, 0, 0, 0, false)
/-! ### Put, Take -/
def zSl : SSl := (0, 0, 0, [], 0, 0, 0, 0, 0, 0, false, 0, 0, 0, 0)
def putS (a : List SSl × Int × SNd) : List SSl × Int :=
  bif decide (a.2.1 < 0) || (decide (a.2.1 ≥ ((a.1.length : Nat) : Int)) || (!vnodB a.2.2 || decide (findI (hasS (nid a.2.2)) a.1 0 ≥ 0))) then ([], 1)
  else bif !empB (a.1.getD a.2.1.toNat zSl) then ([], 3)
  else (a.1.set a.2.1.toNat (mkS a.2.2 (sop (a.1.getD a.2.1.toNat zSl)) (slk (a.1.getD a.2.1.toNat zSl))), 0)
def putPre (a : List SSl × Int × SNd) : Bool := okSl a.1
noncomputable def C_put : Cfg := ⟨Try.prog, [E_find, E_nval, E_emp, E_cop, E_ncop], pmT [], 49, [], []⟩
theorem es_put : EsOk Try.prog [E_find, E_nval, E_emp, E_cop, E_ncop] [] := es_cons E_find_ok (es_cons E_nval_ok (es_cons E_emp_ok (es_cons E_cop_ok (es_cons E_ncop_ok (es_nil)))))
def Lt_put : Nat → LD := ldT []
noncomputable def M_put (f : Nat) (a : (List (SSl)) × Int × SNd) : Option ((List (SSl)) × Int) := (runX (C_put) Lt_put (Kret Try.prog [.tmp 6, .tmp 7] [.o 33 15 tSSl, .v (.int .i64)]) f [.code (bodyOf Try.f30)] (initX [.rd tSSl, .c (.int .i64), .g tSNd] a) : Option (ResT [.o 33 15 tSSl, .v (.int .i64)]))
theorem M_put_eq (f : Nat) (l : List (SSl)) (slot : Int) (n : SNd) : M_put (f + 1) (l, slot, n) =
    bif len40n l then bif decide (slot < 0) then some ([], 1) else bif decide (slot ≥ (↑l.length : Int)) then some ([], 1) else bif !vnodB n then some ([], 1) else bif (findS (l, n.1, n.2.1, n.2.2.1)).2 then some ([], 1) else bif decide (0 ≤ slot) && decide (slot < (↑l.length : Int)) then bif !empB (l.getD slot.toNat (0, 0, 0, [], 0, 0, 0, 0, 0, 0, false, 0, 0, 0, 0)) then some ([], 3) else bif okSl l then bif len40n n.2.2.2.1 then bif decide (0 ≤ slot) && decide (slot < (↑l.length : Int)) then some (l.set slot.toNat (n.1, n.2.1, n.2.2.1, n.2.2.2.1, n.2.2.2.2.1, n.2.2.2.2.2.1, n.2.2.2.2.2.2.1, n.2.2.2.2.2.2.2.1, n.2.2.2.2.2.2.2.2.1, n.2.2.2.2.2.2.2.2.2.1, n.2.2.2.2.2.2.2.2.2.2, (l.getD slot.toNat (0, 0, 0, [], 0, 0, 0, 0, 0, 0, false, 0, 0, 0, 0)).2.2.2.2.2.2.2.2.2.2.2), 0) else none else none else none else none else none := by kernel_rfl
noncomputable def F_put : ((List (SSl)) × Int × SNd) → (List (SSl)) × Int
  | (l, slot, n) => bif decide (slot < 0) then ([], 1) else bif decide (slot ≥ (↑l.length : Int)) then ([], 1) else bif !vnodB n then ([], 1) else bif (findS (l, n.1, n.2.1, n.2.2.1)).2 then ([], 1) else bif !empB (l.getD slot.toNat (0, 0, 0, [], 0, 0, 0, 0, 0, 0, false, 0, 0, 0, 0)) then ([], 3) else (l.set slot.toNat (n.1, n.2.1, n.2.2.1, n.2.2.2.1, n.2.2.2.2.1, n.2.2.2.2.2.1, n.2.2.2.2.2.2.1, n.2.2.2.2.2.2.2.1, n.2.2.2.2.2.2.2.2.1, n.2.2.2.2.2.2.2.2.2.1, n.2.2.2.2.2.2.2.2.2.2, (l.getD slot.toNat (0, 0, 0, [], 0, 0, 0, 0, 0, 0, false, 0, 0, 0, 0)).2.2.2.2.2.2.2.2.2.2.2), 0)
noncomputable def P_put : ((List (SSl)) × Int × SNd) → Bool
  | (l, slot, n) => len40n l && bif decide (slot < 0) then true else bif decide (slot ≥ (↑l.length : Int)) then true else bif !vnodB n then true else bif (findS (l, n.1, n.2.1, n.2.2.1)).2 then true else decide (0 ≤ slot) && decide (slot < (↑l.length : Int)) && bif !empB (l.getD slot.toNat (0, 0, 0, [], 0, 0, 0, 0, 0, 0, false, 0, 0, 0, 0)) then true else okSl l && (len40n n.2.2.2.1 && (decide (0 ≤ slot) && decide (slot < (↑l.length : Int))))
theorem put_auto : ∀ a : (List (SSl)) × Int × SNd, Rns (fun f => M_put f a) (P_put a) (F_put a)
  | (l, slot, n) => ev_step (fun f => M_put_eq f _ _ _) (ev_chk (ev_bif ev_some (ev_bif ev_some (ev_bif ev_some (ev_bif ev_some (ev_chk (ev_bif ev_some (ev_chk (ev_chk (ev_chk1 ev_some))))))))))
theorem findS_snd (l : List SSl) (id : SId) : (findS (l, id)).2 = decide (findI (hasS id) l 0 ≥ 0) := by
  simp only [findS]; cases decide (findI (hasS id) l 0 ≥ 0) <;> rfl
theorem put_P : ∀ a, putPre a = true → P_put a = true := by
  rintro ⟨l, i, n⟩ h
  have h0 : okSl l = true := h
  have h1 : len40n l = true := decide_eq_true (by have := okSl_len h0; omega)
  simp only [P_put, h0, h1, Bool.true_and]
  by_cases c1 : i < 0
  · simp only [decide_eq_true c1]; rfl
  by_cases c2 : i ≥ ((l.length : Nat) : Int)
  · simp only [decide_eq_true c2, decide_eq_false c1]; rfl
  simp only [decide_eq_false c1, decide_eq_false c2, cond_false, decide_eq_true (show 0 ≤ i by omega), decide_eq_true (show i < ((l.length : Nat) : Int) by omega), Bool.true_and, Bool.and_true]
  cases hv : vnodB n
  · rfl
  have h2 : len40n n.2.2.2.1 = true := decide_eq_true (Nat.le_trans (vnodB_len hv) (by omega))
  rw [h2]
  simp
theorem put_F : ∀ a, putPre a = true → F_put a = putS a := by
  rintro ⟨l, i, n⟩ h
  simp only [F_put, putS, findS_snd]
  have e : (n.1, n.2.1, n.2.2.1) = nid n := rfl
  rw [e]
  cases decide (i < 0) <;> cases decide (i ≥ ((l.length : Nat) : Int)) <;> cases vnodB n <;> cases decide (findI (hasS (nid n)) l 0 ≥ 0) <;> rfl
theorem put_run : ∀ a, (putPre : (List (SSl)) × Int × SNd → Bool) a = true → ∃ f, M_put f a = some ((putS : (List (SSl)) × Int × SNd → (List (SSl)) × Int) a) := fun a h => by have h1 := put_auto a (put_P a h); rw [put_F a h] at h1; exact h1
noncomputable def E_put : Ent := ⟨30, [.rd tSSl, .c (.int .i64), .g tSNd], [.o 33 15 tSSl, .v (.int .i64)], fun a => (putPre : (List (SSl)) × Int × SNd → Bool) a, fun a => (putS : (List (SSl)) × Int × SNd → (List (SSl)) × Int) a⟩
theorem E_put_ok : E_put.Ok Try.prog := fun a hp vs hv => (put_run a hp).elim fun f h => fnX_ok (C := C_put) (Lt := Lt_put) (fn := Try.f30) (rs := [.tmp 6, .tmp 7]) [.rd tSSl, .c (.int .i64), .g tSNd] [.o 33 15 tSSl, .v (.int .i64)] mixed es_put Try.func30 rfl rfl rfl (by kernel_rfl) (by kernel_rfl) f h vs hv
end Go.AL
