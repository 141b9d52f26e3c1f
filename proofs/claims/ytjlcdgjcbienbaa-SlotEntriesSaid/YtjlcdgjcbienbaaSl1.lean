/-
  SlotReserveExact, SlotPutExact and SlotLockExact return true at every input and leave their arguments as they were; no condition. By an AI agent.
-/
import Derived.Test.YtjlcdgjcbienbaaG6
namespace Go.AL
open Go.Proofs
set_option linter.unusedVariables false
set_option linter.unusedSimpArgs false
noncomputable def C_awake : Cfg := ⟨Try.prog, [E_res, E_page, E_put, E_rel, E_bus, E_emp, E_cval], pmT [], 57, [], []⟩
theorem es_awake : EsOk Try.prog [E_res, E_page, E_put, E_rel, E_bus, E_emp, E_cval] [] := es_cons E_res_ok (es_cons E_page_ok (es_cons E_put_ok (es_cons E_rel_ok (es_cons E_bus_ok (es_cons E_emp_ok (es_cons E_cval_ok (es_nil)))))))
def Lt_awake : Nat → LD := ldT []
noncomputable def M_awake (f : Nat) (a : Unit) : Option (Bool) := (runX (C_awake) Lt_awake (Kret Try.prog [.tmp 0] [.v (.bool)]) f [.code (bodyOf Try.f13)] (initX [] a) : Option (ResT [.v (.bool)]))
theorem M_awake_eq (f : Nat)  : M_awake (f + 1) () =
    some (cvalS (relS ((putS ((resS (List.replicate (Int.toNat 3) (0, 0, 0, [], 0, 0, 0, 0, 0, 0, false, 0, 0, 0, 0), [1], 7)).1, 1, 0, 1, 0, [], pageC)).1, 7))) := by kernel_rfl
noncomputable def F_awake : Unit → Bool
  | () => cvalS (relS ((putS ((resS (List.replicate (Int.toNat 3) (0, 0, 0, [], 0, 0, 0, 0, 0, 0, false, 0, 0, 0, 0), [1], 7)).1, 1, 0, 1, 0, [], pageC)).1, 7))
noncomputable def P_awake : Unit → Bool
  | () => true
theorem awake_auto : ∀ a : Unit, Rns (fun f => M_awake f a) (P_awake a) (F_awake a)
  | () => ev_step (fun f => M_awake_eq f ) ev_some
theorem awake_P : ∀ a, (fun _ => true) a = true → P_awake a = true := fun _ _ => rfl
theorem awake_F : ∀ a, (fun _ => true) a = true → F_awake a = (fun _ => true) a := fun _ _ => (by decide +kernel : F_awake () = true)
theorem awake_run : ∀ a, (fun _ => true : Unit → Bool) a = true → ∃ f, M_awake f a = some ((fun _ => true : Unit → Bool) a) := fun a h => by have h1 := awake_auto a (awake_P a h); rw [awake_F a h] at h1; exact h1
noncomputable def E_awake : Ent := ⟨13, [], [.v (.bool)], fun a => (fun _ => true : Unit → Bool) a, fun a => (fun _ => true : Unit → Bool) a⟩
theorem E_awake_ok : E_awake.Ok Try.prog := fun a hp vs hv => (awake_run a hp).elim fun f h => fnX_ok (C := C_awake) (Lt := Lt_awake) (fn := Try.f13) (rs := [.tmp 0]) [] [.v (.bool)] mixed es_awake Try.func13 rfl rfl rfl (by kernel_rfl) (by kernel_rfl) f h vs hv
end Go.AL
