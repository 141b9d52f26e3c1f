/-
  The laws' sanity check of layer 13 is true. By an AI agent.
-/
import Derived.Test.YteppokgkagjklaaH5
import Derived.Test.YteppokgkagjklaaRows
namespace Go.AL
open Go.Proofs
set_option linter.unusedVariables false
set_option linter.unusedSimpArgs false
noncomputable def C_awake : Cfg := ⟨Try.prog, [E_fins, E_fat, E_fval, E_ffre], pmT [], 44, [], []⟩
theorem es_awake : EsOk Try.prog [E_fins, E_fat, E_fval, E_ffre] [] := es_cons E_fins_ok (es_cons E_fat_ok (es_cons E_fval_ok (es_cons E_ffre_ok (es_nil))))
def Lt_awake : Nat → LD := ldT []
noncomputable def M_awake (f : Nat) (a : Unit) : Option (Bool) := (runX (C_awake) Lt_awake (Kret Try.prog [.tmp 0] [.v (.bool)]) f [.code (bodyOf Try.f14)] (initX [] a) : Option (ResT [.v (.bool)]))
theorem M_awake_eq (f : Nat)  : M_awake (f + 1) () =
    some ((↑(freS ((insS ([], 1, 2, 0, 1, 0, [], 1, 0, 8, 7, 0, 0, false)).1, 0, 9)).length : Int) == 1) := by kernel_rfl
noncomputable def F_awake : Unit → Bool
  | () => (↑(freS ((insS ([], 1, 2, 0, 1, 0, [], 1, 0, 8, 7, 0, 0, false)).1, 0, 9)).length : Int) == 1
noncomputable def P_awake : Unit → Bool
  | () => true
theorem awake_auto : ∀ a : Unit, Rns (fun f => M_awake f a) (P_awake a) (F_awake a)
  | () => ev_step (fun f => M_awake_eq f ) ev_some
theorem awake_P : ∀ a, (fun _ => true) a = true → P_awake a = true := fun _ _ => (by decide +kernel : P_awake () = true)
theorem awake_F : ∀ a, (fun _ => true) a = true → F_awake a = (fun _ => true) a := fun _ _ => (by decide +kernel : F_awake () = true)
theorem awake_run : ∀ a, (fun _ => true : Unit → Bool) a = true → ∃ f, M_awake f a = some ((fun _ => true : Unit → Bool) a) := fun a h => by have h1 := awake_auto a (awake_P a h); rw [awake_F a h] at h1; exact h1
noncomputable def E_awake : Ent := ⟨14, [], [.v (.bool)], fun a => (fun _ => true : Unit → Bool) a, fun a => (fun _ => true : Unit → Bool) a⟩
theorem E_awake_ok : E_awake.Ok Try.prog := fun a hp vs hv => (awake_run a hp).elim fun f h => fnX_ok (C := C_awake) (Lt := Lt_awake) (fn := Try.f14) (rs := [.tmp 0]) [] [.v (.bool)] mixed es_awake Try.func14 rfl rfl rfl (by kernel_rfl) (by kernel_rfl) f h vs hv
end Go.AL
namespace Go.Proofs.Yteppokgkagjklaa
theorem Try.own : ownKnob Try.prog.godebug = none := by kernel_rfl
theorem Try.laidOut : laidOutB Try.prog = true := by kernel_rfl
end Go.Proofs.Yteppokgkagjklaa
