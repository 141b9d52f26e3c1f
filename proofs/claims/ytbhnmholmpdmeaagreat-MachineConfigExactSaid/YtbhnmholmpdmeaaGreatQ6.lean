/-
  Layer 17: MachineConfigExact, walked. By an AI agent.
-/
import Derived.Test.YtbhnmholmpdmeaaGreatQ4
import Derived.Test.YtbhnmholmpdmeaaGreatQ5
import Derived.Test.YtbhnmholmpdmeaaGreatCxRun
namespace Go.AL
open Go.Proofs Go.RowKit
set_option linter.unusedVariables false
set_option linter.unusedSimpArgs false
attribute [local go_sem] Oper.semAt_some
theorem Qe.cop (w : World) : Calls Tryz.prog 34 #[.slice none 0 0] w (fun en w' => en = .returned (.slice none 0 0) ∧ Below w.heap.size w w') :=
  (Go.CX.closed_ok (args := [.slice none 0 0]) mixed rfl rfl (show Go.CX.closed Tryz.prog 60 34 [.slice none 0 0] = some (.slice none 0 0) from by kernel_rfl) w).mono fun en w' hh => by
    obtain ⟨rfl, h1, h2, h3, h4, h5⟩ := hh
    exact ⟨rfl, h1, h3, h2, h4, h5⟩
theorem Qe.awk (w : World) : Calls Tryz.prog 10 #[] w (fun en w' => en = .returned (.bool true) ∧ Below w.heap.size w w') :=
  (Go.CX.closed_ok (args := []) mixed rfl rfl (show Go.CX.closed Tryz.prog 600 10 [] = some (.bool true) from by kernel_rfl) w).mono fun en w' hh => by
    obtain ⟨rfl, h1, h2, h3, h4, h5⟩ := hh
    exact ⟨rfl, h1, h3, h2, h4, h5⟩
def Qe.Post (w : World) (en : Ending) (w' : World) : Prop := en = .returned (.slice none 0 0) ∧ Below w.heap.size w w'
theorem Qn.ent (w : World) {b g n : Nat} {s : Int} (hM : Qn.M w b g n s) : Calls Tryz.prog 14 #[.pointer (some ⟨b, 0, none⟩)] w (Qe.Post w) := by
  have hut2 := Tryz.underlying56
  have m5 := hM.en
  clear hM
  go_enter Tryz.func14, Tryz.ntmps14
  go_wp2_with (go_at_call 34; refine (Qe.cop _).mono ?_; rintro en w2 ⟨rfl, hB2⟩)
  refine bodyPost_ret (results_tmp rfl _ _ _) rfl ?_
  exact ⟨rfl, hB2⟩
end Go.AL
