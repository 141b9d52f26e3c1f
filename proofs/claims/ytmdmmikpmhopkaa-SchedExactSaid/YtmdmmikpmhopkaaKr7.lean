/-
  SchedExact returns true at every input and leaves its arguments as they were; no condition. By an AI agent.
-/
import Derived.Test.YtmdmmikpmhopkaaKex
import Derived.Test.YtmdmmikpmhopkaaKrb
set_option linter.unusedVariables false
set_option linter.unusedSimpArgs false
namespace Go.AL
open Go.Proofs
theorem sex_law : ∀ a : ArgT [.g tSSd,.c (.int .i64),.c (.int .i64),.c (.int .i64),.c (.int .i64),.c (.int .i64)],ArgsW [.g tSSd,.c (.int .i64),.c (.int .i64),.c (.int .i64),.c (.int .i64),.c (.int .i64)] a → ∀ vs,ArgsV [.g tSSd,.c (.int .i64),.c (.int .i64),.c (.int .i64),.c (.int .i64),.c (.int .i64)] a vs → FnP Try.prog 5 vs (RessV [.v .bool] (true : Bool)) :=
 fun a hw vs hv => (sex_true a).elim fun f h => fnX_ok (C := C_sex) (Lt := Lt_sex) (fn := Try.f5) (rs := [.tmp 12]) [.g tSSd,.c (.int .i64),.c (.int .i64),.c (.int .i64),.c (.int .i64),.c (.int .i64)] [.v (.bool)] mixed es_sex Try.func5 rfl rfl rfl (by kernel_rfl) (by kernel_rfl) f h vs hv
end Go.AL
namespace Go.Proofs.Ytmdmmikpmhopkaa
open Go.ChangeShapes Go.WideShapes Go.ChangeAt Go.RowKit Go.AL
set_option maxRecDepth 100000 in
theorem schedExact_lifted (os : Os) (started : os.Started) (H : Type) (enc : TypeId × Value → H) :
  ReturnsInHanded {} Try.checked os 5 .any (Rows.schedExactSpec.pre6 enc Try.prog Try.f5 Rows.schedExactRow.domain false) (Rows.schedExactSpec.post enc Try.prog Try.f5 false true false false) := by
 refine returnsInHanded_of_change (C := Try.checked) Try.own started (by kernel_rfl) Try.func5
  (ChangeSpec.witness6 (enc := enc) (C := Try.checked) false ⟨#[],#[.agg #[.int .i64 0,.int .i64 0,.slice none 0 0],.int .i64 0,.int .i64 0,.int .i64 0,.int .i64 0,.int .i64 0],[]⟩ 8 (by kernel_rfl) (by kernel_rfl) (by kernel_rfl) (by kernel_rfl)) ?_
 intro W base args ds gs before hval hW hcnd _
 refine law_calls (P := Try.prog) (pts := [26,3,3,3,3,3]) (tb := 4) [.g tSSd,.c (.int .i64),.c (.int .i64),.c (.int .i64),.c (.int .i64),.c (.int .i64)] (by kernel_rfl) (by kernel_rfl) Try.laidOut (by kernel_rfl) (by kernel_rfl) (by kernel_rfl) rfl ?_ sex_law W base args ds gs before hval hW
 intro ds hds
 match ds,hds with
 | [d0,d1,d2,d3,d4,d5],_ => exact ⟨rfl,rfl,rfl⟩
theorem schedExact_holds : Rows.SchedExactSaid :=
 OpenClaim.holds_of_wide 5 Try.f5 rfl rfl rfl rfl rfl rfl rfl ⟨rfl,rfl,rfl,rfl,rfl⟩ rfl rfl rfl rfl rfl (by kernel_rfl) Try.func5 (by kernel_rfl)
  (of_decide_eq_true (by kernel_rfl)) (by unfold Func.isWrapper; first | (rw [if_pos (by decide +kernel)]; kernel_rfl) | (rw [if_neg (by decide +kernel)]; exact ⟨rfl,rfl⟩))
  (fun os started H enc _ => schedExact_lifted os started H enc)
end Go.Proofs.Ytmdmmikpmhopkaa
namespace Go.AL
open Go.Proofs
end Go.AL
