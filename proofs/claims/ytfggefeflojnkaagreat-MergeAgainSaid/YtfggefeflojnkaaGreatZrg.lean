/-
  MergeAgain returns true at every input and leaves its arguments as they were; no condition. By an AI agent.
-/
import Derived.Test.YtfggefeflojnkaaGreatZrb
set_option linter.unusedSimpArgs false
set_option linter.unusedVariables false
namespace Go.AL
open Go.Proofs
end Go.AL
namespace Go.Proofs.YtfggefeflojnkaaGreat
open Go.ChangeShapes Go.WideShapes Go.ChangeAt Go.RowKit Go.AL
set_option maxRecDepth 100000 in
theorem aeA(os:Os)(started:os.Started)(H:Type)(enc:TypeId×Value→H):
  ReturnsInHanded {} Tryz.checked os 8 .any (Rows.mergeAgainSpec.pre6 enc Tryz.prog Tryz.f8 Rows.mergeAgainRow.domain false) (Rows.mergeAgainSpec.post enc Tryz.prog Tryz.f8 false true false false):=by
 refine returnsInHanded_of_change (C:=Tryz.checked) Tryz.own started (by kernel_rfl) Tryz.func8
  (ChangeSpec.witness6 (enc:=enc) (C:=Tryz.checked) false ⟨#[],#[.slice none 0 0,.slice none 0 0,.int .i64 0,.int .i64 0],[]⟩ 8 (by kernel_rfl) (by kernel_rfl) (by kernel_rfl) (by kernel_rfl)) ?_
 intro W base args ds gs before uJ hW ax7 _;refine TG (P:=Tryz.prog) (pts:=[22,23,3,3]) (tb:=4) [.rd [zI],.rd l7,.c zI,.c zI] (by kernel_rfl) (by kernel_rfl) Tryz.laidOut (by kernel_rfl) (by kernel_rfl) (by kernel_rfl) rfl ?_ am6 W base args ds gs before uJ hW;intro ds hds
 match ds,hds with
 | [d0,d1,d2,d3],_=>exact⟨rfl,rfl,rfl⟩
theorem mergeAgain_holds:Rows.MergeAgainSaid:=
 OpenClaim.holds_of_wide 8 Tryz.f8 rfl rfl rfl rfl rfl rfl rfl ⟨rfl,rfl,rfl,rfl,rfl⟩ rfl rfl rfl rfl rfl (by kernel_rfl) Tryz.func8 (by kernel_rfl)
  (azZ (by kernel_rfl)) (by unfold Func.isWrapper;first | (rw[azE (by decide +kernel)];kernel_rfl) | (rw[azD (by decide +kernel)];exact⟨rfl,rfl⟩))
  (fun os started H enc _=>aeA os started H enc)
end Go.Proofs.YtfggefeflojnkaaGreat
namespace Go.AL
open Go.Proofs
end Go.AL
