/-
  MergeRaw returns true at every input and leaves its arguments as they were; no condition. By an AI agent.
-/
import Derived.Test.YtfggefeflojnkaaGreatZrb
namespace Go.AL
open Go.Proofs
end Go.AL
namespace Go.Proofs.YtfggefeflojnkaaGreat
open Go.ChangeShapes Go.WideShapes Go.ChangeAt Go.RowKit Go.AL
set_option maxRecDepth 100000 in
theorem yV(os:Os)(started:os.Started)(H:Type)(enc:TypeId×Value→H):
  ReturnsInHanded {} Tryz.checked os 4 .any (Rows.mergeRawSpec.pre6 enc Tryz.prog Tryz.f4 Rows.mergeRawRow.domain false) (Rows.mergeRawSpec.post enc Tryz.prog Tryz.f4 false true false false):=by
 refine returnsInHanded_of_change (C:=Tryz.checked) Tryz.own started (by kernel_rfl) Tryz.func4
  (ChangeSpec.witness6 (enc:=enc) (C:=Tryz.checked) false ⟨#[],#[.slice none 0 0,.slice none 0 0,.agg #[.int .i64 0,.slice none 0 0,.slice none 0 0]],[]⟩ 8 (by kernel_rfl) (by kernel_rfl) (by kernel_rfl) (by kernel_rfl)) ?_
 intro W base args ds gs before uS hW aAK _;refine Uv (P:=Tryz.prog) (pts:=[42,25,30]) (tb:=4) [.rd dB,.rd cV,.g eN] (by kernel_rfl) (by kernel_rfl) Tryz.laidOut (by kernel_rfl) (by kernel_rfl) (by kernel_rfl) rfl ?_ ahE W base args ds gs before uS hW;intro ds hds
 match ds,hds with
 | [d0,d1,d2],_=>exact⟨rfl,rfl,rfl⟩
theorem mergeRaw_holds:Rows.MergeRawSaid:=
 OpenClaim.holds_of_wide 4 Tryz.f4 rfl rfl rfl rfl rfl rfl rfl ⟨rfl,rfl,rfl,rfl,rfl⟩ rfl rfl rfl rfl rfl (by kernel_rfl) Tryz.func4 (by kernel_rfl)
  (aCE (by kernel_rfl)) (by unfold Func.isWrapper;first | (rw[aCr (by decide +kernel)];kernel_rfl) | (rw[aCo (by decide +kernel)];exact⟨rfl,rfl⟩))
  (fun os started H enc _=>yV os started H enc)
end Go.Proofs.YtfggefeflojnkaaGreat
namespace Go.AL
open Go.Proofs
end Go.AL
