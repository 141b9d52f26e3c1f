/-
  No cell of these rows narrows 'for every input' (looked for: loops, veiled, ifaces, maps, wideKeys, modest, calm, conditions, laid).
  DERIVED. THE GIVEN ROWS OF THIS SEAT. 8 by the template 'for every input the law returns true; each argument reads behind the call as it read before'; 0 by the template 'total and deterministic' (their statements: YtcpdakiailaneaaTotals.lean).
  GIVEN WITH THE SEED: the statements are not yours to turn. If you find one false, say at which input.
  Laid BY PROGRAM, IN A SANDBOX (cutbox-rows.mjs): the forced cells as the released guide's own fill.sh prints them over the translation 3e84e93dda5eb524… (all of the seat's roots in one cut). By AI agents, Wed Nov 11 2026. No macro, syntax, notation, axiom, sorry.
-/
import Derived.Test.YtcpdakiailaneaaChecked
import GoSem.Claim
import GoSem.ClaimJoined
import GoSem.ClaimMapViews
import Derived.JoinedTies
import Derived.KernelRfl
namespace Go.Proofs.Ytcpdakiailaneaa
/- THE CELL 'sum', in the pinned program and in every row, IS THE sha256 OF THE DUMP (.gsa) THAT YtcpdakiailaneaaProg.lean LOADS. Nothing in Lean hashes anything: it is a label: what it is worth is what the hold of that sum in a sandbox is worth. -/
noncomputable def Try.pinned : Pinned := { name := "ytcpdakiailaneaa", sum := "3e84e93dda5eb524c8461843cf5338fbd35fd391cd1bdea34857d44173fd5b9e", checked := Try.checked }
namespace Rows
def none {H : Type} : Left H := { results := [], args := [] }

/-- 'multikernellaw16.VspaceWalkExact': WHATEVER THE INPUT: true; the input reads as it did. -/
def vspaceWalkExactSpec : ChangeSpec := { name := "vspaceWalkExact", fn := fun _ => fun
  | [d1, d2, d3, d4] => { results := [.lit (.bool true)], args := [d1, d2, d3, d4] }
  | _ => none }
def vspaceWalkExactRow : OpenClaim := { program := "ytcpdakiailaneaa", sum := "3e84e93dda5eb524c8461843cf5338fbd35fd391cd1bdea34857d44173fd5b9e", func := "multikernel/multikernellaw16.VspaceWalkExact", spec := "vspaceWalkExact", inPlace := ["slices.overlaps[multikernel/api.PageTable]", "slices.overlaps[multikernel/api.Mapping]"], unfollowed := true, recurses := true, apart := false }
def VspaceWalkExactSaid : Prop := vspaceWalkExactRow.holds Try.pinned (OpenSpec.ofChange vspaceWalkExactSpec)

/-- ITS FALSE NEIGHBOUR: 'it returns false'. Refute it at one input. -/
def vspaceWalkExactWrong : ChangeSpec := { name := "vspaceWalkExact", fn := fun _ => fun
  | [d1, d2, d3, d4] => { results := [.lit (.bool false)], args := [d1, d2, d3, d4] }
  | _ => none }
def VspaceWalkExactWrongFalsely : Prop := vspaceWalkExactRow.holds Try.pinned (OpenSpec.ofChange vspaceWalkExactWrong)

/-- 'multikernellaw16.VspaceRights': WHATEVER THE INPUT: true; the input reads as it did. -/
def vspaceRightsSpec : ChangeSpec := { name := "vspaceRights", fn := fun _ => fun
  | [d1, d2, d3, d4] => { results := [.lit (.bool true)], args := [d1, d2, d3, d4] }
  | _ => none }
def vspaceRightsRow : OpenClaim := { program := "ytcpdakiailaneaa", sum := "3e84e93dda5eb524c8461843cf5338fbd35fd391cd1bdea34857d44173fd5b9e", func := "multikernel/multikernellaw16.VspaceRights", spec := "vspaceRights", inPlace := ["slices.overlaps[multikernel/api.PageTable]", "slices.overlaps[multikernel/api.Mapping]"], unfollowed := true, recurses := true, apart := false }
def VspaceRightsSaid : Prop := vspaceRightsRow.holds Try.pinned (OpenSpec.ofChange vspaceRightsSpec)

/-- ITS FALSE NEIGHBOUR: 'it returns false'. Refute it at one input. -/
def vspaceRightsWrong : ChangeSpec := { name := "vspaceRights", fn := fun _ => fun
  | [d1, d2, d3, d4] => { results := [.lit (.bool false)], args := [d1, d2, d3, d4] }
  | _ => none }
def VspaceRightsWrongFalsely : Prop := vspaceRightsRow.holds Try.pinned (OpenSpec.ofChange vspaceRightsWrong)

/-- 'multikernellaw16.VspaceSyncExact': WHATEVER THE INPUT: true; the input reads as it did. -/
def vspaceSyncExactSpec : ChangeSpec := { name := "vspaceSyncExact", fn := fun _ => fun
  | [d1, d2, d3] => { results := [.lit (.bool true)], args := [d1, d2, d3] }
  | _ => none }
def vspaceSyncExactRow : OpenClaim := { program := "ytcpdakiailaneaa", sum := "3e84e93dda5eb524c8461843cf5338fbd35fd391cd1bdea34857d44173fd5b9e", func := "multikernel/multikernellaw16.VspaceSyncExact", spec := "vspaceSyncExact", inPlace := ["slices.overlaps[multikernel/api.PageTable]", "slices.overlaps[multikernel/api.Mapping]"], unfollowed := true, recurses := true, apart := false }
def VspaceSyncExactSaid : Prop := vspaceSyncExactRow.holds Try.pinned (OpenSpec.ofChange vspaceSyncExactSpec)

/-- ITS FALSE NEIGHBOUR: 'it returns false'. Refute it at one input. -/
def vspaceSyncExactWrong : ChangeSpec := { name := "vspaceSyncExact", fn := fun _ => fun
  | [d1, d2, d3] => { results := [.lit (.bool false)], args := [d1, d2, d3] }
  | _ => none }
def VspaceSyncExactWrongFalsely : Prop := vspaceSyncExactRow.holds Try.pinned (OpenSpec.ofChange vspaceSyncExactWrong)

/-- 'multikernellaw16.VspaceSync': WHATEVER THE INPUT: true; the input reads as it did. -/
def vspaceSyncSpec : ChangeSpec := { name := "vspaceSync", fn := fun _ => fun
  | [d1, d2, d3] => { results := [.lit (.bool true)], args := [d1, d2, d3] }
  | _ => none }
def vspaceSyncRow : OpenClaim := { program := "ytcpdakiailaneaa", sum := "3e84e93dda5eb524c8461843cf5338fbd35fd391cd1bdea34857d44173fd5b9e", func := "multikernel/multikernellaw16.VspaceSync", spec := "vspaceSync", inPlace := ["slices.overlaps[multikernel/api.PageTable]", "slices.overlaps[multikernel/api.Mapping]"], unfollowed := true, recurses := true, apart := false }
def VspaceSyncSaid : Prop := vspaceSyncRow.holds Try.pinned (OpenSpec.ofChange vspaceSyncSpec)

/-- ITS FALSE NEIGHBOUR: 'it returns false'. Refute it at one input. -/
def vspaceSyncWrong : ChangeSpec := { name := "vspaceSync", fn := fun _ => fun
  | [d1, d2, d3] => { results := [.lit (.bool false)], args := [d1, d2, d3] }
  | _ => none }
def VspaceSyncWrongFalsely : Prop := vspaceSyncRow.holds Try.pinned (OpenSpec.ofChange vspaceSyncWrong)

/-- 'multikernellaw16.VspaceCacheExact': WHATEVER THE INPUT: true; the input reads as it did. -/
def vspaceCacheExactSpec : ChangeSpec := { name := "vspaceCacheExact", fn := fun _ => fun
  | [d1, d2, d3, d4, d5, d6, d7] => { results := [.lit (.bool true)], args := [d1, d2, d3, d4, d5, d6, d7] }
  | _ => none }
def vspaceCacheExactRow : OpenClaim := { program := "ytcpdakiailaneaa", sum := "3e84e93dda5eb524c8461843cf5338fbd35fd391cd1bdea34857d44173fd5b9e", func := "multikernel/multikernellaw16.VspaceCacheExact", spec := "vspaceCacheExact", inPlace := ["slices.overlaps[multikernel/api.PageTable]", "slices.overlaps[multikernel/api.Mapping]"], unfollowed := true, recurses := true, apart := false }
def VspaceCacheExactSaid : Prop := vspaceCacheExactRow.holds Try.pinned (OpenSpec.ofChange vspaceCacheExactSpec)

/-- ITS FALSE NEIGHBOUR: 'it returns false'. Refute it at one input. -/
def vspaceCacheExactWrong : ChangeSpec := { name := "vspaceCacheExact", fn := fun _ => fun
  | [d1, d2, d3, d4, d5, d6, d7] => { results := [.lit (.bool false)], args := [d1, d2, d3, d4, d5, d6, d7] }
  | _ => none }
def VspaceCacheExactWrongFalsely : Prop := vspaceCacheExactRow.holds Try.pinned (OpenSpec.ofChange vspaceCacheExactWrong)

/-- 'multikernellaw16.VspaceMapExact': WHATEVER THE INPUT: true; the input reads as it did. -/
def vspaceMapExactSpec : ChangeSpec := { name := "vspaceMapExact", fn := fun _ => fun
  | [d1, d2, d3, d4, d5, d6] => { results := [.lit (.bool true)], args := [d1, d2, d3, d4, d5, d6] }
  | _ => none }
def vspaceMapExactRow : OpenClaim := { program := "ytcpdakiailaneaa", sum := "3e84e93dda5eb524c8461843cf5338fbd35fd391cd1bdea34857d44173fd5b9e", func := "multikernel/multikernellaw16.VspaceMapExact", spec := "vspaceMapExact", inPlace := ["slices.overlaps[multikernel/api.PageTable]", "slices.overlaps[multikernel/api.Mapping]"], unfollowed := true, recurses := true, apart := false }
def VspaceMapExactSaid : Prop := vspaceMapExactRow.holds Try.pinned (OpenSpec.ofChange vspaceMapExactSpec)

/-- ITS FALSE NEIGHBOUR: 'it returns false'. Refute it at one input. -/
def vspaceMapExactWrong : ChangeSpec := { name := "vspaceMapExact", fn := fun _ => fun
  | [d1, d2, d3, d4, d5, d6] => { results := [.lit (.bool false)], args := [d1, d2, d3, d4, d5, d6] }
  | _ => none }
def VspaceMapExactWrongFalsely : Prop := vspaceMapExactRow.holds Try.pinned (OpenSpec.ofChange vspaceMapExactWrong)

/-- 'multikernellaw16.VspaceMapUnmap': WHATEVER THE INPUT: true; the input reads as it did. -/
def vspaceMapUnmapSpec : ChangeSpec := { name := "vspaceMapUnmap", fn := fun _ => fun
  | [d1, d2, d3, d4, d5] => { results := [.lit (.bool true)], args := [d1, d2, d3, d4, d5] }
  | _ => none }
def vspaceMapUnmapRow : OpenClaim := { program := "ytcpdakiailaneaa", sum := "3e84e93dda5eb524c8461843cf5338fbd35fd391cd1bdea34857d44173fd5b9e", func := "multikernel/multikernellaw16.VspaceMapUnmap", spec := "vspaceMapUnmap", inPlace := ["slices.overlaps[multikernel/api.PageTable]", "slices.overlaps[multikernel/api.Mapping]"], unfollowed := true, recurses := true, apart := false }
def VspaceMapUnmapSaid : Prop := vspaceMapUnmapRow.holds Try.pinned (OpenSpec.ofChange vspaceMapUnmapSpec)

/-- ITS FALSE NEIGHBOUR: 'it returns false'. Refute it at one input. -/
def vspaceMapUnmapWrong : ChangeSpec := { name := "vspaceMapUnmap", fn := fun _ => fun
  | [d1, d2, d3, d4, d5] => { results := [.lit (.bool false)], args := [d1, d2, d3, d4, d5] }
  | _ => none }
def VspaceMapUnmapWrongFalsely : Prop := vspaceMapUnmapRow.holds Try.pinned (OpenSpec.ofChange vspaceMapUnmapWrong)

/-- 'multikernellaw16.VspaceCacheTrue': WHATEVER THE INPUT: true; the input reads as it did. -/
def vspaceCacheTrueSpec : ChangeSpec := { name := "vspaceCacheTrue", fn := fun _ => fun
  | [d] => { results := [.lit (.bool true)], args := [d] }
  | _ => none }
def vspaceCacheTrueRow : OpenClaim := { program := "ytcpdakiailaneaa", sum := "3e84e93dda5eb524c8461843cf5338fbd35fd391cd1bdea34857d44173fd5b9e", func := "multikernel/multikernellaw16.VspaceCacheTrue", spec := "vspaceCacheTrue", inPlace := ["slices.overlaps[multikernel/api.PageTable]", "slices.overlaps[multikernel/api.Mapping]"], unfollowed := true, recurses := true, apart := false }
def VspaceCacheTrueSaid : Prop := vspaceCacheTrueRow.holds Try.pinned (OpenSpec.ofChange vspaceCacheTrueSpec)

/-- ITS FALSE NEIGHBOUR: 'it returns false'. Refute it at one input. -/
def vspaceCacheTrueWrong : ChangeSpec := { name := "vspaceCacheTrue", fn := fun _ => fun
  | [d] => { results := [.lit (.bool false)], args := [d] }
  | _ => none }
def VspaceCacheTrueWrongFalsely : Prop := vspaceCacheTrueRow.holds Try.pinned (OpenSpec.ofChange vspaceCacheTrueWrong)

/- THE SECOND FORM. 'bulk': how many values and letters a reading holds, each counted each time it is reached (what is shared counts as often as it is met; a slice's spare places count too). A statement '..UptoSaid' is the law's where the arguments, and the package variables that the reading takes, are together of bulk at most 1048576: NARROWER than '..Said'. Prove '..Said' where nothing that the law and all that it calls make is longer than what came in: it says more and counts as full. Else prove '..UptoSaid'. A law counts once. -/
mutual
def uptoBulk {H : Type} : DataW H → Nat
  | .lit (.string bytes) => bytes.length + 1
  | .lit _ => 1
  | .nil => 1
  | .ptr d => uptoBulk d + 1
  | .slice elems spare => uptoBulkAll elems + uptoBulkAll spare + 1
  | .agg parts => uptoBulkAll parts + 1
  | .iface _ d => uptoBulk d + 1
  | .map entries => uptoBulkEntries entries + 1
  | .held _ => 1
def uptoBulkAll {H : Type} : List (DataW H) → Nat
  | [] => 0
  | d :: r => uptoBulk d + uptoBulkAll r
def uptoBulkEntries {H : Type} : List (Lit × DataW H) → Nat
  | [] => 0
  | x :: r => uptoBulkEntry x + uptoBulkEntries r
def uptoBulkEntry {H : Type} : Lit × DataW H → Nat
  | (.string bytes, d) => bytes.length + uptoBulk d + 1
  | (_, d) => uptoBulk d + 1
 end
def uptoSmall : (H : Type) → List (DataW H) → Bool := fun _ ds => decide (uptoBulkAll ds ≤ 1048576)
def OpenSpec.upto (s : _root_.Go.ChangeSpec) : _root_.Go.OpenSpec := { _root_.Go.OpenSpec.ofChange s with cond := some uptoSmall }

/-- 'multikernellaw16.VspaceWalkExact', WHERE WHAT IT READS IS OF BULK AT MOST 1048576: true; the input reads as it did. -/
def vspaceWalkExactUptoRow : OpenClaim := { program := "ytcpdakiailaneaa", sum := "3e84e93dda5eb524c8461843cf5338fbd35fd391cd1bdea34857d44173fd5b9e", func := "multikernel/multikernellaw16.VspaceWalkExact", spec := "vspaceWalkExact", inPlace := ["slices.overlaps[multikernel/api.PageTable]", "slices.overlaps[multikernel/api.Mapping]"], unfollowed := true, recurses := true, apart := false, narrowed := true }
def VspaceWalkExactUptoSaid : Prop := vspaceWalkExactUptoRow.holds Try.pinned (OpenSpec.upto vspaceWalkExactSpec)

/-- 'multikernellaw16.VspaceRights', WHERE WHAT IT READS IS OF BULK AT MOST 1048576: true; the input reads as it did. -/
def vspaceRightsUptoRow : OpenClaim := { program := "ytcpdakiailaneaa", sum := "3e84e93dda5eb524c8461843cf5338fbd35fd391cd1bdea34857d44173fd5b9e", func := "multikernel/multikernellaw16.VspaceRights", spec := "vspaceRights", inPlace := ["slices.overlaps[multikernel/api.PageTable]", "slices.overlaps[multikernel/api.Mapping]"], unfollowed := true, recurses := true, apart := false, narrowed := true }
def VspaceRightsUptoSaid : Prop := vspaceRightsUptoRow.holds Try.pinned (OpenSpec.upto vspaceRightsSpec)

/-- 'multikernellaw16.VspaceSyncExact', WHERE WHAT IT READS IS OF BULK AT MOST 1048576: true; the input reads as it did. -/
def vspaceSyncExactUptoRow : OpenClaim := { program := "ytcpdakiailaneaa", sum := "3e84e93dda5eb524c8461843cf5338fbd35fd391cd1bdea34857d44173fd5b9e", func := "multikernel/multikernellaw16.VspaceSyncExact", spec := "vspaceSyncExact", inPlace := ["slices.overlaps[multikernel/api.PageTable]", "slices.overlaps[multikernel/api.Mapping]"], unfollowed := true, recurses := true, apart := false, narrowed := true }
def VspaceSyncExactUptoSaid : Prop := vspaceSyncExactUptoRow.holds Try.pinned (OpenSpec.upto vspaceSyncExactSpec)

/-- 'multikernellaw16.VspaceSync', WHERE WHAT IT READS IS OF BULK AT MOST 1048576: true; the input reads as it did. -/
def vspaceSyncUptoRow : OpenClaim := { program := "ytcpdakiailaneaa", sum := "3e84e93dda5eb524c8461843cf5338fbd35fd391cd1bdea34857d44173fd5b9e", func := "multikernel/multikernellaw16.VspaceSync", spec := "vspaceSync", inPlace := ["slices.overlaps[multikernel/api.PageTable]", "slices.overlaps[multikernel/api.Mapping]"], unfollowed := true, recurses := true, apart := false, narrowed := true }
def VspaceSyncUptoSaid : Prop := vspaceSyncUptoRow.holds Try.pinned (OpenSpec.upto vspaceSyncSpec)

/-- 'multikernellaw16.VspaceCacheExact', WHERE WHAT IT READS IS OF BULK AT MOST 1048576: true; the input reads as it did. -/
def vspaceCacheExactUptoRow : OpenClaim := { program := "ytcpdakiailaneaa", sum := "3e84e93dda5eb524c8461843cf5338fbd35fd391cd1bdea34857d44173fd5b9e", func := "multikernel/multikernellaw16.VspaceCacheExact", spec := "vspaceCacheExact", inPlace := ["slices.overlaps[multikernel/api.PageTable]", "slices.overlaps[multikernel/api.Mapping]"], unfollowed := true, recurses := true, apart := false, narrowed := true }
def VspaceCacheExactUptoSaid : Prop := vspaceCacheExactUptoRow.holds Try.pinned (OpenSpec.upto vspaceCacheExactSpec)

/-- 'multikernellaw16.VspaceMapExact', WHERE WHAT IT READS IS OF BULK AT MOST 1048576: true; the input reads as it did. -/
def vspaceMapExactUptoRow : OpenClaim := { program := "ytcpdakiailaneaa", sum := "3e84e93dda5eb524c8461843cf5338fbd35fd391cd1bdea34857d44173fd5b9e", func := "multikernel/multikernellaw16.VspaceMapExact", spec := "vspaceMapExact", inPlace := ["slices.overlaps[multikernel/api.PageTable]", "slices.overlaps[multikernel/api.Mapping]"], unfollowed := true, recurses := true, apart := false, narrowed := true }
def VspaceMapExactUptoSaid : Prop := vspaceMapExactUptoRow.holds Try.pinned (OpenSpec.upto vspaceMapExactSpec)

/-- 'multikernellaw16.VspaceMapUnmap', WHERE WHAT IT READS IS OF BULK AT MOST 1048576: true; the input reads as it did. -/
def vspaceMapUnmapUptoRow : OpenClaim := { program := "ytcpdakiailaneaa", sum := "3e84e93dda5eb524c8461843cf5338fbd35fd391cd1bdea34857d44173fd5b9e", func := "multikernel/multikernellaw16.VspaceMapUnmap", spec := "vspaceMapUnmap", inPlace := ["slices.overlaps[multikernel/api.PageTable]", "slices.overlaps[multikernel/api.Mapping]"], unfollowed := true, recurses := true, apart := false, narrowed := true }
def VspaceMapUnmapUptoSaid : Prop := vspaceMapUnmapUptoRow.holds Try.pinned (OpenSpec.upto vspaceMapUnmapSpec)

/-- 'multikernellaw16.VspaceCacheTrue', WHERE WHAT IT READS IS OF BULK AT MOST 1048576: true; the input reads as it did. -/
def vspaceCacheTrueUptoRow : OpenClaim := { program := "ytcpdakiailaneaa", sum := "3e84e93dda5eb524c8461843cf5338fbd35fd391cd1bdea34857d44173fd5b9e", func := "multikernel/multikernellaw16.VspaceCacheTrue", spec := "vspaceCacheTrue", inPlace := ["slices.overlaps[multikernel/api.PageTable]", "slices.overlaps[multikernel/api.Mapping]"], unfollowed := true, recurses := true, apart := false, narrowed := true }
def VspaceCacheTrueUptoSaid : Prop := vspaceCacheTrueUptoRow.holds Try.pinned (OpenSpec.upto vspaceCacheTrueSpec)

end Rows
end Go.Proofs.Ytcpdakiailaneaa
