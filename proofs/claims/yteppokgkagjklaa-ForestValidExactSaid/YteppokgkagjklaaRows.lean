/-
  No cell of these rows narrows 'for every input' (looked for: loops, veiled, ifaces, maps, wideKeys, modest, calm, conditions, laid).
  DERIVED. THE GIVEN ROWS OF THIS SEAT. 10 by the template 'for every input the law returns true; each argument reads behind the call as it read before'; 0 by the template 'total and deterministic' (their statements: YteppokgkagjklaaTotals.lean).
  GIVEN WITH THE SEED: the statements are not yours to turn. If you find one false, say at which input.
  Laid BY PROGRAM, IN A SANDBOX (cutbox-rows.mjs): the forced cells as the released guide's own fill.sh prints them over the translation a710f84ddaccc8f9… (all of the seat's roots in one cut). By AI agents, Wed Nov 11 2026. No macro, syntax, notation, axiom, sorry.
-/
import Derived.Test.YteppokgkagjklaaChecked
import GoSem.Claim
import GoSem.ClaimJoined
import GoSem.ClaimMapViews
import Derived.JoinedTies
import Derived.KernelRfl
namespace Go.Proofs.Yteppokgkagjklaa
/- THE CELL 'sum', in the pinned program and in every row, IS THE sha256 OF THE DUMP (.gsa) THAT YteppokgkagjklaaProg.lean LOADS. Nothing in Lean hashes anything: it is a label: what it is worth is what the hold of that sum in a sandbox is worth. -/
noncomputable def Try.pinned : Pinned := { name := "yteppokgkagjklaa", sum := "a710f84ddaccc8f9700e7f6ddd9a1eb8c7daaa5323dc936aac2b78e9be78e670", checked := Try.checked }
namespace Rows
def none {H : Type} : Left H := { results := [], args := [] }

/-- 'multikernellaw13.ForestValidExact': WHATEVER THE INPUT: true; the input reads as it did. -/
def forestValidExactSpec : ChangeSpec := { name := "forestValidExact", fn := fun _ => fun
  | [d1, d2, d3, d4] => { results := [.lit (.bool true)], args := [d1, d2, d3, d4] }
  | _ => none }
def forestValidExactRow : OpenClaim := { program := "yteppokgkagjklaa", sum := "a710f84ddaccc8f9700e7f6ddd9a1eb8c7daaa5323dc936aac2b78e9be78e670", func := "multikernel/multikernellaw13.ForestValidExact", spec := "forestValidExact", inPlace := ["slices.overlaps[multikernel/api.Entry]"], recurses := true, apart := false }
def ForestValidExactSaid : Prop := forestValidExactRow.holds Try.pinned (OpenSpec.ofChange forestValidExactSpec)

/-- ITS FALSE NEIGHBOUR: 'it returns false'. Refute it at one input. -/
def forestValidExactWrong : ChangeSpec := { name := "forestValidExact", fn := fun _ => fun
  | [d1, d2, d3, d4] => { results := [.lit (.bool false)], args := [d1, d2, d3, d4] }
  | _ => none }
def ForestValidExactWrongFalsely : Prop := forestValidExactRow.holds Try.pinned (OpenSpec.ofChange forestValidExactWrong)

/-- 'multikernellaw13.ForestConflictExact': WHATEVER THE INPUT: true; the input reads as it did. -/
def forestConflictExactSpec : ChangeSpec := { name := "forestConflictExact", fn := fun _ => fun
  | [d1, d2, d3, d4] => { results := [.lit (.bool true)], args := [d1, d2, d3, d4] }
  | _ => none }
def forestConflictExactRow : OpenClaim := { program := "yteppokgkagjklaa", sum := "a710f84ddaccc8f9700e7f6ddd9a1eb8c7daaa5323dc936aac2b78e9be78e670", func := "multikernel/multikernellaw13.ForestConflictExact", spec := "forestConflictExact", inPlace := ["slices.overlaps[multikernel/api.Entry]"], recurses := true, apart := false }
def ForestConflictExactSaid : Prop := forestConflictExactRow.holds Try.pinned (OpenSpec.ofChange forestConflictExactSpec)

/-- ITS FALSE NEIGHBOUR: 'it returns false'. Refute it at one input. -/
def forestConflictExactWrong : ChangeSpec := { name := "forestConflictExact", fn := fun _ => fun
  | [d1, d2, d3, d4] => { results := [.lit (.bool false)], args := [d1, d2, d3, d4] }
  | _ => none }
def ForestConflictExactWrongFalsely : Prop := forestConflictExactRow.holds Try.pinned (OpenSpec.ofChange forestConflictExactWrong)

/-- 'multikernellaw13.ForestClaims': WHATEVER THE INPUT: true; the input reads as it did. -/
def forestClaimsSpec : ChangeSpec := { name := "forestClaims", fn := fun _ => fun
  | [d1, d2, d3] => { results := [.lit (.bool true)], args := [d1, d2, d3] }
  | _ => none }
def forestClaimsRow : OpenClaim := { program := "yteppokgkagjklaa", sum := "a710f84ddaccc8f9700e7f6ddd9a1eb8c7daaa5323dc936aac2b78e9be78e670", func := "multikernel/multikernellaw13.ForestClaims", spec := "forestClaims", inPlace := ["slices.overlaps[multikernel/api.Entry]"], recurses := true, apart := false }
def ForestClaimsSaid : Prop := forestClaimsRow.holds Try.pinned (OpenSpec.ofChange forestClaimsSpec)

/-- ITS FALSE NEIGHBOUR: 'it returns false'. Refute it at one input. -/
def forestClaimsWrong : ChangeSpec := { name := "forestClaims", fn := fun _ => fun
  | [d1, d2, d3] => { results := [.lit (.bool false)], args := [d1, d2, d3] }
  | _ => none }
def ForestClaimsWrongFalsely : Prop := forestClaimsRow.holds Try.pinned (OpenSpec.ofChange forestClaimsWrong)

/-- 'multikernellaw13.ForestInsertRemove': WHATEVER THE INPUT: true; the input reads as it did. -/
def forestInsertRemoveSpec : ChangeSpec := { name := "forestInsertRemove", fn := fun _ => fun
  | [d1, d2, d3, d4, d5] => { results := [.lit (.bool true)], args := [d1, d2, d3, d4, d5] }
  | _ => none }
def forestInsertRemoveRow : OpenClaim := { program := "yteppokgkagjklaa", sum := "a710f84ddaccc8f9700e7f6ddd9a1eb8c7daaa5323dc936aac2b78e9be78e670", func := "multikernel/multikernellaw13.ForestInsertRemove", spec := "forestInsertRemove", inPlace := ["slices.overlaps[multikernel/api.Entry]"], recurses := true, apart := false }
def ForestInsertRemoveSaid : Prop := forestInsertRemoveRow.holds Try.pinned (OpenSpec.ofChange forestInsertRemoveSpec)

/-- ITS FALSE NEIGHBOUR: 'it returns false'. Refute it at one input. -/
def forestInsertRemoveWrong : ChangeSpec := { name := "forestInsertRemove", fn := fun _ => fun
  | [d1, d2, d3, d4, d5] => { results := [.lit (.bool false)], args := [d1, d2, d3, d4, d5] }
  | _ => none }
def ForestInsertRemoveWrongFalsely : Prop := forestInsertRemoveRow.holds Try.pinned (OpenSpec.ofChange forestInsertRemoveWrong)

/-- 'multikernellaw13.ForestGrows': WHATEVER THE INPUT: true; the input reads as it did. -/
def forestGrowsSpec : ChangeSpec := { name := "forestGrows", fn := fun _ => fun
  | [d1, d2, d3, d4, d5] => { results := [.lit (.bool true)], args := [d1, d2, d3, d4, d5] }
  | _ => none }
def forestGrowsRow : OpenClaim := { program := "yteppokgkagjklaa", sum := "a710f84ddaccc8f9700e7f6ddd9a1eb8c7daaa5323dc936aac2b78e9be78e670", func := "multikernel/multikernellaw13.ForestGrows", spec := "forestGrows", inPlace := ["slices.overlaps[multikernel/api.Entry]"], recurses := true, apart := false }
def ForestGrowsSaid : Prop := forestGrowsRow.holds Try.pinned (OpenSpec.ofChange forestGrowsSpec)

/-- ITS FALSE NEIGHBOUR: 'it returns false'. Refute it at one input. -/
def forestGrowsWrong : ChangeSpec := { name := "forestGrows", fn := fun _ => fun
  | [d1, d2, d3, d4, d5] => { results := [.lit (.bool false)], args := [d1, d2, d3, d4, d5] }
  | _ => none }
def ForestGrowsWrongFalsely : Prop := forestGrowsRow.holds Try.pinned (OpenSpec.ofChange forestGrowsWrong)

/-- 'multikernellaw13.ForestQueriesExact': WHATEVER THE INPUT: true; the input reads as it did. -/
def forestQueriesExactSpec : ChangeSpec := { name := "forestQueriesExact", fn := fun _ => fun
  | [d1, d2, d3, d4] => { results := [.lit (.bool true)], args := [d1, d2, d3, d4] }
  | _ => none }
def forestQueriesExactRow : OpenClaim := { program := "yteppokgkagjklaa", sum := "a710f84ddaccc8f9700e7f6ddd9a1eb8c7daaa5323dc936aac2b78e9be78e670", func := "multikernel/multikernellaw13.ForestQueriesExact", spec := "forestQueriesExact", inPlace := ["slices.overlaps[multikernel/api.Entry]"], unfollowed := true, recurses := true, apart := false }
def ForestQueriesExactSaid : Prop := forestQueriesExactRow.holds Try.pinned (OpenSpec.ofChange forestQueriesExactSpec)

/-- ITS FALSE NEIGHBOUR: 'it returns false'. Refute it at one input. -/
def forestQueriesExactWrong : ChangeSpec := { name := "forestQueriesExact", fn := fun _ => fun
  | [d1, d2, d3, d4] => { results := [.lit (.bool false)], args := [d1, d2, d3, d4] }
  | _ => none }
def ForestQueriesExactWrongFalsely : Prop := forestQueriesExactRow.holds Try.pinned (OpenSpec.ofChange forestQueriesExactWrong)

/-- 'multikernellaw13.ForestTransitive': WHATEVER THE INPUT: true; the input reads as it did. -/
def forestTransitiveSpec : ChangeSpec := { name := "forestTransitive", fn := fun _ => fun
  | [d1, d2] => { results := [.lit (.bool true)], args := [d1, d2] }
  | _ => none }
def forestTransitiveRow : OpenClaim := { program := "yteppokgkagjklaa", sum := "a710f84ddaccc8f9700e7f6ddd9a1eb8c7daaa5323dc936aac2b78e9be78e670", func := "multikernel/multikernellaw13.ForestTransitive", spec := "forestTransitive", inPlace := ["slices.overlaps[multikernel/api.Entry]"], unfollowed := true, recurses := true, apart := false }
def ForestTransitiveSaid : Prop := forestTransitiveRow.holds Try.pinned (OpenSpec.ofChange forestTransitiveSpec)

/-- ITS FALSE NEIGHBOUR: 'it returns false'. Refute it at one input. -/
def forestTransitiveWrong : ChangeSpec := { name := "forestTransitive", fn := fun _ => fun
  | [d1, d2] => { results := [.lit (.bool false)], args := [d1, d2] }
  | _ => none }
def ForestTransitiveWrongFalsely : Prop := forestTransitiveRow.holds Try.pinned (OpenSpec.ofChange forestTransitiveWrong)

/-- 'multikernellaw13.ForestChangesExact': WHATEVER THE INPUT: true; the input reads as it did. -/
def forestChangesExactSpec : ChangeSpec := { name := "forestChangesExact", fn := fun _ => fun
  | [d1, d2, d3, d4] => { results := [.lit (.bool true)], args := [d1, d2, d3, d4] }
  | _ => none }
def forestChangesExactRow : OpenClaim := { program := "yteppokgkagjklaa", sum := "a710f84ddaccc8f9700e7f6ddd9a1eb8c7daaa5323dc936aac2b78e9be78e670", func := "multikernel/multikernellaw13.ForestChangesExact", spec := "forestChangesExact", inPlace := ["slices.overlaps[multikernel/api.Entry]"], unfollowed := true, recurses := true, apart := false }
def ForestChangesExactSaid : Prop := forestChangesExactRow.holds Try.pinned (OpenSpec.ofChange forestChangesExactSpec)

/-- ITS FALSE NEIGHBOUR: 'it returns false'. Refute it at one input. -/
def forestChangesExactWrong : ChangeSpec := { name := "forestChangesExact", fn := fun _ => fun
  | [d1, d2, d3, d4] => { results := [.lit (.bool false)], args := [d1, d2, d3, d4] }
  | _ => none }
def ForestChangesExactWrongFalsely : Prop := forestChangesExactRow.holds Try.pinned (OpenSpec.ofChange forestChangesExactWrong)

/-- 'multikernellaw13.ForestReparents': WHATEVER THE INPUT: true; the input reads as it did. -/
def forestReparentsSpec : ChangeSpec := { name := "forestReparents", fn := fun _ => fun
  | [d1, d2] => { results := [.lit (.bool true)], args := [d1, d2] }
  | _ => none }
def forestReparentsRow : OpenClaim := { program := "yteppokgkagjklaa", sum := "a710f84ddaccc8f9700e7f6ddd9a1eb8c7daaa5323dc936aac2b78e9be78e670", func := "multikernel/multikernellaw13.ForestReparents", spec := "forestReparents", inPlace := ["slices.overlaps[multikernel/api.Entry]"], unfollowed := true, recurses := true, apart := false }
def ForestReparentsSaid : Prop := forestReparentsRow.holds Try.pinned (OpenSpec.ofChange forestReparentsSpec)

/-- ITS FALSE NEIGHBOUR: 'it returns false'. Refute it at one input. -/
def forestReparentsWrong : ChangeSpec := { name := "forestReparents", fn := fun _ => fun
  | [d1, d2] => { results := [.lit (.bool false)], args := [d1, d2] }
  | _ => none }
def ForestReparentsWrongFalsely : Prop := forestReparentsRow.holds Try.pinned (OpenSpec.ofChange forestReparentsWrong)

/-- 'multikernellaw13.ForestStaysValid': WHATEVER THE INPUT: true; the input reads as it did. -/
def forestStaysValidSpec : ChangeSpec := { name := "forestStaysValid", fn := fun _ => fun
  | [d1, d2, d3] => { results := [.lit (.bool true)], args := [d1, d2, d3] }
  | _ => none }
def forestStaysValidRow : OpenClaim := { program := "yteppokgkagjklaa", sum := "a710f84ddaccc8f9700e7f6ddd9a1eb8c7daaa5323dc936aac2b78e9be78e670", func := "multikernel/multikernellaw13.ForestStaysValid", spec := "forestStaysValid", inPlace := ["slices.overlaps[multikernel/api.Entry]"], unfollowed := true, recurses := true, apart := false }
def ForestStaysValidSaid : Prop := forestStaysValidRow.holds Try.pinned (OpenSpec.ofChange forestStaysValidSpec)

/-- ITS FALSE NEIGHBOUR: 'it returns false'. Refute it at one input. -/
def forestStaysValidWrong : ChangeSpec := { name := "forestStaysValid", fn := fun _ => fun
  | [d1, d2, d3] => { results := [.lit (.bool false)], args := [d1, d2, d3] }
  | _ => none }
def ForestStaysValidWrongFalsely : Prop := forestStaysValidRow.holds Try.pinned (OpenSpec.ofChange forestStaysValidWrong)

/- THE SECOND FORM. 'bulk': how many values and letters a reading holds, each counted each time it is reached (what is shared counts as often as it is met; a slice's spare places count too). A statement '..UptoSaid' is the law's where the arguments, and the package variables that the reading takes, are together of bulk at most 1048576: NARROWER than '..Said'. Prove '..Said' where nothing that the law and all that it calls make is longer than what came in: it says more and counts as full. Else prove '..UptoSaid'. A law counts once. -/
mutual
def uptoBulk {H : Type} : DataW H → Nat
  | .lit (.string bytes) => bytes.length + 1
  | .lit _ => 1
  | .nil => 1
  | .ptr d => uptoBulk d + 1
  | .slice elems spare => uptoBulkAll elems + uptoBulkAll spare + 1
  | .agg parts => uptoBulkAll parts + 1
  | .iface _ d => uptoBulk d + 1
  | .map entries => uptoBulkEntries entries + 1
  | .held _ => 1
def uptoBulkAll {H : Type} : List (DataW H) → Nat
  | [] => 0
  | d :: r => uptoBulk d + uptoBulkAll r
def uptoBulkEntries {H : Type} : List (Lit × DataW H) → Nat
  | [] => 0
  | x :: r => uptoBulkEntry x + uptoBulkEntries r
def uptoBulkEntry {H : Type} : Lit × DataW H → Nat
  | (.string bytes, d) => bytes.length + uptoBulk d + 1
  | (_, d) => uptoBulk d + 1
 end
def uptoSmall : (H : Type) → List (DataW H) → Bool := fun _ ds => decide (uptoBulkAll ds ≤ 1048576)
def OpenSpec.upto (s : _root_.Go.ChangeSpec) : _root_.Go.OpenSpec := { _root_.Go.OpenSpec.ofChange s with cond := some uptoSmall }

/-- 'multikernellaw13.ForestValidExact', WHERE WHAT IT READS IS OF BULK AT MOST 1048576: true; the input reads as it did. -/
def forestValidExactUptoRow : OpenClaim := { program := "yteppokgkagjklaa", sum := "a710f84ddaccc8f9700e7f6ddd9a1eb8c7daaa5323dc936aac2b78e9be78e670", func := "multikernel/multikernellaw13.ForestValidExact", spec := "forestValidExact", inPlace := ["slices.overlaps[multikernel/api.Entry]"], recurses := true, apart := false, narrowed := true }
def ForestValidExactUptoSaid : Prop := forestValidExactUptoRow.holds Try.pinned (OpenSpec.upto forestValidExactSpec)

/-- 'multikernellaw13.ForestConflictExact', WHERE WHAT IT READS IS OF BULK AT MOST 1048576: true; the input reads as it did. -/
def forestConflictExactUptoRow : OpenClaim := { program := "yteppokgkagjklaa", sum := "a710f84ddaccc8f9700e7f6ddd9a1eb8c7daaa5323dc936aac2b78e9be78e670", func := "multikernel/multikernellaw13.ForestConflictExact", spec := "forestConflictExact", inPlace := ["slices.overlaps[multikernel/api.Entry]"], recurses := true, apart := false, narrowed := true }
def ForestConflictExactUptoSaid : Prop := forestConflictExactUptoRow.holds Try.pinned (OpenSpec.upto forestConflictExactSpec)

/-- 'multikernellaw13.ForestClaims', WHERE WHAT IT READS IS OF BULK AT MOST 1048576: true; the input reads as it did. -/
def forestClaimsUptoRow : OpenClaim := { program := "yteppokgkagjklaa", sum := "a710f84ddaccc8f9700e7f6ddd9a1eb8c7daaa5323dc936aac2b78e9be78e670", func := "multikernel/multikernellaw13.ForestClaims", spec := "forestClaims", inPlace := ["slices.overlaps[multikernel/api.Entry]"], recurses := true, apart := false, narrowed := true }
def ForestClaimsUptoSaid : Prop := forestClaimsUptoRow.holds Try.pinned (OpenSpec.upto forestClaimsSpec)

/-- 'multikernellaw13.ForestInsertRemove', WHERE WHAT IT READS IS OF BULK AT MOST 1048576: true; the input reads as it did. -/
def forestInsertRemoveUptoRow : OpenClaim := { program := "yteppokgkagjklaa", sum := "a710f84ddaccc8f9700e7f6ddd9a1eb8c7daaa5323dc936aac2b78e9be78e670", func := "multikernel/multikernellaw13.ForestInsertRemove", spec := "forestInsertRemove", inPlace := ["slices.overlaps[multikernel/api.Entry]"], recurses := true, apart := false, narrowed := true }
def ForestInsertRemoveUptoSaid : Prop := forestInsertRemoveUptoRow.holds Try.pinned (OpenSpec.upto forestInsertRemoveSpec)

/-- 'multikernellaw13.ForestGrows', WHERE WHAT IT READS IS OF BULK AT MOST 1048576: true; the input reads as it did. -/
def forestGrowsUptoRow : OpenClaim := { program := "yteppokgkagjklaa", sum := "a710f84ddaccc8f9700e7f6ddd9a1eb8c7daaa5323dc936aac2b78e9be78e670", func := "multikernel/multikernellaw13.ForestGrows", spec := "forestGrows", inPlace := ["slices.overlaps[multikernel/api.Entry]"], recurses := true, apart := false, narrowed := true }
def ForestGrowsUptoSaid : Prop := forestGrowsUptoRow.holds Try.pinned (OpenSpec.upto forestGrowsSpec)

/-- 'multikernellaw13.ForestQueriesExact', WHERE WHAT IT READS IS OF BULK AT MOST 1048576: true; the input reads as it did. -/
def forestQueriesExactUptoRow : OpenClaim := { program := "yteppokgkagjklaa", sum := "a710f84ddaccc8f9700e7f6ddd9a1eb8c7daaa5323dc936aac2b78e9be78e670", func := "multikernel/multikernellaw13.ForestQueriesExact", spec := "forestQueriesExact", inPlace := ["slices.overlaps[multikernel/api.Entry]"], unfollowed := true, recurses := true, apart := false, narrowed := true }
def ForestQueriesExactUptoSaid : Prop := forestQueriesExactUptoRow.holds Try.pinned (OpenSpec.upto forestQueriesExactSpec)

/-- 'multikernellaw13.ForestTransitive', WHERE WHAT IT READS IS OF BULK AT MOST 1048576: true; the input reads as it did. -/
def forestTransitiveUptoRow : OpenClaim := { program := "yteppokgkagjklaa", sum := "a710f84ddaccc8f9700e7f6ddd9a1eb8c7daaa5323dc936aac2b78e9be78e670", func := "multikernel/multikernellaw13.ForestTransitive", spec := "forestTransitive", inPlace := ["slices.overlaps[multikernel/api.Entry]"], unfollowed := true, recurses := true, apart := false, narrowed := true }
def ForestTransitiveUptoSaid : Prop := forestTransitiveUptoRow.holds Try.pinned (OpenSpec.upto forestTransitiveSpec)

/-- 'multikernellaw13.ForestChangesExact', WHERE WHAT IT READS IS OF BULK AT MOST 1048576: true; the input reads as it did. -/
def forestChangesExactUptoRow : OpenClaim := { program := "yteppokgkagjklaa", sum := "a710f84ddaccc8f9700e7f6ddd9a1eb8c7daaa5323dc936aac2b78e9be78e670", func := "multikernel/multikernellaw13.ForestChangesExact", spec := "forestChangesExact", inPlace := ["slices.overlaps[multikernel/api.Entry]"], unfollowed := true, recurses := true, apart := false, narrowed := true }
def ForestChangesExactUptoSaid : Prop := forestChangesExactUptoRow.holds Try.pinned (OpenSpec.upto forestChangesExactSpec)

/-- 'multikernellaw13.ForestReparents', WHERE WHAT IT READS IS OF BULK AT MOST 1048576: true; the input reads as it did. -/
def forestReparentsUptoRow : OpenClaim := { program := "yteppokgkagjklaa", sum := "a710f84ddaccc8f9700e7f6ddd9a1eb8c7daaa5323dc936aac2b78e9be78e670", func := "multikernel/multikernellaw13.ForestReparents", spec := "forestReparents", inPlace := ["slices.overlaps[multikernel/api.Entry]"], unfollowed := true, recurses := true, apart := false, narrowed := true }
def ForestReparentsUptoSaid : Prop := forestReparentsUptoRow.holds Try.pinned (OpenSpec.upto forestReparentsSpec)

/-- 'multikernellaw13.ForestStaysValid', WHERE WHAT IT READS IS OF BULK AT MOST 1048576: true; the input reads as it did. -/
def forestStaysValidUptoRow : OpenClaim := { program := "yteppokgkagjklaa", sum := "a710f84ddaccc8f9700e7f6ddd9a1eb8c7daaa5323dc936aac2b78e9be78e670", func := "multikernel/multikernellaw13.ForestStaysValid", spec := "forestStaysValid", inPlace := ["slices.overlaps[multikernel/api.Entry]"], unfollowed := true, recurses := true, apart := false, narrowed := true }
def ForestStaysValidUptoSaid : Prop := forestStaysValidUptoRow.holds Try.pinned (OpenSpec.upto forestStaysValidSpec)

end Rows
end Go.Proofs.Yteppokgkagjklaa
