/-
  No cell of these rows narrows 'for every input' (looked for: loops, veiled, ifaces, maps, wideKeys, modest, calm, conditions, laid).
  DERIVED. THE GIVEN ROWS OF THIS SEAT. 12 by the template 'for every input the law returns true; each argument reads behind the call as it read before'; 0 by the template 'total and deterministic' (their statements: YtoidpheldjllaaaTotals.lean).
  GIVEN WITH THE SEED: the statements are not yours to turn. If you find one false, say at which input.
  Laid BY PROGRAM, IN A SANDBOX (cutbox-rows.mjs): the forced cells as the released guide's own fill.sh prints them over the translation f737be5d235b51e1… (all of the seat's roots in one cut). By AI agents, Wed Nov 11 2026. No macro, syntax, notation, axiom, sorry.
-/
import Derived.Test.YtoidpheldjllaaaChecked
import GoSem.Claim
import GoSem.ClaimJoined
import GoSem.ClaimMapViews
import Derived.JoinedTies
import Derived.KernelRfl
namespace Go.Proofs.Ytoidpheldjllaaa
/- THE CELL 'sum', in the pinned program and in every row, IS THE sha256 OF THE DUMP (.gsa) THAT YtoidpheldjllaaaProg.lean LOADS. Nothing in Lean hashes anything: it is a label: what it is worth is what the hold of that sum in a sandbox is worth. -/
noncomputable def Try.pinned : Pinned := { name := "ytoidpheldjllaaa", sum := "f737be5d235b51e1afd4b0564568412d3f0551b41f6ed28e63fda15566091f12", checked := Try.checked }
namespace Rows
def none {H : Type} : Left H := { results := [], args := [] }

/-- 'multikernellaw10.RangeExact': WHATEVER THE INPUT: true; the input reads as it did. -/
def rangeExactSpec : ChangeSpec := { name := "rangeExact", fn := fun _ => fun
  | [d1, d2] => { results := [.lit (.bool true)], args := [d1, d2] }
  | _ => none }
def rangeExactRow : OpenClaim := { program := "ytoidpheldjllaaa", sum := "f737be5d235b51e1afd4b0564568412d3f0551b41f6ed28e63fda15566091f12", func := "multikernel/multikernellaw10.RangeExact", spec := "rangeExact", recurses := true, apart := false }
def RangeExactSaid : Prop := rangeExactRow.holds Try.pinned (OpenSpec.ofChange rangeExactSpec)

/-- ITS FALSE NEIGHBOUR: 'it returns false'. Refute it at one input. -/
def rangeExactWrong : ChangeSpec := { name := "rangeExact", fn := fun _ => fun
  | [d1, d2] => { results := [.lit (.bool false)], args := [d1, d2] }
  | _ => none }
def RangeExactWrongFalsely : Prop := rangeExactRow.holds Try.pinned (OpenSpec.ofChange rangeExactWrong)

/-- 'multikernellaw10.RangeFreeExact': WHATEVER THE INPUT: true; the input reads as it did. -/
def rangeFreeExactSpec : ChangeSpec := { name := "rangeFreeExact", fn := fun _ => fun
  | [d1, d2] => { results := [.lit (.bool true)], args := [d1, d2] }
  | _ => none }
def rangeFreeExactRow : OpenClaim := { program := "ytoidpheldjllaaa", sum := "f737be5d235b51e1afd4b0564568412d3f0551b41f6ed28e63fda15566091f12", func := "multikernel/multikernellaw10.RangeFreeExact", spec := "rangeFreeExact", recurses := true, apart := false }
def RangeFreeExactSaid : Prop := rangeFreeExactRow.holds Try.pinned (OpenSpec.ofChange rangeFreeExactSpec)

/-- ITS FALSE NEIGHBOUR: 'it returns false'. Refute it at one input. -/
def rangeFreeExactWrong : ChangeSpec := { name := "rangeFreeExact", fn := fun _ => fun
  | [d1, d2] => { results := [.lit (.bool false)], args := [d1, d2] }
  | _ => none }
def RangeFreeExactWrongFalsely : Prop := rangeFreeExactRow.holds Try.pinned (OpenSpec.ofChange rangeFreeExactWrong)

/-- 'multikernellaw10.RangeFindExact': WHATEVER THE INPUT: true; the input reads as it did. -/
def rangeFindExactSpec : ChangeSpec := { name := "rangeFindExact", fn := fun _ => fun
  | [d1, d2, d3] => { results := [.lit (.bool true)], args := [d1, d2, d3] }
  | _ => none }
def rangeFindExactRow : OpenClaim := { program := "ytoidpheldjllaaa", sum := "f737be5d235b51e1afd4b0564568412d3f0551b41f6ed28e63fda15566091f12", func := "multikernel/multikernellaw10.RangeFindExact", spec := "rangeFindExact", recurses := true, apart := false }
def RangeFindExactSaid : Prop := rangeFindExactRow.holds Try.pinned (OpenSpec.ofChange rangeFindExactSpec)

/-- ITS FALSE NEIGHBOUR: 'it returns false'. Refute it at one input. -/
def rangeFindExactWrong : ChangeSpec := { name := "rangeFindExact", fn := fun _ => fun
  | [d1, d2, d3] => { results := [.lit (.bool false)], args := [d1, d2, d3] }
  | _ => none }
def RangeFindExactWrongFalsely : Prop := rangeFindExactRow.holds Try.pinned (OpenSpec.ofChange rangeFindExactWrong)

/-- 'multikernellaw10.RangeNested': WHATEVER THE INPUT: true; the input reads as it did. -/
def rangeNestedSpec : ChangeSpec := { name := "rangeNested", fn := fun _ => fun
  | [d1, d2, d3, d4] => { results := [.lit (.bool true)], args := [d1, d2, d3, d4] }
  | _ => none }
def rangeNestedRow : OpenClaim := { program := "ytoidpheldjllaaa", sum := "f737be5d235b51e1afd4b0564568412d3f0551b41f6ed28e63fda15566091f12", func := "multikernel/multikernellaw10.RangeNested", spec := "rangeNested", recurses := true, apart := false }
def RangeNestedSaid : Prop := rangeNestedRow.holds Try.pinned (OpenSpec.ofChange rangeNestedSpec)

/-- ITS FALSE NEIGHBOUR: 'it returns false'. Refute it at one input. -/
def rangeNestedWrong : ChangeSpec := { name := "rangeNested", fn := fun _ => fun
  | [d1, d2, d3, d4] => { results := [.lit (.bool false)], args := [d1, d2, d3, d4] }
  | _ => none }
def RangeNestedWrongFalsely : Prop := rangeNestedRow.holds Try.pinned (OpenSpec.ofChange rangeNestedWrong)

/-- 'multikernellaw10.RangeMaximal': WHATEVER THE INPUT: true; the input reads as it did. -/
def rangeMaximalSpec : ChangeSpec := { name := "rangeMaximal", fn := fun _ => fun
  | [d1, d2, d3] => { results := [.lit (.bool true)], args := [d1, d2, d3] }
  | _ => none }
def rangeMaximalRow : OpenClaim := { program := "ytoidpheldjllaaa", sum := "f737be5d235b51e1afd4b0564568412d3f0551b41f6ed28e63fda15566091f12", func := "multikernel/multikernellaw10.RangeMaximal", spec := "rangeMaximal", recurses := true, apart := false }
def RangeMaximalSaid : Prop := rangeMaximalRow.holds Try.pinned (OpenSpec.ofChange rangeMaximalSpec)

/-- ITS FALSE NEIGHBOUR: 'it returns false'. Refute it at one input. -/
def rangeMaximalWrong : ChangeSpec := { name := "rangeMaximal", fn := fun _ => fun
  | [d1, d2, d3] => { results := [.lit (.bool false)], args := [d1, d2, d3] }
  | _ => none }
def RangeMaximalWrongFalsely : Prop := rangeMaximalRow.holds Try.pinned (OpenSpec.ofChange rangeMaximalWrong)

/-- 'multikernellaw10.RangeSplits': WHATEVER THE INPUT: true; the input reads as it did. -/
def rangeSplitsSpec : ChangeSpec := { name := "rangeSplits", fn := fun _ => fun
  | [d1, d2, d3] => { results := [.lit (.bool true)], args := [d1, d2, d3] }
  | _ => none }
def rangeSplitsRow : OpenClaim := { program := "ytoidpheldjllaaa", sum := "f737be5d235b51e1afd4b0564568412d3f0551b41f6ed28e63fda15566091f12", func := "multikernel/multikernellaw10.RangeSplits", spec := "rangeSplits", recurses := true, apart := false }
def RangeSplitsSaid : Prop := rangeSplitsRow.holds Try.pinned (OpenSpec.ofChange rangeSplitsSpec)

/-- ITS FALSE NEIGHBOUR: 'it returns false'. Refute it at one input. -/
def rangeSplitsWrong : ChangeSpec := { name := "rangeSplits", fn := fun _ => fun
  | [d1, d2, d3] => { results := [.lit (.bool false)], args := [d1, d2, d3] }
  | _ => none }
def RangeSplitsWrongFalsely : Prop := rangeSplitsRow.holds Try.pinned (OpenSpec.ofChange rangeSplitsWrong)

/-- 'multikernellaw10.RangeLowest': WHATEVER THE INPUT: true; the input reads as it did. -/
def rangeLowestSpec : ChangeSpec := { name := "rangeLowest", fn := fun _ => fun
  | [d1, d2, d3, d4] => { results := [.lit (.bool true)], args := [d1, d2, d3, d4] }
  | _ => none }
def rangeLowestRow : OpenClaim := { program := "ytoidpheldjllaaa", sum := "f737be5d235b51e1afd4b0564568412d3f0551b41f6ed28e63fda15566091f12", func := "multikernel/multikernellaw10.RangeLowest", spec := "rangeLowest", recurses := true, apart := false }
def RangeLowestSaid : Prop := rangeLowestRow.holds Try.pinned (OpenSpec.ofChange rangeLowestSpec)

/-- ITS FALSE NEIGHBOUR: 'it returns false'. Refute it at one input. -/
def rangeLowestWrong : ChangeSpec := { name := "rangeLowest", fn := fun _ => fun
  | [d1, d2, d3, d4] => { results := [.lit (.bool false)], args := [d1, d2, d3, d4] }
  | _ => none }
def RangeLowestWrongFalsely : Prop := rangeLowestRow.holds Try.pinned (OpenSpec.ofChange rangeLowestWrong)

/-- 'multikernellaw10.RangeAllocate': WHATEVER THE INPUT: true; the input reads as it did. -/
def rangeAllocateSpec : ChangeSpec := { name := "rangeAllocate", fn := fun _ => fun
  | [d1, d2, d3, d4] => { results := [.lit (.bool true)], args := [d1, d2, d3, d4] }
  | _ => none }
def rangeAllocateRow : OpenClaim := { program := "ytoidpheldjllaaa", sum := "f737be5d235b51e1afd4b0564568412d3f0551b41f6ed28e63fda15566091f12", func := "multikernel/multikernellaw10.RangeAllocate", spec := "rangeAllocate", recurses := true, apart := false }
def RangeAllocateSaid : Prop := rangeAllocateRow.holds Try.pinned (OpenSpec.ofChange rangeAllocateSpec)

/-- ITS FALSE NEIGHBOUR: 'it returns false'. Refute it at one input. -/
def rangeAllocateWrong : ChangeSpec := { name := "rangeAllocate", fn := fun _ => fun
  | [d1, d2, d3, d4] => { results := [.lit (.bool false)], args := [d1, d2, d3, d4] }
  | _ => none }
def RangeAllocateWrongFalsely : Prop := rangeAllocateRow.holds Try.pinned (OpenSpec.ofChange rangeAllocateWrong)

/-- 'multikernellaw10.RangeCoveredExact': WHATEVER THE INPUT: true; the input reads as it did. -/
def rangeCoveredExactSpec : ChangeSpec := { name := "rangeCoveredExact", fn := fun _ => fun
  | [d] => { results := [.lit (.bool true)], args := [d] }
  | _ => none }
def rangeCoveredExactRow : OpenClaim := { program := "ytoidpheldjllaaa", sum := "f737be5d235b51e1afd4b0564568412d3f0551b41f6ed28e63fda15566091f12", func := "multikernel/multikernellaw10.RangeCoveredExact", spec := "rangeCoveredExact", unfollowed := true, recurses := true, apart := false }
def RangeCoveredExactSaid : Prop := rangeCoveredExactRow.holds Try.pinned (OpenSpec.ofChange rangeCoveredExactSpec)

/-- ITS FALSE NEIGHBOUR: 'it returns false'. Refute it at one input. -/
def rangeCoveredExactWrong : ChangeSpec := { name := "rangeCoveredExact", fn := fun _ => fun
  | [d] => { results := [.lit (.bool false)], args := [d] }
  | _ => none }
def RangeCoveredExactWrongFalsely : Prop := rangeCoveredExactRow.holds Try.pinned (OpenSpec.ofChange rangeCoveredExactWrong)

/-- 'multikernellaw10.RangeHalves': WHATEVER THE INPUT: true; the input reads as it did. -/
def rangeHalvesSpec : ChangeSpec := { name := "rangeHalves", fn := fun _ => fun
  | [d1, d2] => { results := [.lit (.bool true)], args := [d1, d2] }
  | _ => none }
def rangeHalvesRow : OpenClaim := { program := "ytoidpheldjllaaa", sum := "f737be5d235b51e1afd4b0564568412d3f0551b41f6ed28e63fda15566091f12", func := "multikernel/multikernellaw10.RangeHalves", spec := "rangeHalves", unfollowed := true, recurses := true, apart := false }
def RangeHalvesSaid : Prop := rangeHalvesRow.holds Try.pinned (OpenSpec.ofChange rangeHalvesSpec)

/-- ITS FALSE NEIGHBOUR: 'it returns false'. Refute it at one input. -/
def rangeHalvesWrong : ChangeSpec := { name := "rangeHalves", fn := fun _ => fun
  | [d1, d2] => { results := [.lit (.bool false)], args := [d1, d2] }
  | _ => none }
def RangeHalvesWrongFalsely : Prop := rangeHalvesRow.holds Try.pinned (OpenSpec.ofChange rangeHalvesWrong)

/-- 'multikernellaw10.RangePartition': WHATEVER THE INPUT: true; the input reads as it did. -/
def rangePartitionSpec : ChangeSpec := { name := "rangePartition", fn := fun _ => fun
  | [d1, d2, d3] => { results := [.lit (.bool true)], args := [d1, d2, d3] }
  | _ => none }
def rangePartitionRow : OpenClaim := { program := "ytoidpheldjllaaa", sum := "f737be5d235b51e1afd4b0564568412d3f0551b41f6ed28e63fda15566091f12", func := "multikernel/multikernellaw10.RangePartition", spec := "rangePartition", unfollowed := true, recurses := true, apart := false }
def RangePartitionSaid : Prop := rangePartitionRow.holds Try.pinned (OpenSpec.ofChange rangePartitionSpec)

/-- ITS FALSE NEIGHBOUR: 'it returns false'. Refute it at one input. -/
def rangePartitionWrong : ChangeSpec := { name := "rangePartition", fn := fun _ => fun
  | [d1, d2, d3] => { results := [.lit (.bool false)], args := [d1, d2, d3] }
  | _ => none }
def RangePartitionWrongFalsely : Prop := rangePartitionRow.holds Try.pinned (OpenSpec.ofChange rangePartitionWrong)

/-- 'multikernellaw10.RangeCovered': WHATEVER THE INPUT: true; the input reads as it did. -/
def rangeCoveredSpec : ChangeSpec := { name := "rangeCovered", fn := fun _ => fun
  | [d1, d2, d3] => { results := [.lit (.bool true)], args := [d1, d2, d3] }
  | _ => none }
def rangeCoveredRow : OpenClaim := { program := "ytoidpheldjllaaa", sum := "f737be5d235b51e1afd4b0564568412d3f0551b41f6ed28e63fda15566091f12", func := "multikernel/multikernellaw10.RangeCovered", spec := "rangeCovered", unfollowed := true, recurses := true, apart := false }
def RangeCoveredSaid : Prop := rangeCoveredRow.holds Try.pinned (OpenSpec.ofChange rangeCoveredSpec)

/-- ITS FALSE NEIGHBOUR: 'it returns false'. Refute it at one input. -/
def rangeCoveredWrong : ChangeSpec := { name := "rangeCovered", fn := fun _ => fun
  | [d1, d2, d3] => { results := [.lit (.bool false)], args := [d1, d2, d3] }
  | _ => none }
def RangeCoveredWrongFalsely : Prop := rangeCoveredRow.holds Try.pinned (OpenSpec.ofChange rangeCoveredWrong)

/- THE SECOND FORM. 'bulk': how many values and letters a reading holds, each counted each time it is reached (what is shared counts as often as it is met; a slice's spare places count too). A statement '..UptoSaid' is the law's where the arguments, and the package variables that the reading takes, are together of bulk at most 1048576: NARROWER than '..Said'. Prove '..Said' where nothing that the law and all that it calls make is longer than what came in: it says more and counts as full. Else prove '..UptoSaid'. A law counts once. -/
mutual
def uptoBulk {H : Type} : DataW H → Nat
  | .lit (.string bytes) => bytes.length + 1
  | .lit _ => 1
  | .nil => 1
  | .ptr d => uptoBulk d + 1
  | .slice elems spare => uptoBulkAll elems + uptoBulkAll spare + 1
  | .agg parts => uptoBulkAll parts + 1
  | .iface _ d => uptoBulk d + 1
  | .map entries => uptoBulkEntries entries + 1
  | .held _ => 1
def uptoBulkAll {H : Type} : List (DataW H) → Nat
  | [] => 0
  | d :: r => uptoBulk d + uptoBulkAll r
def uptoBulkEntries {H : Type} : List (Lit × DataW H) → Nat
  | [] => 0
  | x :: r => uptoBulkEntry x + uptoBulkEntries r
def uptoBulkEntry {H : Type} : Lit × DataW H → Nat
  | (.string bytes, d) => bytes.length + uptoBulk d + 1
  | (_, d) => uptoBulk d + 1
 end
def uptoSmall : (H : Type) → List (DataW H) → Bool := fun _ ds => decide (uptoBulkAll ds ≤ 1048576)
def OpenSpec.upto (s : _root_.Go.ChangeSpec) : _root_.Go.OpenSpec := { _root_.Go.OpenSpec.ofChange s with cond := some uptoSmall }

/-- 'multikernellaw10.RangeExact', WHERE WHAT IT READS IS OF BULK AT MOST 1048576: true; the input reads as it did. -/
def rangeExactUptoRow : OpenClaim := { program := "ytoidpheldjllaaa", sum := "f737be5d235b51e1afd4b0564568412d3f0551b41f6ed28e63fda15566091f12", func := "multikernel/multikernellaw10.RangeExact", spec := "rangeExact", recurses := true, apart := false, narrowed := true }
def RangeExactUptoSaid : Prop := rangeExactUptoRow.holds Try.pinned (OpenSpec.upto rangeExactSpec)

/-- 'multikernellaw10.RangeFreeExact', WHERE WHAT IT READS IS OF BULK AT MOST 1048576: true; the input reads as it did. -/
def rangeFreeExactUptoRow : OpenClaim := { program := "ytoidpheldjllaaa", sum := "f737be5d235b51e1afd4b0564568412d3f0551b41f6ed28e63fda15566091f12", func := "multikernel/multikernellaw10.RangeFreeExact", spec := "rangeFreeExact", recurses := true, apart := false, narrowed := true }
def RangeFreeExactUptoSaid : Prop := rangeFreeExactUptoRow.holds Try.pinned (OpenSpec.upto rangeFreeExactSpec)

/-- 'multikernellaw10.RangeFindExact', WHERE WHAT IT READS IS OF BULK AT MOST 1048576: true; the input reads as it did. -/
def rangeFindExactUptoRow : OpenClaim := { program := "ytoidpheldjllaaa", sum := "f737be5d235b51e1afd4b0564568412d3f0551b41f6ed28e63fda15566091f12", func := "multikernel/multikernellaw10.RangeFindExact", spec := "rangeFindExact", recurses := true, apart := false, narrowed := true }
def RangeFindExactUptoSaid : Prop := rangeFindExactUptoRow.holds Try.pinned (OpenSpec.upto rangeFindExactSpec)

/-- 'multikernellaw10.RangeNested', WHERE WHAT IT READS IS OF BULK AT MOST 1048576: true; the input reads as it did. -/
def rangeNestedUptoRow : OpenClaim := { program := "ytoidpheldjllaaa", sum := "f737be5d235b51e1afd4b0564568412d3f0551b41f6ed28e63fda15566091f12", func := "multikernel/multikernellaw10.RangeNested", spec := "rangeNested", recurses := true, apart := false, narrowed := true }
def RangeNestedUptoSaid : Prop := rangeNestedUptoRow.holds Try.pinned (OpenSpec.upto rangeNestedSpec)

/-- 'multikernellaw10.RangeMaximal', WHERE WHAT IT READS IS OF BULK AT MOST 1048576: true; the input reads as it did. -/
def rangeMaximalUptoRow : OpenClaim := { program := "ytoidpheldjllaaa", sum := "f737be5d235b51e1afd4b0564568412d3f0551b41f6ed28e63fda15566091f12", func := "multikernel/multikernellaw10.RangeMaximal", spec := "rangeMaximal", recurses := true, apart := false, narrowed := true }
def RangeMaximalUptoSaid : Prop := rangeMaximalUptoRow.holds Try.pinned (OpenSpec.upto rangeMaximalSpec)

/-- 'multikernellaw10.RangeSplits', WHERE WHAT IT READS IS OF BULK AT MOST 1048576: true; the input reads as it did. -/
def rangeSplitsUptoRow : OpenClaim := { program := "ytoidpheldjllaaa", sum := "f737be5d235b51e1afd4b0564568412d3f0551b41f6ed28e63fda15566091f12", func := "multikernel/multikernellaw10.RangeSplits", spec := "rangeSplits", recurses := true, apart := false, narrowed := true }
def RangeSplitsUptoSaid : Prop := rangeSplitsUptoRow.holds Try.pinned (OpenSpec.upto rangeSplitsSpec)

/-- 'multikernellaw10.RangeLowest', WHERE WHAT IT READS IS OF BULK AT MOST 1048576: true; the input reads as it did. -/
def rangeLowestUptoRow : OpenClaim := { program := "ytoidpheldjllaaa", sum := "f737be5d235b51e1afd4b0564568412d3f0551b41f6ed28e63fda15566091f12", func := "multikernel/multikernellaw10.RangeLowest", spec := "rangeLowest", recurses := true, apart := false, narrowed := true }
def RangeLowestUptoSaid : Prop := rangeLowestUptoRow.holds Try.pinned (OpenSpec.upto rangeLowestSpec)

/-- 'multikernellaw10.RangeAllocate', WHERE WHAT IT READS IS OF BULK AT MOST 1048576: true; the input reads as it did. -/
def rangeAllocateUptoRow : OpenClaim := { program := "ytoidpheldjllaaa", sum := "f737be5d235b51e1afd4b0564568412d3f0551b41f6ed28e63fda15566091f12", func := "multikernel/multikernellaw10.RangeAllocate", spec := "rangeAllocate", recurses := true, apart := false, narrowed := true }
def RangeAllocateUptoSaid : Prop := rangeAllocateUptoRow.holds Try.pinned (OpenSpec.upto rangeAllocateSpec)

/-- 'multikernellaw10.RangeCoveredExact', WHERE WHAT IT READS IS OF BULK AT MOST 1048576: true; the input reads as it did. -/
def rangeCoveredExactUptoRow : OpenClaim := { program := "ytoidpheldjllaaa", sum := "f737be5d235b51e1afd4b0564568412d3f0551b41f6ed28e63fda15566091f12", func := "multikernel/multikernellaw10.RangeCoveredExact", spec := "rangeCoveredExact", unfollowed := true, recurses := true, apart := false, narrowed := true }
def RangeCoveredExactUptoSaid : Prop := rangeCoveredExactUptoRow.holds Try.pinned (OpenSpec.upto rangeCoveredExactSpec)

/-- 'multikernellaw10.RangeHalves', WHERE WHAT IT READS IS OF BULK AT MOST 1048576: true; the input reads as it did. -/
def rangeHalvesUptoRow : OpenClaim := { program := "ytoidpheldjllaaa", sum := "f737be5d235b51e1afd4b0564568412d3f0551b41f6ed28e63fda15566091f12", func := "multikernel/multikernellaw10.RangeHalves", spec := "rangeHalves", unfollowed := true, recurses := true, apart := false, narrowed := true }
def RangeHalvesUptoSaid : Prop := rangeHalvesUptoRow.holds Try.pinned (OpenSpec.upto rangeHalvesSpec)

/-- 'multikernellaw10.RangePartition', WHERE WHAT IT READS IS OF BULK AT MOST 1048576: true; the input reads as it did. -/
def rangePartitionUptoRow : OpenClaim := { program := "ytoidpheldjllaaa", sum := "f737be5d235b51e1afd4b0564568412d3f0551b41f6ed28e63fda15566091f12", func := "multikernel/multikernellaw10.RangePartition", spec := "rangePartition", unfollowed := true, recurses := true, apart := false, narrowed := true }
def RangePartitionUptoSaid : Prop := rangePartitionUptoRow.holds Try.pinned (OpenSpec.upto rangePartitionSpec)

/-- 'multikernellaw10.RangeCovered', WHERE WHAT IT READS IS OF BULK AT MOST 1048576: true; the input reads as it did. -/
def rangeCoveredUptoRow : OpenClaim := { program := "ytoidpheldjllaaa", sum := "f737be5d235b51e1afd4b0564568412d3f0551b41f6ed28e63fda15566091f12", func := "multikernel/multikernellaw10.RangeCovered", spec := "rangeCovered", unfollowed := true, recurses := true, apart := false, narrowed := true }
def RangeCoveredUptoSaid : Prop := rangeCoveredUptoRow.holds Try.pinned (OpenSpec.upto rangeCoveredSpec)

end Rows
end Go.Proofs.Ytoidpheldjllaaa
