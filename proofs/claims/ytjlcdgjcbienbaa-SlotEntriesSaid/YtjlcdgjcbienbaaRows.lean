/-
  No cell of these rows narrows 'for every input' (looked for: loops, veiled, ifaces, maps, wideKeys, modest, calm, conditions, laid).
  DERIVED. THE GIVEN ROWS OF THIS SEAT. 9 by the template 'for every input the law returns true; each argument reads behind the call as it read before'; 0 by the template 'total and deterministic' (their statements: YtjlcdgjcbienbaaTotals.lean).
  GIVEN WITH THE SEED: the statements are not yours to turn. If you find one false, say at which input.
  Laid BY PROGRAM, IN A SANDBOX (cutbox-rows.mjs): the forced cells as the released guide's own fill.sh prints them over the translation dc242690fa6a8216… (all of the seat's roots in one cut). By AI agents, Wed Nov 11 2026. No macro, syntax, notation, axiom, sorry.
-/
import Derived.Test.YtjlcdgjcbienbaaChecked
import GoSem.Claim
import GoSem.ClaimJoined
import GoSem.ClaimMapViews
import Derived.JoinedTies
import Derived.KernelRfl
namespace Go.Proofs.Ytjlcdgjcbienbaa
/- THE CELL 'sum', in the pinned program and in every row, IS THE sha256 OF THE DUMP (.gsa) THAT YtjlcdgjcbienbaaProg.lean LOADS. Nothing in Lean hashes anything: it is a label: what it is worth is what the hold of that sum in a sandbox is worth. -/
noncomputable def Try.pinned : Pinned := { name := "ytjlcdgjcbienbaa", sum := "dc242690fa6a8216bc9fd646187e5c8aaea2c22c47c08e2a27f53eb72ea0117c", checked := Try.checked }
namespace Rows
def none {H : Type} : Left H := { results := [], args := [] }

/-- 'multikernellaw14.SlotValidExact': WHATEVER THE INPUT: true; the input reads as it did. -/
def slotValidExactSpec : ChangeSpec := { name := "slotValidExact", fn := fun _ => fun
  | [d1, d2, d3, d4, d5, d6, d7] => { results := [.lit (.bool true)], args := [d1, d2, d3, d4, d5, d6, d7] }
  | _ => none }
def slotValidExactRow : OpenClaim := { program := "ytjlcdgjcbienbaa", sum := "dc242690fa6a8216bc9fd646187e5c8aaea2c22c47c08e2a27f53eb72ea0117c", func := "multikernel/multikernellaw14.SlotValidExact", spec := "slotValidExact", apart := false }
def SlotValidExactSaid : Prop := slotValidExactRow.holds Try.pinned (OpenSpec.ofChange slotValidExactSpec)

/-- ITS FALSE NEIGHBOUR: 'it returns false'. Refute it at one input. -/
def slotValidExactWrong : ChangeSpec := { name := "slotValidExact", fn := fun _ => fun
  | [d1, d2, d3, d4, d5, d6, d7] => { results := [.lit (.bool false)], args := [d1, d2, d3, d4, d5, d6, d7] }
  | _ => none }
def SlotValidExactWrongFalsely : Prop := slotValidExactRow.holds Try.pinned (OpenSpec.ofChange slotValidExactWrong)

/-- 'multikernellaw14.SlotReserveExact': WHATEVER THE INPUT: true; the input reads as it did. -/
def slotReserveExactSpec : ChangeSpec := { name := "slotReserveExact", fn := fun _ => fun
  | [d1, d2, d3] => { results := [.lit (.bool true)], args := [d1, d2, d3] }
  | _ => none }
def slotReserveExactRow : OpenClaim := { program := "ytjlcdgjcbienbaa", sum := "dc242690fa6a8216bc9fd646187e5c8aaea2c22c47c08e2a27f53eb72ea0117c", func := "multikernel/multikernellaw14.SlotReserveExact", spec := "slotReserveExact", apart := false }
def SlotReserveExactSaid : Prop := slotReserveExactRow.holds Try.pinned (OpenSpec.ofChange slotReserveExactSpec)

/-- ITS FALSE NEIGHBOUR: 'it returns false'. Refute it at one input. -/
def slotReserveExactWrong : ChangeSpec := { name := "slotReserveExact", fn := fun _ => fun
  | [d1, d2, d3] => { results := [.lit (.bool false)], args := [d1, d2, d3] }
  | _ => none }
def SlotReserveExactWrongFalsely : Prop := slotReserveExactRow.holds Try.pinned (OpenSpec.ofChange slotReserveExactWrong)

/-- 'multikernellaw14.SlotReserveRelease': WHATEVER THE INPUT: true; the input reads as it did. -/
def slotReserveReleaseSpec : ChangeSpec := { name := "slotReserveRelease", fn := fun _ => fun
  | [d1, d2, d3, d4] => { results := [.lit (.bool true)], args := [d1, d2, d3, d4] }
  | _ => none }
def slotReserveReleaseRow : OpenClaim := { program := "ytjlcdgjcbienbaa", sum := "dc242690fa6a8216bc9fd646187e5c8aaea2c22c47c08e2a27f53eb72ea0117c", func := "multikernel/multikernellaw14.SlotReserveRelease", spec := "slotReserveRelease", apart := false }
def SlotReserveReleaseSaid : Prop := slotReserveReleaseRow.holds Try.pinned (OpenSpec.ofChange slotReserveReleaseSpec)

/-- ITS FALSE NEIGHBOUR: 'it returns false'. Refute it at one input. -/
def slotReserveReleaseWrong : ChangeSpec := { name := "slotReserveRelease", fn := fun _ => fun
  | [d1, d2, d3, d4] => { results := [.lit (.bool false)], args := [d1, d2, d3, d4] }
  | _ => none }
def SlotReserveReleaseWrongFalsely : Prop := slotReserveReleaseRow.holds Try.pinned (OpenSpec.ofChange slotReserveReleaseWrong)

/-- 'multikernellaw14.SlotPutExact': WHATEVER THE INPUT: true; the input reads as it did. -/
def slotPutExactSpec : ChangeSpec := { name := "slotPutExact", fn := fun _ => fun
  | [d1, d2, d3] => { results := [.lit (.bool true)], args := [d1, d2, d3] }
  | _ => none }
def slotPutExactRow : OpenClaim := { program := "ytjlcdgjcbienbaa", sum := "dc242690fa6a8216bc9fd646187e5c8aaea2c22c47c08e2a27f53eb72ea0117c", func := "multikernel/multikernellaw14.SlotPutExact", spec := "slotPutExact", apart := false }
def SlotPutExactSaid : Prop := slotPutExactRow.holds Try.pinned (OpenSpec.ofChange slotPutExactSpec)

/-- ITS FALSE NEIGHBOUR: 'it returns false'. Refute it at one input. -/
def slotPutExactWrong : ChangeSpec := { name := "slotPutExact", fn := fun _ => fun
  | [d1, d2, d3] => { results := [.lit (.bool false)], args := [d1, d2, d3] }
  | _ => none }
def SlotPutExactWrongFalsely : Prop := slotPutExactRow.holds Try.pinned (OpenSpec.ofChange slotPutExactWrong)

/-- 'multikernellaw14.SlotPutTake': WHATEVER THE INPUT: true; the input reads as it did. -/
def slotPutTakeSpec : ChangeSpec := { name := "slotPutTake", fn := fun _ => fun
  | [d1, d2, d3, d4] => { results := [.lit (.bool true)], args := [d1, d2, d3, d4] }
  | _ => none }
def slotPutTakeRow : OpenClaim := { program := "ytjlcdgjcbienbaa", sum := "dc242690fa6a8216bc9fd646187e5c8aaea2c22c47c08e2a27f53eb72ea0117c", func := "multikernel/multikernellaw14.SlotPutTake", spec := "slotPutTake", apart := false }
def SlotPutTakeSaid : Prop := slotPutTakeRow.holds Try.pinned (OpenSpec.ofChange slotPutTakeSpec)

/-- ITS FALSE NEIGHBOUR: 'it returns false'. Refute it at one input. -/
def slotPutTakeWrong : ChangeSpec := { name := "slotPutTake", fn := fun _ => fun
  | [d1, d2, d3, d4] => { results := [.lit (.bool false)], args := [d1, d2, d3, d4] }
  | _ => none }
def SlotPutTakeWrongFalsely : Prop := slotPutTakeRow.holds Try.pinned (OpenSpec.ofChange slotPutTakeWrong)

/-- 'multikernellaw14.SlotLockExact': WHATEVER THE INPUT: true; the input reads as it did. -/
def slotLockExactSpec : ChangeSpec := { name := "slotLockExact", fn := fun _ => fun
  | [d1, d2, d3] => { results := [.lit (.bool true)], args := [d1, d2, d3] }
  | _ => none }
def slotLockExactRow : OpenClaim := { program := "ytjlcdgjcbienbaa", sum := "dc242690fa6a8216bc9fd646187e5c8aaea2c22c47c08e2a27f53eb72ea0117c", func := "multikernel/multikernellaw14.SlotLockExact", spec := "slotLockExact", apart := false }
def SlotLockExactSaid : Prop := slotLockExactRow.holds Try.pinned (OpenSpec.ofChange slotLockExactSpec)

/-- ITS FALSE NEIGHBOUR: 'it returns false'. Refute it at one input. -/
def slotLockExactWrong : ChangeSpec := { name := "slotLockExact", fn := fun _ => fun
  | [d1, d2, d3] => { results := [.lit (.bool false)], args := [d1, d2, d3] }
  | _ => none }
def SlotLockExactWrongFalsely : Prop := slotLockExactRow.holds Try.pinned (OpenSpec.ofChange slotLockExactWrong)

/-- 'multikernellaw14.SlotLockSweep': WHATEVER THE INPUT: true; the input reads as it did. -/
def slotLockSweepSpec : ChangeSpec := { name := "slotLockSweep", fn := fun _ => fun
  | [d1, d2, d3] => { results := [.lit (.bool true)], args := [d1, d2, d3] }
  | _ => none }
def slotLockSweepRow : OpenClaim := { program := "ytjlcdgjcbienbaa", sum := "dc242690fa6a8216bc9fd646187e5c8aaea2c22c47c08e2a27f53eb72ea0117c", func := "multikernel/multikernellaw14.SlotLockSweep", spec := "slotLockSweep", apart := false }
def SlotLockSweepSaid : Prop := slotLockSweepRow.holds Try.pinned (OpenSpec.ofChange slotLockSweepSpec)

/-- ITS FALSE NEIGHBOUR: 'it returns false'. Refute it at one input. -/
def slotLockSweepWrong : ChangeSpec := { name := "slotLockSweep", fn := fun _ => fun
  | [d1, d2, d3] => { results := [.lit (.bool false)], args := [d1, d2, d3] }
  | _ => none }
def SlotLockSweepWrongFalsely : Prop := slotLockSweepRow.holds Try.pinned (OpenSpec.ofChange slotLockSweepWrong)

/-- 'multikernellaw14.SlotEntriesExact': WHATEVER THE INPUT: true; the input reads as it did. -/
def slotEntriesExactSpec : ChangeSpec := { name := "slotEntriesExact", fn := fun _ => fun
  | [d1, d2] => { results := [.lit (.bool true)], args := [d1, d2] }
  | _ => none }
def slotEntriesExactRow : OpenClaim := { program := "ytjlcdgjcbienbaa", sum := "dc242690fa6a8216bc9fd646187e5c8aaea2c22c47c08e2a27f53eb72ea0117c", func := "multikernel/multikernellaw14.SlotEntriesExact", spec := "slotEntriesExact", unfollowed := true, recurses := true, apart := false }
def SlotEntriesExactSaid : Prop := slotEntriesExactRow.holds Try.pinned (OpenSpec.ofChange slotEntriesExactSpec)

/-- ITS FALSE NEIGHBOUR: 'it returns false'. Refute it at one input. -/
def slotEntriesExactWrong : ChangeSpec := { name := "slotEntriesExact", fn := fun _ => fun
  | [d1, d2] => { results := [.lit (.bool false)], args := [d1, d2] }
  | _ => none }
def SlotEntriesExactWrongFalsely : Prop := slotEntriesExactRow.holds Try.pinned (OpenSpec.ofChange slotEntriesExactWrong)

/-- 'multikernellaw14.SlotEntries': WHATEVER THE INPUT: true; the input reads as it did. -/
def slotEntriesSpec : ChangeSpec := { name := "slotEntries", fn := fun _ => fun
  | [d1, d2, d3, d4] => { results := [.lit (.bool true)], args := [d1, d2, d3, d4] }
  | _ => none }
def slotEntriesRow : OpenClaim := { program := "ytjlcdgjcbienbaa", sum := "dc242690fa6a8216bc9fd646187e5c8aaea2c22c47c08e2a27f53eb72ea0117c", func := "multikernel/multikernellaw14.SlotEntries", spec := "slotEntries", unfollowed := true, recurses := true, apart := false }
def SlotEntriesSaid : Prop := slotEntriesRow.holds Try.pinned (OpenSpec.ofChange slotEntriesSpec)

/-- ITS FALSE NEIGHBOUR: 'it returns false'. Refute it at one input. -/
def slotEntriesWrong : ChangeSpec := { name := "slotEntries", fn := fun _ => fun
  | [d1, d2, d3, d4] => { results := [.lit (.bool false)], args := [d1, d2, d3, d4] }
  | _ => none }
def SlotEntriesWrongFalsely : Prop := slotEntriesRow.holds Try.pinned (OpenSpec.ofChange slotEntriesWrong)

/- THE SECOND FORM. 'bulk': how many values and letters a reading holds, each counted each time it is reached (what is shared counts as often as it is met; a slice's spare places count too). A statement '..UptoSaid' is the law's where the arguments, and the package variables that the reading takes, are together of bulk at most 1048576: NARROWER than '..Said'. Prove '..Said' where nothing that the law and all that it calls make is longer than what came in: it says more and counts as full. Else prove '..UptoSaid'. A law counts once. -/
mutual
def uptoBulk {H : Type} : DataW H → Nat
  | .lit (.string bytes) => bytes.length + 1
  | .lit _ => 1
  | .nil => 1
  | .ptr d => uptoBulk d + 1
  | .slice elems spare => uptoBulkAll elems + uptoBulkAll spare + 1
  | .agg parts => uptoBulkAll parts + 1
  | .iface _ d => uptoBulk d + 1
  | .map entries => uptoBulkEntries entries + 1
  | .held _ => 1
def uptoBulkAll {H : Type} : List (DataW H) → Nat
  | [] => 0
  | d :: r => uptoBulk d + uptoBulkAll r
def uptoBulkEntries {H : Type} : List (Lit × DataW H) → Nat
  | [] => 0
  | x :: r => uptoBulkEntry x + uptoBulkEntries r
def uptoBulkEntry {H : Type} : Lit × DataW H → Nat
  | (.string bytes, d) => bytes.length + uptoBulk d + 1
  | (_, d) => uptoBulk d + 1
 end
def uptoSmall : (H : Type) → List (DataW H) → Bool := fun _ ds => decide (uptoBulkAll ds ≤ 1048576)
def OpenSpec.upto (s : _root_.Go.ChangeSpec) : _root_.Go.OpenSpec := { _root_.Go.OpenSpec.ofChange s with cond := some uptoSmall }

/-- 'multikernellaw14.SlotValidExact', WHERE WHAT IT READS IS OF BULK AT MOST 1048576: true; the input reads as it did. -/
def slotValidExactUptoRow : OpenClaim := { program := "ytjlcdgjcbienbaa", sum := "dc242690fa6a8216bc9fd646187e5c8aaea2c22c47c08e2a27f53eb72ea0117c", func := "multikernel/multikernellaw14.SlotValidExact", spec := "slotValidExact", apart := false, narrowed := true }
def SlotValidExactUptoSaid : Prop := slotValidExactUptoRow.holds Try.pinned (OpenSpec.upto slotValidExactSpec)

/-- 'multikernellaw14.SlotReserveExact', WHERE WHAT IT READS IS OF BULK AT MOST 1048576: true; the input reads as it did. -/
def slotReserveExactUptoRow : OpenClaim := { program := "ytjlcdgjcbienbaa", sum := "dc242690fa6a8216bc9fd646187e5c8aaea2c22c47c08e2a27f53eb72ea0117c", func := "multikernel/multikernellaw14.SlotReserveExact", spec := "slotReserveExact", apart := false, narrowed := true }
def SlotReserveExactUptoSaid : Prop := slotReserveExactUptoRow.holds Try.pinned (OpenSpec.upto slotReserveExactSpec)

/-- 'multikernellaw14.SlotReserveRelease', WHERE WHAT IT READS IS OF BULK AT MOST 1048576: true; the input reads as it did. -/
def slotReserveReleaseUptoRow : OpenClaim := { program := "ytjlcdgjcbienbaa", sum := "dc242690fa6a8216bc9fd646187e5c8aaea2c22c47c08e2a27f53eb72ea0117c", func := "multikernel/multikernellaw14.SlotReserveRelease", spec := "slotReserveRelease", apart := false, narrowed := true }
def SlotReserveReleaseUptoSaid : Prop := slotReserveReleaseUptoRow.holds Try.pinned (OpenSpec.upto slotReserveReleaseSpec)

/-- 'multikernellaw14.SlotPutExact', WHERE WHAT IT READS IS OF BULK AT MOST 1048576: true; the input reads as it did. -/
def slotPutExactUptoRow : OpenClaim := { program := "ytjlcdgjcbienbaa", sum := "dc242690fa6a8216bc9fd646187e5c8aaea2c22c47c08e2a27f53eb72ea0117c", func := "multikernel/multikernellaw14.SlotPutExact", spec := "slotPutExact", apart := false, narrowed := true }
def SlotPutExactUptoSaid : Prop := slotPutExactUptoRow.holds Try.pinned (OpenSpec.upto slotPutExactSpec)

/-- 'multikernellaw14.SlotPutTake', WHERE WHAT IT READS IS OF BULK AT MOST 1048576: true; the input reads as it did. -/
def slotPutTakeUptoRow : OpenClaim := { program := "ytjlcdgjcbienbaa", sum := "dc242690fa6a8216bc9fd646187e5c8aaea2c22c47c08e2a27f53eb72ea0117c", func := "multikernel/multikernellaw14.SlotPutTake", spec := "slotPutTake", apart := false, narrowed := true }
def SlotPutTakeUptoSaid : Prop := slotPutTakeUptoRow.holds Try.pinned (OpenSpec.upto slotPutTakeSpec)

/-- 'multikernellaw14.SlotLockExact', WHERE WHAT IT READS IS OF BULK AT MOST 1048576: true; the input reads as it did. -/
def slotLockExactUptoRow : OpenClaim := { program := "ytjlcdgjcbienbaa", sum := "dc242690fa6a8216bc9fd646187e5c8aaea2c22c47c08e2a27f53eb72ea0117c", func := "multikernel/multikernellaw14.SlotLockExact", spec := "slotLockExact", apart := false, narrowed := true }
def SlotLockExactUptoSaid : Prop := slotLockExactUptoRow.holds Try.pinned (OpenSpec.upto slotLockExactSpec)

/-- 'multikernellaw14.SlotLockSweep', WHERE WHAT IT READS IS OF BULK AT MOST 1048576: true; the input reads as it did. -/
def slotLockSweepUptoRow : OpenClaim := { program := "ytjlcdgjcbienbaa", sum := "dc242690fa6a8216bc9fd646187e5c8aaea2c22c47c08e2a27f53eb72ea0117c", func := "multikernel/multikernellaw14.SlotLockSweep", spec := "slotLockSweep", apart := false, narrowed := true }
def SlotLockSweepUptoSaid : Prop := slotLockSweepUptoRow.holds Try.pinned (OpenSpec.upto slotLockSweepSpec)

/-- 'multikernellaw14.SlotEntriesExact', WHERE WHAT IT READS IS OF BULK AT MOST 1048576: true; the input reads as it did. -/
def slotEntriesExactUptoRow : OpenClaim := { program := "ytjlcdgjcbienbaa", sum := "dc242690fa6a8216bc9fd646187e5c8aaea2c22c47c08e2a27f53eb72ea0117c", func := "multikernel/multikernellaw14.SlotEntriesExact", spec := "slotEntriesExact", unfollowed := true, recurses := true, apart := false, narrowed := true }
def SlotEntriesExactUptoSaid : Prop := slotEntriesExactUptoRow.holds Try.pinned (OpenSpec.upto slotEntriesExactSpec)

/-- 'multikernellaw14.SlotEntries', WHERE WHAT IT READS IS OF BULK AT MOST 1048576: true; the input reads as it did. -/
def slotEntriesUptoRow : OpenClaim := { program := "ytjlcdgjcbienbaa", sum := "dc242690fa6a8216bc9fd646187e5c8aaea2c22c47c08e2a27f53eb72ea0117c", func := "multikernel/multikernellaw14.SlotEntries", spec := "slotEntries", unfollowed := true, recurses := true, apart := false, narrowed := true }
def SlotEntriesUptoSaid : Prop := slotEntriesUptoRow.holds Try.pinned (OpenSpec.upto slotEntriesSpec)

end Rows
end Go.Proofs.Ytjlcdgjcbienbaa
