/-
  No cell of these rows narrows 'for every input' (looked for: loops, veiled, ifaces, maps, wideKeys, modest, calm, conditions, laid).
  DERIVED. THE GIVEN ROWS OF THIS SEAT. 7 by the template 'for every input the law returns true; each argument reads behind the call as it read before'; 0 by the template 'total and deterministic' (their statements: YtmdmmikpmhopkaaTotals.lean).
  GIVEN WITH THE SEED: the statements are not yours to turn. If you find one false, say at which input.
  Laid BY PROGRAM, IN A SANDBOX (cutbox-rows.mjs): the forced cells as the released guide's own fill.sh prints them over the translation febf4a5118575006… (all of the seat's roots in one cut). By AI agents, Wed Nov 11 2026. No macro, syntax, notation, axiom, sorry.
-/
import Derived.Test.YtmdmmikpmhopkaaChecked
import GoSem.Claim
import GoSem.ClaimJoined
import GoSem.ClaimMapViews
import Derived.JoinedTies
import Derived.KernelRfl
namespace Go.Proofs.Ytmdmmikpmhopkaa
/- THE CELL 'sum', in the pinned program and in every row, IS THE sha256 OF THE DUMP (.gsa) THAT YtmdmmikpmhopkaaProg.lean LOADS. Nothing in Lean hashes anything: it is a label: what it is worth is what the hold of that sum in a sandbox is worth. -/
noncomputable def Try.pinned : Pinned := { name := "ytmdmmikpmhopkaa", sum := "febf4a5118575006b1cf972f32880ce4248e7ed87ddf5bed72045ca62d725cf8", checked := Try.checked }
namespace Rows
def none {H : Type} : Left H := { results := [], args := [] }

/-- 'multikernellaw30.SchedFair': WHATEVER THE INPUT: true; the input reads as it did. -/
def schedFairSpec : ChangeSpec := { name := "schedFair", fn := fun _ => fun
  | [d1, d2, d3, d4] => { results := [.lit (.bool true)], args := [d1, d2, d3, d4] }
  | _ => none }
def schedFairRow : OpenClaim := { program := "ytmdmmikpmhopkaa", sum := "febf4a5118575006b1cf972f32880ce4248e7ed87ddf5bed72045ca62d725cf8", func := "multikernel/multikernellaw30.SchedFair", spec := "schedFair", inPlace := ["slices.overlaps[multikernel/api.Dispatcher]"], unfollowed := true, recurses := true, apart := false }
def SchedFairSaid : Prop := schedFairRow.holds Try.pinned (OpenSpec.ofChange schedFairSpec)

/-- ITS FALSE NEIGHBOUR: 'it returns false'. Refute it at one input. -/
def schedFairWrong : ChangeSpec := { name := "schedFair", fn := fun _ => fun
  | [d1, d2, d3, d4] => { results := [.lit (.bool false)], args := [d1, d2, d3, d4] }
  | _ => none }
def SchedFairWrongFalsely : Prop := schedFairRow.holds Try.pinned (OpenSpec.ofChange schedFairWrong)

/-- 'multikernellaw30.SchedAdmission': WHATEVER THE INPUT: true; the input reads as it did. -/
def schedAdmissionSpec : ChangeSpec := { name := "schedAdmission", fn := fun _ => fun
  | [d1, d2, d3] => { results := [.lit (.bool true)], args := [d1, d2, d3] }
  | _ => none }
def schedAdmissionRow : OpenClaim := { program := "ytmdmmikpmhopkaa", sum := "febf4a5118575006b1cf972f32880ce4248e7ed87ddf5bed72045ca62d725cf8", func := "multikernel/multikernellaw30.SchedAdmission", spec := "schedAdmission", inPlace := ["slices.overlaps[multikernel/api.Dispatcher]"], unfollowed := true, recurses := true, apart := false }
def SchedAdmissionSaid : Prop := schedAdmissionRow.holds Try.pinned (OpenSpec.ofChange schedAdmissionSpec)

/-- ITS FALSE NEIGHBOUR: 'it returns false'. Refute it at one input. -/
def schedAdmissionWrong : ChangeSpec := { name := "schedAdmission", fn := fun _ => fun
  | [d1, d2, d3] => { results := [.lit (.bool false)], args := [d1, d2, d3] }
  | _ => none }
def SchedAdmissionWrongFalsely : Prop := schedAdmissionRow.holds Try.pinned (OpenSpec.ofChange schedAdmissionWrong)

/-- 'multikernellaw30.SchedExact': WHATEVER THE INPUT: true; the input reads as it did. -/
def schedExactSpec : ChangeSpec := { name := "schedExact", fn := fun _ => fun
  | [d1, d2, d3, d4, d5, d6] => { results := [.lit (.bool true)], args := [d1, d2, d3, d4, d5, d6] }
  | _ => none }
def schedExactRow : OpenClaim := { program := "ytmdmmikpmhopkaa", sum := "febf4a5118575006b1cf972f32880ce4248e7ed87ddf5bed72045ca62d725cf8", func := "multikernel/multikernellaw30.SchedExact", spec := "schedExact", inPlace := ["slices.overlaps[multikernel/api.Dispatcher]"], unfollowed := true, recurses := true, apart := false }
def SchedExactSaid : Prop := schedExactRow.holds Try.pinned (OpenSpec.ofChange schedExactSpec)

/-- ITS FALSE NEIGHBOUR: 'it returns false'. Refute it at one input. -/
def schedExactWrong : ChangeSpec := { name := "schedExact", fn := fun _ => fun
  | [d1, d2, d3, d4, d5, d6] => { results := [.lit (.bool false)], args := [d1, d2, d3, d4, d5, d6] }
  | _ => none }
def SchedExactWrongFalsely : Prop := schedExactRow.holds Try.pinned (OpenSpec.ofChange schedExactWrong)

/-- 'multikernellaw30.SchedGuarantee': WHATEVER THE INPUT: true; the input reads as it did. -/
def schedGuaranteeSpec : ChangeSpec := { name := "schedGuarantee", fn := fun _ => fun
  | [d] => { results := [.lit (.bool true)], args := [d] }
  | _ => none }
def schedGuaranteeRow : OpenClaim := { program := "ytmdmmikpmhopkaa", sum := "febf4a5118575006b1cf972f32880ce4248e7ed87ddf5bed72045ca62d725cf8", func := "multikernel/multikernellaw30.SchedGuarantee", spec := "schedGuarantee", inPlace := ["slices.overlaps[multikernel/api.Dispatcher]"], unfollowed := true, recurses := true, apart := false }
def SchedGuaranteeSaid : Prop := schedGuaranteeRow.holds Try.pinned (OpenSpec.ofChange schedGuaranteeSpec)

/-- ITS FALSE NEIGHBOUR: 'it returns false'. Refute it at one input. -/
def schedGuaranteeWrong : ChangeSpec := { name := "schedGuarantee", fn := fun _ => fun
  | [d] => { results := [.lit (.bool false)], args := [d] }
  | _ => none }
def SchedGuaranteeWrongFalsely : Prop := schedGuaranteeRow.holds Try.pinned (OpenSpec.ofChange schedGuaranteeWrong)

/-- 'multikernellaw30.SchedValid': WHATEVER THE INPUT: true; the input reads as it did. -/
def schedValidSpec : ChangeSpec := { name := "schedValid", fn := fun _ => fun
  | [d] => { results := [.lit (.bool true)], args := [d] }
  | _ => none }
def schedValidRow : OpenClaim := { program := "ytmdmmikpmhopkaa", sum := "febf4a5118575006b1cf972f32880ce4248e7ed87ddf5bed72045ca62d725cf8", func := "multikernel/multikernellaw30.SchedValid", spec := "schedValid", inPlace := ["slices.overlaps[multikernel/api.Dispatcher]"], unfollowed := true, recurses := true, apart := false }
def SchedValidSaid : Prop := schedValidRow.holds Try.pinned (OpenSpec.ofChange schedValidSpec)

/-- ITS FALSE NEIGHBOUR: 'it returns false'. Refute it at one input. -/
def schedValidWrong : ChangeSpec := { name := "schedValid", fn := fun _ => fun
  | [d] => { results := [.lit (.bool false)], args := [d] }
  | _ => none }
def SchedValidWrongFalsely : Prop := schedValidRow.holds Try.pinned (OpenSpec.ofChange schedValidWrong)

/-- 'multikernellaw30.SchedWork': WHATEVER THE INPUT: true; the input reads as it did. -/
def schedWorkSpec : ChangeSpec := { name := "schedWork", fn := fun _ => fun
  | [d] => { results := [.lit (.bool true)], args := [d] }
  | _ => none }
def schedWorkRow : OpenClaim := { program := "ytmdmmikpmhopkaa", sum := "febf4a5118575006b1cf972f32880ce4248e7ed87ddf5bed72045ca62d725cf8", func := "multikernel/multikernellaw30.SchedWork", spec := "schedWork", inPlace := ["slices.overlaps[multikernel/api.Dispatcher]"], unfollowed := true, recurses := true, apart := false }
def SchedWorkSaid : Prop := schedWorkRow.holds Try.pinned (OpenSpec.ofChange schedWorkSpec)

/-- ITS FALSE NEIGHBOUR: 'it returns false'. Refute it at one input. -/
def schedWorkWrong : ChangeSpec := { name := "schedWork", fn := fun _ => fun
  | [d] => { results := [.lit (.bool false)], args := [d] }
  | _ => none }
def SchedWorkWrongFalsely : Prop := schedWorkRow.holds Try.pinned (OpenSpec.ofChange schedWorkWrong)

/-- 'multikernellaw30.SchedUpcalls': WHATEVER THE INPUT: true; the input reads as it did. -/
def schedUpcallsSpec : ChangeSpec := { name := "schedUpcalls", fn := fun _ => fun
  | [d1, d2] => { results := [.lit (.bool true)], args := [d1, d2] }
  | _ => none }
def schedUpcallsRow : OpenClaim := { program := "ytmdmmikpmhopkaa", sum := "febf4a5118575006b1cf972f32880ce4248e7ed87ddf5bed72045ca62d725cf8", func := "multikernel/multikernellaw30.SchedUpcalls", spec := "schedUpcalls", inPlace := ["slices.overlaps[multikernel/api.Dispatcher]"], unfollowed := true, recurses := true, apart := false }
def SchedUpcallsSaid : Prop := schedUpcallsRow.holds Try.pinned (OpenSpec.ofChange schedUpcallsSpec)

/-- ITS FALSE NEIGHBOUR: 'it returns false'. Refute it at one input. -/
def schedUpcallsWrong : ChangeSpec := { name := "schedUpcalls", fn := fun _ => fun
  | [d1, d2] => { results := [.lit (.bool false)], args := [d1, d2] }
  | _ => none }
def SchedUpcallsWrongFalsely : Prop := schedUpcallsRow.holds Try.pinned (OpenSpec.ofChange schedUpcallsWrong)

/- THE SECOND FORM. 'bulk': how many values and letters a reading holds, each counted each time it is reached (what is shared counts as often as it is met; a slice's spare places count too). A statement '..UptoSaid' is the law's where the arguments, and the package variables that the reading takes, are together of bulk at most 1048576: NARROWER than '..Said'. Prove '..Said' where nothing that the law and all that it calls make is longer than what came in: it says more and counts as full. Else prove '..UptoSaid'. A law counts once. -/
mutual
def uptoBulk {H : Type} : DataW H → Nat
  | .lit (.string bytes) => bytes.length + 1
  | .lit _ => 1
  | .nil => 1
  | .ptr d => uptoBulk d + 1
  | .slice elems spare => uptoBulkAll elems + uptoBulkAll spare + 1
  | .agg parts => uptoBulkAll parts + 1
  | .iface _ d => uptoBulk d + 1
  | .map entries => uptoBulkEntries entries + 1
  | .held _ => 1
def uptoBulkAll {H : Type} : List (DataW H) → Nat
  | [] => 0
  | d :: r => uptoBulk d + uptoBulkAll r
def uptoBulkEntries {H : Type} : List (Lit × DataW H) → Nat
  | [] => 0
  | x :: r => uptoBulkEntry x + uptoBulkEntries r
def uptoBulkEntry {H : Type} : Lit × DataW H → Nat
  | (.string bytes, d) => bytes.length + uptoBulk d + 1
  | (_, d) => uptoBulk d + 1
 end
def uptoSmall : (H : Type) → List (DataW H) → Bool := fun _ ds => decide (uptoBulkAll ds ≤ 1048576)
def OpenSpec.upto (s : _root_.Go.ChangeSpec) : _root_.Go.OpenSpec := { _root_.Go.OpenSpec.ofChange s with cond := some uptoSmall }

/-- 'multikernellaw30.SchedFair', WHERE WHAT IT READS IS OF BULK AT MOST 1048576: true; the input reads as it did. -/
def schedFairUptoRow : OpenClaim := { program := "ytmdmmikpmhopkaa", sum := "febf4a5118575006b1cf972f32880ce4248e7ed87ddf5bed72045ca62d725cf8", func := "multikernel/multikernellaw30.SchedFair", spec := "schedFair", inPlace := ["slices.overlaps[multikernel/api.Dispatcher]"], unfollowed := true, recurses := true, apart := false, narrowed := true }
def SchedFairUptoSaid : Prop := schedFairUptoRow.holds Try.pinned (OpenSpec.upto schedFairSpec)

/-- 'multikernellaw30.SchedAdmission', WHERE WHAT IT READS IS OF BULK AT MOST 1048576: true; the input reads as it did. -/
def schedAdmissionUptoRow : OpenClaim := { program := "ytmdmmikpmhopkaa", sum := "febf4a5118575006b1cf972f32880ce4248e7ed87ddf5bed72045ca62d725cf8", func := "multikernel/multikernellaw30.SchedAdmission", spec := "schedAdmission", inPlace := ["slices.overlaps[multikernel/api.Dispatcher]"], unfollowed := true, recurses := true, apart := false, narrowed := true }
def SchedAdmissionUptoSaid : Prop := schedAdmissionUptoRow.holds Try.pinned (OpenSpec.upto schedAdmissionSpec)

/-- 'multikernellaw30.SchedExact', WHERE WHAT IT READS IS OF BULK AT MOST 1048576: true; the input reads as it did. -/
def schedExactUptoRow : OpenClaim := { program := "ytmdmmikpmhopkaa", sum := "febf4a5118575006b1cf972f32880ce4248e7ed87ddf5bed72045ca62d725cf8", func := "multikernel/multikernellaw30.SchedExact", spec := "schedExact", inPlace := ["slices.overlaps[multikernel/api.Dispatcher]"], unfollowed := true, recurses := true, apart := false, narrowed := true }
def SchedExactUptoSaid : Prop := schedExactUptoRow.holds Try.pinned (OpenSpec.upto schedExactSpec)

/-- 'multikernellaw30.SchedGuarantee', WHERE WHAT IT READS IS OF BULK AT MOST 1048576: true; the input reads as it did. -/
def schedGuaranteeUptoRow : OpenClaim := { program := "ytmdmmikpmhopkaa", sum := "febf4a5118575006b1cf972f32880ce4248e7ed87ddf5bed72045ca62d725cf8", func := "multikernel/multikernellaw30.SchedGuarantee", spec := "schedGuarantee", inPlace := ["slices.overlaps[multikernel/api.Dispatcher]"], unfollowed := true, recurses := true, apart := false, narrowed := true }
def SchedGuaranteeUptoSaid : Prop := schedGuaranteeUptoRow.holds Try.pinned (OpenSpec.upto schedGuaranteeSpec)

/-- 'multikernellaw30.SchedValid', WHERE WHAT IT READS IS OF BULK AT MOST 1048576: true; the input reads as it did. -/
def schedValidUptoRow : OpenClaim := { program := "ytmdmmikpmhopkaa", sum := "febf4a5118575006b1cf972f32880ce4248e7ed87ddf5bed72045ca62d725cf8", func := "multikernel/multikernellaw30.SchedValid", spec := "schedValid", inPlace := ["slices.overlaps[multikernel/api.Dispatcher]"], unfollowed := true, recurses := true, apart := false, narrowed := true }
def SchedValidUptoSaid : Prop := schedValidUptoRow.holds Try.pinned (OpenSpec.upto schedValidSpec)

/-- 'multikernellaw30.SchedWork', WHERE WHAT IT READS IS OF BULK AT MOST 1048576: true; the input reads as it did. -/
def schedWorkUptoRow : OpenClaim := { program := "ytmdmmikpmhopkaa", sum := "febf4a5118575006b1cf972f32880ce4248e7ed87ddf5bed72045ca62d725cf8", func := "multikernel/multikernellaw30.SchedWork", spec := "schedWork", inPlace := ["slices.overlaps[multikernel/api.Dispatcher]"], unfollowed := true, recurses := true, apart := false, narrowed := true }
def SchedWorkUptoSaid : Prop := schedWorkUptoRow.holds Try.pinned (OpenSpec.upto schedWorkSpec)

/-- 'multikernellaw30.SchedUpcalls', WHERE WHAT IT READS IS OF BULK AT MOST 1048576: true; the input reads as it did. -/
def schedUpcallsUptoRow : OpenClaim := { program := "ytmdmmikpmhopkaa", sum := "febf4a5118575006b1cf972f32880ce4248e7ed87ddf5bed72045ca62d725cf8", func := "multikernel/multikernellaw30.SchedUpcalls", spec := "schedUpcalls", inPlace := ["slices.overlaps[multikernel/api.Dispatcher]"], unfollowed := true, recurses := true, apart := false, narrowed := true }
def SchedUpcallsUptoSaid : Prop := schedUpcallsUptoRow.holds Try.pinned (OpenSpec.upto schedUpcallsSpec)

end Rows
end Go.Proofs.Ytmdmmikpmhopkaa
