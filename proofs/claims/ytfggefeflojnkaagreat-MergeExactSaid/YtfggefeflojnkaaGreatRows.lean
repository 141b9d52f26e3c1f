/-
  No cell of these rows narrows 'for every input' (looked for: loops, veiled, ifaces, maps, wideKeys, modest, calm, conditions, laid).
  DERIVED. THE GIVEN ROWS OF THIS SEAT. 6 by the template 'for every input the law returns true; each argument reads behind the call as it read before'; 0 by the template 'total and deterministic' (their statements: YtfggefeflojnkaaGreatTotals.lean).
  GIVEN WITH THE SEED: the statements are not yours to turn. If you find one false, say at which input.
  Laid BY PROGRAM, IN A SANDBOX (cutbox-rows.mjs): the forced cells as the released guide's own fill.sh prints them over the translation 596bff710c011284… (all of the seat's roots in one cut). By AI agents, Wed Nov 11 2026. No macro, syntax, notation, axiom, sorry.
-/
import Derived.Test.YtfggefeflojnkaaGreatChecked
import GoSem.Claim
import GoSem.ClaimJoined
import GoSem.ClaimMapViews
import Derived.JoinedTies
import Derived.KernelRfl
namespace Go.Proofs.YtfggefeflojnkaaGreat
/- THE CELL 'sum', in the pinned program and in every row, IS THE sha256 OF THE DUMP (.gsa) THAT YtfggefeflojnkaaGreatProg.lean LOADS. Nothing in Lean hashes anything: it is a label: what it is worth is what the hold of that sum in a sandbox is worth. -/
noncomputable def Tryz.pinned : Pinned := { name := "ytfggefeflojnkaagreat", sum := "596bff710c01128492c0859b087dd16de6bd0a3bc122a0f49ab8d234ea113689", checked := Tryz.checked }
namespace Rows
def none {H : Type} : Left H := { results := [], args := [] }

/-- 'multikernellaw25.MergeExact': WHATEVER THE INPUT: true; the input reads as it did. -/
def mergeExactSpec : ChangeSpec := { name := "mergeExact", fn := fun _ => fun
  | [d1, d2, d3, d4, d5, d6] => { results := [.lit (.bool true)], args := [d1, d2, d3, d4, d5, d6] }
  | _ => none }
def mergeExactRow : OpenClaim := { program := "ytfggefeflojnkaagreat", sum := "596bff710c01128492c0859b087dd16de6bd0a3bc122a0f49ab8d234ea113689", func := "multikernel/multikernellaw25.MergeExact", spec := "mergeExact", unfollowed := true, recurses := true, plainKeys := false, apart := false }
def MergeExactSaid : Prop := mergeExactRow.holds Tryz.pinned (OpenSpec.ofChange mergeExactSpec)

/-- ITS FALSE NEIGHBOUR: 'it returns false'. Refute it at one input. -/
def mergeExactWrong : ChangeSpec := { name := "mergeExact", fn := fun _ => fun
  | [d1, d2, d3, d4, d5, d6] => { results := [.lit (.bool false)], args := [d1, d2, d3, d4, d5, d6] }
  | _ => none }
def MergeExactWrongFalsely : Prop := mergeExactRow.holds Tryz.pinned (OpenSpec.ofChange mergeExactWrong)

/-- 'multikernellaw25.MergeRaw': WHATEVER THE INPUT: true; the input reads as it did. -/
def mergeRawSpec : ChangeSpec := { name := "mergeRaw", fn := fun _ => fun
  | [d1, d2, d3] => { results := [.lit (.bool true)], args := [d1, d2, d3] }
  | _ => none }
def mergeRawRow : OpenClaim := { program := "ytfggefeflojnkaagreat", sum := "596bff710c01128492c0859b087dd16de6bd0a3bc122a0f49ab8d234ea113689", func := "multikernel/multikernellaw25.MergeRaw", spec := "mergeRaw", unfollowed := true, recurses := true, plainKeys := false, apart := false }
def MergeRawSaid : Prop := mergeRawRow.holds Tryz.pinned (OpenSpec.ofChange mergeRawSpec)

/-- ITS FALSE NEIGHBOUR: 'it returns false'. Refute it at one input. -/
def mergeRawWrong : ChangeSpec := { name := "mergeRaw", fn := fun _ => fun
  | [d1, d2, d3] => { results := [.lit (.bool false)], args := [d1, d2, d3] }
  | _ => none }
def MergeRawWrongFalsely : Prop := mergeRawRow.holds Tryz.pinned (OpenSpec.ofChange mergeRawWrong)

/-- 'multikernellaw25.MergeAllOrNothing': WHATEVER THE INPUT: true; the input reads as it did. -/
def mergeAllOrNothingSpec : ChangeSpec := { name := "mergeAllOrNothing", fn := fun _ => fun
  | [d1, d2] => { results := [.lit (.bool true)], args := [d1, d2] }
  | _ => none }
def mergeAllOrNothingRow : OpenClaim := { program := "ytfggefeflojnkaagreat", sum := "596bff710c01128492c0859b087dd16de6bd0a3bc122a0f49ab8d234ea113689", func := "multikernel/multikernellaw25.MergeAllOrNothing", spec := "mergeAllOrNothing", unfollowed := true, recurses := true, plainKeys := false, apart := false }
def MergeAllOrNothingSaid : Prop := mergeAllOrNothingRow.holds Tryz.pinned (OpenSpec.ofChange mergeAllOrNothingSpec)

/-- ITS FALSE NEIGHBOUR: 'it returns false'. Refute it at one input. -/
def mergeAllOrNothingWrong : ChangeSpec := { name := "mergeAllOrNothing", fn := fun _ => fun
  | [d1, d2] => { results := [.lit (.bool false)], args := [d1, d2] }
  | _ => none }
def MergeAllOrNothingWrongFalsely : Prop := mergeAllOrNothingRow.holds Tryz.pinned (OpenSpec.ofChange mergeAllOrNothingWrong)

/-- 'multikernellaw25.MergeEntries': WHATEVER THE INPUT: true; the input reads as it did. -/
def mergeEntriesSpec : ChangeSpec := { name := "mergeEntries", fn := fun _ => fun
  | [d1, d2, d3, d4] => { results := [.lit (.bool true)], args := [d1, d2, d3, d4] }
  | _ => none }
def mergeEntriesRow : OpenClaim := { program := "ytfggefeflojnkaagreat", sum := "596bff710c01128492c0859b087dd16de6bd0a3bc122a0f49ab8d234ea113689", func := "multikernel/multikernellaw25.MergeEntries", spec := "mergeEntries", unfollowed := true, recurses := true, plainKeys := false, apart := false }
def MergeEntriesSaid : Prop := mergeEntriesRow.holds Tryz.pinned (OpenSpec.ofChange mergeEntriesSpec)

/-- ITS FALSE NEIGHBOUR: 'it returns false'. Refute it at one input. -/
def mergeEntriesWrong : ChangeSpec := { name := "mergeEntries", fn := fun _ => fun
  | [d1, d2, d3, d4] => { results := [.lit (.bool false)], args := [d1, d2, d3, d4] }
  | _ => none }
def MergeEntriesWrongFalsely : Prop := mergeEntriesRow.holds Tryz.pinned (OpenSpec.ofChange mergeEntriesWrong)

/-- 'multikernellaw25.MergeAnswers': WHATEVER THE INPUT: true; the input reads as it did. -/
def mergeAnswersSpec : ChangeSpec := { name := "mergeAnswers", fn := fun _ => fun
  | [d1, d2, d3, d4] => { results := [.lit (.bool true)], args := [d1, d2, d3, d4] }
  | _ => none }
def mergeAnswersRow : OpenClaim := { program := "ytfggefeflojnkaagreat", sum := "596bff710c01128492c0859b087dd16de6bd0a3bc122a0f49ab8d234ea113689", func := "multikernel/multikernellaw25.MergeAnswers", spec := "mergeAnswers", unfollowed := true, recurses := true, plainKeys := false, apart := false }
def MergeAnswersSaid : Prop := mergeAnswersRow.holds Tryz.pinned (OpenSpec.ofChange mergeAnswersSpec)

/-- ITS FALSE NEIGHBOUR: 'it returns false'. Refute it at one input. -/
def mergeAnswersWrong : ChangeSpec := { name := "mergeAnswers", fn := fun _ => fun
  | [d1, d2, d3, d4] => { results := [.lit (.bool false)], args := [d1, d2, d3, d4] }
  | _ => none }
def MergeAnswersWrongFalsely : Prop := mergeAnswersRow.holds Tryz.pinned (OpenSpec.ofChange mergeAnswersWrong)

/-- 'multikernellaw25.MergeAgain': WHATEVER THE INPUT: true; the input reads as it did. -/
def mergeAgainSpec : ChangeSpec := { name := "mergeAgain", fn := fun _ => fun
  | [d1, d2, d3, d4] => { results := [.lit (.bool true)], args := [d1, d2, d3, d4] }
  | _ => none }
def mergeAgainRow : OpenClaim := { program := "ytfggefeflojnkaagreat", sum := "596bff710c01128492c0859b087dd16de6bd0a3bc122a0f49ab8d234ea113689", func := "multikernel/multikernellaw25.MergeAgain", spec := "mergeAgain", unfollowed := true, recurses := true, plainKeys := false, apart := false }
def MergeAgainSaid : Prop := mergeAgainRow.holds Tryz.pinned (OpenSpec.ofChange mergeAgainSpec)

/-- ITS FALSE NEIGHBOUR: 'it returns false'. Refute it at one input. -/
def mergeAgainWrong : ChangeSpec := { name := "mergeAgain", fn := fun _ => fun
  | [d1, d2, d3, d4] => { results := [.lit (.bool false)], args := [d1, d2, d3, d4] }
  | _ => none }
def MergeAgainWrongFalsely : Prop := mergeAgainRow.holds Tryz.pinned (OpenSpec.ofChange mergeAgainWrong)

/- THE SECOND FORM. 'bulk': how many values and letters a reading holds, each counted each time it is reached (what is shared counts as often as it is met; a slice's spare places count too). A statement '..UptoSaid' is the law's where the arguments, and the package variables that the reading takes, are together of bulk at most 1048576: NARROWER than '..Said'. Prove '..Said' where nothing that the law and all that it calls make is longer than what came in: it says more and counts as full. Else prove '..UptoSaid'. A law counts once. -/
mutual
def uptoBulk {H : Type} : DataW H → Nat
  | .lit (.string bytes) => bytes.length + 1
  | .lit _ => 1
  | .nil => 1
  | .ptr d => uptoBulk d + 1
  | .slice elems spare => uptoBulkAll elems + uptoBulkAll spare + 1
  | .agg parts => uptoBulkAll parts + 1
  | .iface _ d => uptoBulk d + 1
  | .map entries => uptoBulkEntries entries + 1
  | .held _ => 1
def uptoBulkAll {H : Type} : List (DataW H) → Nat
  | [] => 0
  | d :: r => uptoBulk d + uptoBulkAll r
def uptoBulkEntries {H : Type} : List (Lit × DataW H) → Nat
  | [] => 0
  | x :: r => uptoBulkEntry x + uptoBulkEntries r
def uptoBulkEntry {H : Type} : Lit × DataW H → Nat
  | (.string bytes, d) => bytes.length + uptoBulk d + 1
  | (_, d) => uptoBulk d + 1
 end
def uptoSmall : (H : Type) → List (DataW H) → Bool := fun _ ds => decide (uptoBulkAll ds ≤ 1048576)
def OpenSpec.upto (s : _root_.Go.ChangeSpec) : _root_.Go.OpenSpec := { _root_.Go.OpenSpec.ofChange s with cond := some uptoSmall }

/-- 'multikernellaw25.MergeExact', WHERE WHAT IT READS IS OF BULK AT MOST 1048576: true; the input reads as it did. -/
def mergeExactUptoRow : OpenClaim := { program := "ytfggefeflojnkaagreat", sum := "596bff710c01128492c0859b087dd16de6bd0a3bc122a0f49ab8d234ea113689", func := "multikernel/multikernellaw25.MergeExact", spec := "mergeExact", unfollowed := true, recurses := true, plainKeys := false, apart := false, narrowed := true }
def MergeExactUptoSaid : Prop := mergeExactUptoRow.holds Tryz.pinned (OpenSpec.upto mergeExactSpec)

/-- 'multikernellaw25.MergeRaw', WHERE WHAT IT READS IS OF BULK AT MOST 1048576: true; the input reads as it did. -/
def mergeRawUptoRow : OpenClaim := { program := "ytfggefeflojnkaagreat", sum := "596bff710c01128492c0859b087dd16de6bd0a3bc122a0f49ab8d234ea113689", func := "multikernel/multikernellaw25.MergeRaw", spec := "mergeRaw", unfollowed := true, recurses := true, plainKeys := false, apart := false, narrowed := true }
def MergeRawUptoSaid : Prop := mergeRawUptoRow.holds Tryz.pinned (OpenSpec.upto mergeRawSpec)

/-- 'multikernellaw25.MergeAllOrNothing', WHERE WHAT IT READS IS OF BULK AT MOST 1048576: true; the input reads as it did. -/
def mergeAllOrNothingUptoRow : OpenClaim := { program := "ytfggefeflojnkaagreat", sum := "596bff710c01128492c0859b087dd16de6bd0a3bc122a0f49ab8d234ea113689", func := "multikernel/multikernellaw25.MergeAllOrNothing", spec := "mergeAllOrNothing", unfollowed := true, recurses := true, plainKeys := false, apart := false, narrowed := true }
def MergeAllOrNothingUptoSaid : Prop := mergeAllOrNothingUptoRow.holds Tryz.pinned (OpenSpec.upto mergeAllOrNothingSpec)

/-- 'multikernellaw25.MergeEntries', WHERE WHAT IT READS IS OF BULK AT MOST 1048576: true; the input reads as it did. -/
def mergeEntriesUptoRow : OpenClaim := { program := "ytfggefeflojnkaagreat", sum := "596bff710c01128492c0859b087dd16de6bd0a3bc122a0f49ab8d234ea113689", func := "multikernel/multikernellaw25.MergeEntries", spec := "mergeEntries", unfollowed := true, recurses := true, plainKeys := false, apart := false, narrowed := true }
def MergeEntriesUptoSaid : Prop := mergeEntriesUptoRow.holds Tryz.pinned (OpenSpec.upto mergeEntriesSpec)

/-- 'multikernellaw25.MergeAnswers', WHERE WHAT IT READS IS OF BULK AT MOST 1048576: true; the input reads as it did. -/
def mergeAnswersUptoRow : OpenClaim := { program := "ytfggefeflojnkaagreat", sum := "596bff710c01128492c0859b087dd16de6bd0a3bc122a0f49ab8d234ea113689", func := "multikernel/multikernellaw25.MergeAnswers", spec := "mergeAnswers", unfollowed := true, recurses := true, plainKeys := false, apart := false, narrowed := true }
def MergeAnswersUptoSaid : Prop := mergeAnswersUptoRow.holds Tryz.pinned (OpenSpec.upto mergeAnswersSpec)

/-- 'multikernellaw25.MergeAgain', WHERE WHAT IT READS IS OF BULK AT MOST 1048576: true; the input reads as it did. -/
def mergeAgainUptoRow : OpenClaim := { program := "ytfggefeflojnkaagreat", sum := "596bff710c01128492c0859b087dd16de6bd0a3bc122a0f49ab8d234ea113689", func := "multikernel/multikernellaw25.MergeAgain", spec := "mergeAgain", unfollowed := true, recurses := true, plainKeys := false, apart := false, narrowed := true }
def MergeAgainUptoSaid : Prop := mergeAgainUptoRow.holds Tryz.pinned (OpenSpec.upto mergeAgainSpec)

end Rows
end Go.Proofs.YtfggefeflojnkaaGreat
