/-
  NARROWER THAN 'FOR EVERY INPUT', by the rows' own cells (each row's printed sentence says how): ConfRight: loops · ConfKeys: loops · ConfBacks: loops · ConfStarts: loops · ConfCopies: loops · StepEvals: loops · FlowRaw: loops · FlowPaths: loops.
  DERIVED. THE GIVEN ROWS OF THIS SEAT. 16 by the template 'for every input the law returns true; each argument reads behind the call as it read before'; 0 by the template 'total and deterministic' (their statements: YtamgnhdbeecapaaTotals.lean).
  GIVEN WITH THE SEED: the statements are not yours to turn. If you find one false, say at which input.
  Laid BY PROGRAM, IN A SANDBOX (cutbox-rows.mjs): the forced cells as the released guide's own fill.sh prints them over the translation 0c34748bce7e9ad9… (all of the seat's roots in one cut). By AI agents, Wed Nov 11 2026. No macro, syntax, notation, axiom, sorry.
-/
import Derived.Test.YtamgnhdbeecapaaChecked
import GoSem.Claim
import GoSem.ClaimJoined
import GoSem.ClaimMapViews
import Derived.JoinedTies
import Derived.KernelRfl
namespace Go.Proofs.Ytamgnhdbeecapaa
/- THE CELL 'sum', in the pinned program and in every row, IS THE sha256 OF THE DUMP (.gsa) THAT YtamgnhdbeecapaaProg.lean LOADS. Nothing in Lean hashes anything: it is a label: what it is worth is what the hold of that sum in a sandbox is worth. -/
noncomputable def Try.pinned : Pinned := { name := "ytamgnhdbeecapaa", sum := "0c34748bce7e9ad9c884f0c9dd3b04abc8efcb0d36052661efcf4a684978de29", checked := Try.checked }
namespace Rows
def none {H : Type} : Left H := { results := [], args := [] }

/-- 'jetsamlaw06.ConfRight': WHATEVER THE INPUT: true; the input reads as it did. -/
def confRightSpec : ChangeSpec := { name := "confRight", fn := fun _ => fun
  | [d1, d2, d3] => { results := [.lit (.bool true)], args := [d1, d2, d3] }
  | _ => none }
def confRightRow : OpenClaim := { program := "ytamgnhdbeecapaa", sum := "0c34748bce7e9ad9c884f0c9dd3b04abc8efcb0d36052661efcf4a684978de29", func := "jetsam/jetsamlaw06.ConfRight", spec := "confRight", unfollowed := true, recurses := true, loops := true, plainKeys := false, apart := false }
def ConfRightSaid : Prop := confRightRow.holds Try.pinned (OpenSpec.ofChange confRightSpec)

/-- ITS FALSE NEIGHBOUR: 'it returns false'. Refute it at one input. -/
def confRightWrong : ChangeSpec := { name := "confRight", fn := fun _ => fun
  | [d1, d2, d3] => { results := [.lit (.bool false)], args := [d1, d2, d3] }
  | _ => none }
def ConfRightWrongFalsely : Prop := confRightRow.holds Try.pinned (OpenSpec.ofChange confRightWrong)

/-- 'jetsamlaw06.ConfKeys': WHATEVER THE INPUT: true; the input reads as it did. -/
def confKeysSpec : ChangeSpec := { name := "confKeys", fn := fun _ => fun
  | [d1, d2, d3] => { results := [.lit (.bool true)], args := [d1, d2, d3] }
  | _ => none }
def confKeysRow : OpenClaim := { program := "ytamgnhdbeecapaa", sum := "0c34748bce7e9ad9c884f0c9dd3b04abc8efcb0d36052661efcf4a684978de29", func := "jetsam/jetsamlaw06.ConfKeys", spec := "confKeys", unfollowed := true, recurses := true, loops := true, plainKeys := false, apart := false }
def ConfKeysSaid : Prop := confKeysRow.holds Try.pinned (OpenSpec.ofChange confKeysSpec)

/-- ITS FALSE NEIGHBOUR: 'it returns false'. Refute it at one input. -/
def confKeysWrong : ChangeSpec := { name := "confKeys", fn := fun _ => fun
  | [d1, d2, d3] => { results := [.lit (.bool false)], args := [d1, d2, d3] }
  | _ => none }
def ConfKeysWrongFalsely : Prop := confKeysRow.holds Try.pinned (OpenSpec.ofChange confKeysWrong)

/-- 'jetsamlaw06.ConfBacks': WHATEVER THE INPUT: true; the input reads as it did. -/
def confBacksSpec : ChangeSpec := { name := "confBacks", fn := fun _ => fun
  | [d1, d2, d3] => { results := [.lit (.bool true)], args := [d1, d2, d3] }
  | _ => none }
def confBacksRow : OpenClaim := { program := "ytamgnhdbeecapaa", sum := "0c34748bce7e9ad9c884f0c9dd3b04abc8efcb0d36052661efcf4a684978de29", func := "jetsam/jetsamlaw06.ConfBacks", spec := "confBacks", unfollowed := true, recurses := true, loops := true, plainKeys := false, apart := false }
def ConfBacksSaid : Prop := confBacksRow.holds Try.pinned (OpenSpec.ofChange confBacksSpec)

/-- ITS FALSE NEIGHBOUR: 'it returns false'. Refute it at one input. -/
def confBacksWrong : ChangeSpec := { name := "confBacks", fn := fun _ => fun
  | [d1, d2, d3] => { results := [.lit (.bool false)], args := [d1, d2, d3] }
  | _ => none }
def ConfBacksWrongFalsely : Prop := confBacksRow.holds Try.pinned (OpenSpec.ofChange confBacksWrong)

/-- 'jetsamlaw06.ConfBounds': WHATEVER THE INPUT: true; the input reads as it did. -/
def confBoundsSpec : ChangeSpec := { name := "confBounds", fn := fun _ => fun
  | [d1, d2] => { results := [.lit (.bool true)], args := [d1, d2] }
  | _ => none }
def confBoundsRow : OpenClaim := { program := "ytamgnhdbeecapaa", sum := "0c34748bce7e9ad9c884f0c9dd3b04abc8efcb0d36052661efcf4a684978de29", func := "jetsam/jetsamlaw06.ConfBounds", spec := "confBounds", unfollowed := true, recurses := true, plainKeys := false, apart := false }
def ConfBoundsSaid : Prop := confBoundsRow.holds Try.pinned (OpenSpec.ofChange confBoundsSpec)

/-- ITS FALSE NEIGHBOUR: 'it returns false'. Refute it at one input. -/
def confBoundsWrong : ChangeSpec := { name := "confBounds", fn := fun _ => fun
  | [d1, d2] => { results := [.lit (.bool false)], args := [d1, d2] }
  | _ => none }
def ConfBoundsWrongFalsely : Prop := confBoundsRow.holds Try.pinned (OpenSpec.ofChange confBoundsWrong)

/-- 'jetsamlaw06.ConfStarts': WHATEVER THE INPUT: true; the input reads as it did. -/
def confStartsSpec : ChangeSpec := { name := "confStarts", fn := fun _ => fun
  | [d] => { results := [.lit (.bool true)], args := [d] }
  | _ => none }
def confStartsRow : OpenClaim := { program := "ytamgnhdbeecapaa", sum := "0c34748bce7e9ad9c884f0c9dd3b04abc8efcb0d36052661efcf4a684978de29", func := "jetsam/jetsamlaw06.ConfStarts", spec := "confStarts", unfollowed := true, recurses := true, loops := true, plainKeys := false, apart := false }
def ConfStartsSaid : Prop := confStartsRow.holds Try.pinned (OpenSpec.ofChange confStartsSpec)

/-- ITS FALSE NEIGHBOUR: 'it returns false'. Refute it at one input. -/
def confStartsWrong : ChangeSpec := { name := "confStarts", fn := fun _ => fun
  | [d] => { results := [.lit (.bool false)], args := [d] }
  | _ => none }
def ConfStartsWrongFalsely : Prop := confStartsRow.holds Try.pinned (OpenSpec.ofChange confStartsWrong)

/-- 'jetsamlaw06.ConfCopies': WHATEVER THE INPUT: true; the input reads as it did. -/
def confCopiesSpec : ChangeSpec := { name := "confCopies", fn := fun _ => fun
  | [d1, d2, d3] => { results := [.lit (.bool true)], args := [d1, d2, d3] }
  | _ => none }
def confCopiesRow : OpenClaim := { program := "ytamgnhdbeecapaa", sum := "0c34748bce7e9ad9c884f0c9dd3b04abc8efcb0d36052661efcf4a684978de29", func := "jetsam/jetsamlaw06.ConfCopies", spec := "confCopies", unfollowed := true, recurses := true, loops := true, plainKeys := false, apart := false }
def ConfCopiesSaid : Prop := confCopiesRow.holds Try.pinned (OpenSpec.ofChange confCopiesSpec)

/-- ITS FALSE NEIGHBOUR: 'it returns false'. Refute it at one input. -/
def confCopiesWrong : ChangeSpec := { name := "confCopies", fn := fun _ => fun
  | [d1, d2, d3] => { results := [.lit (.bool false)], args := [d1, d2, d3] }
  | _ => none }
def ConfCopiesWrongFalsely : Prop := confCopiesRow.holds Try.pinned (OpenSpec.ofChange confCopiesWrong)

/-- 'jetsamlaw07.StepEvals': WHATEVER THE INPUT: true; the input reads as it did. -/
def stepEvalsSpec : ChangeSpec := { name := "stepEvals", fn := fun _ => fun
  | [d1, d2, d3] => { results := [.lit (.bool true)], args := [d1, d2, d3] }
  | _ => none }
def stepEvalsRow : OpenClaim := { program := "ytamgnhdbeecapaa", sum := "0c34748bce7e9ad9c884f0c9dd3b04abc8efcb0d36052661efcf4a684978de29", func := "jetsam/jetsamlaw07.StepEvals", spec := "stepEvals", unfollowed := true, recurses := true, loops := true, plainKeys := false, apart := false }
def StepEvalsSaid : Prop := stepEvalsRow.holds Try.pinned (OpenSpec.ofChange stepEvalsSpec)

/-- ITS FALSE NEIGHBOUR: 'it returns false'. Refute it at one input. -/
def stepEvalsWrong : ChangeSpec := { name := "stepEvals", fn := fun _ => fun
  | [d1, d2, d3] => { results := [.lit (.bool false)], args := [d1, d2, d3] }
  | _ => none }
def StepEvalsWrongFalsely : Prop := stepEvalsRow.holds Try.pinned (OpenSpec.ofChange stepEvalsWrong)

/-- 'jetsamlaw07.StepNumbers': WHATEVER THE INPUT: true; the input reads as it did. -/
def stepNumbersSpec : ChangeSpec := { name := "stepNumbers", fn := fun _ => fun
  | [d1, d2] => { results := [.lit (.bool true)], args := [d1, d2] }
  | _ => none }
def stepNumbersRow : OpenClaim := { program := "ytamgnhdbeecapaa", sum := "0c34748bce7e9ad9c884f0c9dd3b04abc8efcb0d36052661efcf4a684978de29", func := "jetsam/jetsamlaw07.StepNumbers", spec := "stepNumbers", unfollowed := true, recurses := true, plainKeys := false, apart := false }
def StepNumbersSaid : Prop := stepNumbersRow.holds Try.pinned (OpenSpec.ofChange stepNumbersSpec)

/-- ITS FALSE NEIGHBOUR: 'it returns false'. Refute it at one input. -/
def stepNumbersWrong : ChangeSpec := { name := "stepNumbers", fn := fun _ => fun
  | [d1, d2] => { results := [.lit (.bool false)], args := [d1, d2] }
  | _ => none }
def StepNumbersWrongFalsely : Prop := stepNumbersRow.holds Try.pinned (OpenSpec.ofChange stepNumbersWrong)

/-- 'jetsamlaw05.FlowRaw': WHATEVER THE INPUT: true; the input reads as it did. -/
def flowRawSpec : ChangeSpec := { name := "flowRaw", fn := fun _ => fun
  | [d] => { results := [.lit (.bool true)], args := [d] }
  | _ => none }
def flowRawRow : OpenClaim := { program := "ytamgnhdbeecapaa", sum := "0c34748bce7e9ad9c884f0c9dd3b04abc8efcb0d36052661efcf4a684978de29", func := "jetsam/jetsamlaw05.FlowRaw", spec := "flowRaw", unfollowed := true, recurses := true, loops := true, plainKeys := false, apart := false }
def FlowRawSaid : Prop := flowRawRow.holds Try.pinned (OpenSpec.ofChange flowRawSpec)

/-- ITS FALSE NEIGHBOUR: 'it returns false'. Refute it at one input. -/
def flowRawWrong : ChangeSpec := { name := "flowRaw", fn := fun _ => fun
  | [d] => { results := [.lit (.bool false)], args := [d] }
  | _ => none }
def FlowRawWrongFalsely : Prop := flowRawRow.holds Try.pinned (OpenSpec.ofChange flowRawWrong)

/-- 'jetsamlaw05.FlowNots': WHATEVER THE INPUT: true; the input reads as it did. -/
def flowNotsSpec : ChangeSpec := { name := "flowNots", fn := fun _ => fun
  | [d] => { results := [.lit (.bool true)], args := [d] }
  | _ => none }
def flowNotsRow : OpenClaim := { program := "ytamgnhdbeecapaa", sum := "0c34748bce7e9ad9c884f0c9dd3b04abc8efcb0d36052661efcf4a684978de29", func := "jetsam/jetsamlaw05.FlowNots", spec := "flowNots", unfollowed := true, recurses := true, plainKeys := false, apart := false }
def FlowNotsSaid : Prop := flowNotsRow.holds Try.pinned (OpenSpec.ofChange flowNotsSpec)

/-- ITS FALSE NEIGHBOUR: 'it returns false'. Refute it at one input. -/
def flowNotsWrong : ChangeSpec := { name := "flowNots", fn := fun _ => fun
  | [d] => { results := [.lit (.bool false)], args := [d] }
  | _ => none }
def FlowNotsWrongFalsely : Prop := flowNotsRow.holds Try.pinned (OpenSpec.ofChange flowNotsWrong)

/-- 'jetsamlaw05.FlowMany': WHATEVER THE INPUT: true; the input reads as it did. -/
def flowManySpec : ChangeSpec := { name := "flowMany", fn := fun _ => fun
  | [d] => { results := [.lit (.bool true)], args := [d] }
  | _ => none }
def flowManyRow : OpenClaim := { program := "ytamgnhdbeecapaa", sum := "0c34748bce7e9ad9c884f0c9dd3b04abc8efcb0d36052661efcf4a684978de29", func := "jetsam/jetsamlaw05.FlowMany", spec := "flowMany", unfollowed := true, recurses := true, plainKeys := false, apart := false }
def FlowManySaid : Prop := flowManyRow.holds Try.pinned (OpenSpec.ofChange flowManySpec)

/-- ITS FALSE NEIGHBOUR: 'it returns false'. Refute it at one input. -/
def flowManyWrong : ChangeSpec := { name := "flowMany", fn := fun _ => fun
  | [d] => { results := [.lit (.bool false)], args := [d] }
  | _ => none }
def FlowManyWrongFalsely : Prop := flowManyRow.holds Try.pinned (OpenSpec.ofChange flowManyWrong)

/-- 'jetsamlaw05.FlowPaths': WHATEVER THE INPUT: true; the input reads as it did. -/
def flowPathsSpec : ChangeSpec := { name := "flowPaths", fn := fun _ => fun
  | [d] => { results := [.lit (.bool true)], args := [d] }
  | _ => none }
def flowPathsRow : OpenClaim := { program := "ytamgnhdbeecapaa", sum := "0c34748bce7e9ad9c884f0c9dd3b04abc8efcb0d36052661efcf4a684978de29", func := "jetsam/jetsamlaw05.FlowPaths", spec := "flowPaths", unfollowed := true, recurses := true, loops := true, plainKeys := false, apart := false }
def FlowPathsSaid : Prop := flowPathsRow.holds Try.pinned (OpenSpec.ofChange flowPathsSpec)

/-- ITS FALSE NEIGHBOUR: 'it returns false'. Refute it at one input. -/
def flowPathsWrong : ChangeSpec := { name := "flowPaths", fn := fun _ => fun
  | [d] => { results := [.lit (.bool false)], args := [d] }
  | _ => none }
def FlowPathsWrongFalsely : Prop := flowPathsRow.holds Try.pinned (OpenSpec.ofChange flowPathsWrong)

/-- 'jetsamlaw05.FlowCounts': WHATEVER THE INPUT: true; the input reads as it did. -/
def flowCountsSpec : ChangeSpec := { name := "flowCounts", fn := fun _ => fun
  | [d1, d2, d3] => { results := [.lit (.bool true)], args := [d1, d2, d3] }
  | _ => none }
def flowCountsRow : OpenClaim := { program := "ytamgnhdbeecapaa", sum := "0c34748bce7e9ad9c884f0c9dd3b04abc8efcb0d36052661efcf4a684978de29", func := "jetsam/jetsamlaw05.FlowCounts", spec := "flowCounts", unfollowed := true, recurses := true, plainKeys := false, apart := false }
def FlowCountsSaid : Prop := flowCountsRow.holds Try.pinned (OpenSpec.ofChange flowCountsSpec)

/-- ITS FALSE NEIGHBOUR: 'it returns false'. Refute it at one input. -/
def flowCountsWrong : ChangeSpec := { name := "flowCounts", fn := fun _ => fun
  | [d1, d2, d3] => { results := [.lit (.bool false)], args := [d1, d2, d3] }
  | _ => none }
def FlowCountsWrongFalsely : Prop := flowCountsRow.holds Try.pinned (OpenSpec.ofChange flowCountsWrong)

/-- 'jetsamlaw07.StepQueues': WHATEVER THE INPUT: true; the input reads as it did. -/
def stepQueuesSpec : ChangeSpec := { name := "stepQueues", fn := fun _ => fun
  | [d1, d2, d3] => { results := [.lit (.bool true)], args := [d1, d2, d3] }
  | _ => none }
def stepQueuesRow : OpenClaim := { program := "ytamgnhdbeecapaa", sum := "0c34748bce7e9ad9c884f0c9dd3b04abc8efcb0d36052661efcf4a684978de29", func := "jetsam/jetsamlaw07.StepQueues", spec := "stepQueues", unfollowed := true, recurses := true, plainKeys := false, apart := false }
def StepQueuesSaid : Prop := stepQueuesRow.holds Try.pinned (OpenSpec.ofChange stepQueuesSpec)

/-- ITS FALSE NEIGHBOUR: 'it returns false'. Refute it at one input. -/
def stepQueuesWrong : ChangeSpec := { name := "stepQueues", fn := fun _ => fun
  | [d1, d2, d3] => { results := [.lit (.bool false)], args := [d1, d2, d3] }
  | _ => none }
def StepQueuesWrongFalsely : Prop := stepQueuesRow.holds Try.pinned (OpenSpec.ofChange stepQueuesWrong)

/-- 'jetsamlaw07.StepAlone': WHATEVER THE INPUT: true; the input reads as it did. -/
def stepAloneSpec : ChangeSpec := { name := "stepAlone", fn := fun _ => fun
  | [d1, d2] => { results := [.lit (.bool true)], args := [d1, d2] }
  | _ => none }
def stepAloneRow : OpenClaim := { program := "ytamgnhdbeecapaa", sum := "0c34748bce7e9ad9c884f0c9dd3b04abc8efcb0d36052661efcf4a684978de29", func := "jetsam/jetsamlaw07.StepAlone", spec := "stepAlone", unfollowed := true, recurses := true, plainKeys := false, apart := false }
def StepAloneSaid : Prop := stepAloneRow.holds Try.pinned (OpenSpec.ofChange stepAloneSpec)

/-- ITS FALSE NEIGHBOUR: 'it returns false'. Refute it at one input. -/
def stepAloneWrong : ChangeSpec := { name := "stepAlone", fn := fun _ => fun
  | [d1, d2] => { results := [.lit (.bool false)], args := [d1, d2] }
  | _ => none }
def StepAloneWrongFalsely : Prop := stepAloneRow.holds Try.pinned (OpenSpec.ofChange stepAloneWrong)

/-- 'jetsamlaw07.StepLossy': WHATEVER THE INPUT: true; the input reads as it did. -/
def stepLossySpec : ChangeSpec := { name := "stepLossy", fn := fun _ => fun
  | [d1, d2] => { results := [.lit (.bool true)], args := [d1, d2] }
  | _ => none }
def stepLossyRow : OpenClaim := { program := "ytamgnhdbeecapaa", sum := "0c34748bce7e9ad9c884f0c9dd3b04abc8efcb0d36052661efcf4a684978de29", func := "jetsam/jetsamlaw07.StepLossy", spec := "stepLossy", unfollowed := true, recurses := true, plainKeys := false, apart := false }
def StepLossySaid : Prop := stepLossyRow.holds Try.pinned (OpenSpec.ofChange stepLossySpec)

/-- ITS FALSE NEIGHBOUR: 'it returns false'. Refute it at one input. -/
def stepLossyWrong : ChangeSpec := { name := "stepLossy", fn := fun _ => fun
  | [d1, d2] => { results := [.lit (.bool false)], args := [d1, d2] }
  | _ => none }
def StepLossyWrongFalsely : Prop := stepLossyRow.holds Try.pinned (OpenSpec.ofChange stepLossyWrong)

/- THE SECOND FORM. 'bulk': how many values and letters a reading holds, each counted each time it is reached (what is shared counts as often as it is met; a slice's spare places count too). A statement '..UptoSaid' is the law's where the arguments, and the package variables that the reading takes, are together of bulk at most 1048576: NARROWER than '..Said'. Prove '..Said' where nothing that the law and all that it calls make is longer than what came in: it says more and counts as full. Else prove '..UptoSaid'. A law counts once. -/
mutual
def uptoBulk {H : Type} : DataW H → Nat
  | .lit (.string bytes) => bytes.length + 1
  | .lit _ => 1
  | .nil => 1
  | .ptr d => uptoBulk d + 1
  | .slice elems spare => uptoBulkAll elems + uptoBulkAll spare + 1
  | .agg parts => uptoBulkAll parts + 1
  | .iface _ d => uptoBulk d + 1
  | .map entries => uptoBulkEntries entries + 1
  | .held _ => 1
def uptoBulkAll {H : Type} : List (DataW H) → Nat
  | [] => 0
  | d :: r => uptoBulk d + uptoBulkAll r
def uptoBulkEntries {H : Type} : List (Lit × DataW H) → Nat
  | [] => 0
  | x :: r => uptoBulkEntry x + uptoBulkEntries r
def uptoBulkEntry {H : Type} : Lit × DataW H → Nat
  | (.string bytes, d) => bytes.length + uptoBulk d + 1
  | (_, d) => uptoBulk d + 1
 end
def uptoSmall : (H : Type) → List (DataW H) → Bool := fun _ ds => decide (uptoBulkAll ds ≤ 1048576)
def OpenSpec.upto (s : _root_.Go.ChangeSpec) : _root_.Go.OpenSpec := { _root_.Go.OpenSpec.ofChange s with cond := some uptoSmall }

/-- 'jetsamlaw06.ConfRight', WHERE WHAT IT READS IS OF BULK AT MOST 1048576: true; the input reads as it did. -/
def confRightUptoRow : OpenClaim := { program := "ytamgnhdbeecapaa", sum := "0c34748bce7e9ad9c884f0c9dd3b04abc8efcb0d36052661efcf4a684978de29", func := "jetsam/jetsamlaw06.ConfRight", spec := "confRight", unfollowed := true, recurses := true, loops := true, plainKeys := false, apart := false, narrowed := true }
def ConfRightUptoSaid : Prop := confRightUptoRow.holds Try.pinned (OpenSpec.upto confRightSpec)

/-- 'jetsamlaw06.ConfKeys', WHERE WHAT IT READS IS OF BULK AT MOST 1048576: true; the input reads as it did. -/
def confKeysUptoRow : OpenClaim := { program := "ytamgnhdbeecapaa", sum := "0c34748bce7e9ad9c884f0c9dd3b04abc8efcb0d36052661efcf4a684978de29", func := "jetsam/jetsamlaw06.ConfKeys", spec := "confKeys", unfollowed := true, recurses := true, loops := true, plainKeys := false, apart := false, narrowed := true }
def ConfKeysUptoSaid : Prop := confKeysUptoRow.holds Try.pinned (OpenSpec.upto confKeysSpec)

/-- 'jetsamlaw06.ConfBacks', WHERE WHAT IT READS IS OF BULK AT MOST 1048576: true; the input reads as it did. -/
def confBacksUptoRow : OpenClaim := { program := "ytamgnhdbeecapaa", sum := "0c34748bce7e9ad9c884f0c9dd3b04abc8efcb0d36052661efcf4a684978de29", func := "jetsam/jetsamlaw06.ConfBacks", spec := "confBacks", unfollowed := true, recurses := true, loops := true, plainKeys := false, apart := false, narrowed := true }
def ConfBacksUptoSaid : Prop := confBacksUptoRow.holds Try.pinned (OpenSpec.upto confBacksSpec)

/-- 'jetsamlaw06.ConfBounds', WHERE WHAT IT READS IS OF BULK AT MOST 1048576: true; the input reads as it did. -/
def confBoundsUptoRow : OpenClaim := { program := "ytamgnhdbeecapaa", sum := "0c34748bce7e9ad9c884f0c9dd3b04abc8efcb0d36052661efcf4a684978de29", func := "jetsam/jetsamlaw06.ConfBounds", spec := "confBounds", unfollowed := true, recurses := true, plainKeys := false, apart := false, narrowed := true }
def ConfBoundsUptoSaid : Prop := confBoundsUptoRow.holds Try.pinned (OpenSpec.upto confBoundsSpec)

/-- 'jetsamlaw06.ConfStarts', WHERE WHAT IT READS IS OF BULK AT MOST 1048576: true; the input reads as it did. -/
def confStartsUptoRow : OpenClaim := { program := "ytamgnhdbeecapaa", sum := "0c34748bce7e9ad9c884f0c9dd3b04abc8efcb0d36052661efcf4a684978de29", func := "jetsam/jetsamlaw06.ConfStarts", spec := "confStarts", unfollowed := true, recurses := true, loops := true, plainKeys := false, apart := false, narrowed := true }
def ConfStartsUptoSaid : Prop := confStartsUptoRow.holds Try.pinned (OpenSpec.upto confStartsSpec)

/-- 'jetsamlaw06.ConfCopies', WHERE WHAT IT READS IS OF BULK AT MOST 1048576: true; the input reads as it did. -/
def confCopiesUptoRow : OpenClaim := { program := "ytamgnhdbeecapaa", sum := "0c34748bce7e9ad9c884f0c9dd3b04abc8efcb0d36052661efcf4a684978de29", func := "jetsam/jetsamlaw06.ConfCopies", spec := "confCopies", unfollowed := true, recurses := true, loops := true, plainKeys := false, apart := false, narrowed := true }
def ConfCopiesUptoSaid : Prop := confCopiesUptoRow.holds Try.pinned (OpenSpec.upto confCopiesSpec)

/-- 'jetsamlaw07.StepEvals', WHERE WHAT IT READS IS OF BULK AT MOST 1048576: true; the input reads as it did. -/
def stepEvalsUptoRow : OpenClaim := { program := "ytamgnhdbeecapaa", sum := "0c34748bce7e9ad9c884f0c9dd3b04abc8efcb0d36052661efcf4a684978de29", func := "jetsam/jetsamlaw07.StepEvals", spec := "stepEvals", unfollowed := true, recurses := true, loops := true, plainKeys := false, apart := false, narrowed := true }
def StepEvalsUptoSaid : Prop := stepEvalsUptoRow.holds Try.pinned (OpenSpec.upto stepEvalsSpec)

/-- 'jetsamlaw07.StepNumbers', WHERE WHAT IT READS IS OF BULK AT MOST 1048576: true; the input reads as it did. -/
def stepNumbersUptoRow : OpenClaim := { program := "ytamgnhdbeecapaa", sum := "0c34748bce7e9ad9c884f0c9dd3b04abc8efcb0d36052661efcf4a684978de29", func := "jetsam/jetsamlaw07.StepNumbers", spec := "stepNumbers", unfollowed := true, recurses := true, plainKeys := false, apart := false, narrowed := true }
def StepNumbersUptoSaid : Prop := stepNumbersUptoRow.holds Try.pinned (OpenSpec.upto stepNumbersSpec)

/-- 'jetsamlaw05.FlowRaw', WHERE WHAT IT READS IS OF BULK AT MOST 1048576: true; the input reads as it did. -/
def flowRawUptoRow : OpenClaim := { program := "ytamgnhdbeecapaa", sum := "0c34748bce7e9ad9c884f0c9dd3b04abc8efcb0d36052661efcf4a684978de29", func := "jetsam/jetsamlaw05.FlowRaw", spec := "flowRaw", unfollowed := true, recurses := true, loops := true, plainKeys := false, apart := false, narrowed := true }
def FlowRawUptoSaid : Prop := flowRawUptoRow.holds Try.pinned (OpenSpec.upto flowRawSpec)

/-- 'jetsamlaw05.FlowNots', WHERE WHAT IT READS IS OF BULK AT MOST 1048576: true; the input reads as it did. -/
def flowNotsUptoRow : OpenClaim := { program := "ytamgnhdbeecapaa", sum := "0c34748bce7e9ad9c884f0c9dd3b04abc8efcb0d36052661efcf4a684978de29", func := "jetsam/jetsamlaw05.FlowNots", spec := "flowNots", unfollowed := true, recurses := true, plainKeys := false, apart := false, narrowed := true }
def FlowNotsUptoSaid : Prop := flowNotsUptoRow.holds Try.pinned (OpenSpec.upto flowNotsSpec)

/-- 'jetsamlaw05.FlowMany', WHERE WHAT IT READS IS OF BULK AT MOST 1048576: true; the input reads as it did. -/
def flowManyUptoRow : OpenClaim := { program := "ytamgnhdbeecapaa", sum := "0c34748bce7e9ad9c884f0c9dd3b04abc8efcb0d36052661efcf4a684978de29", func := "jetsam/jetsamlaw05.FlowMany", spec := "flowMany", unfollowed := true, recurses := true, plainKeys := false, apart := false, narrowed := true }
def FlowManyUptoSaid : Prop := flowManyUptoRow.holds Try.pinned (OpenSpec.upto flowManySpec)

/-- 'jetsamlaw05.FlowPaths', WHERE WHAT IT READS IS OF BULK AT MOST 1048576: true; the input reads as it did. -/
def flowPathsUptoRow : OpenClaim := { program := "ytamgnhdbeecapaa", sum := "0c34748bce7e9ad9c884f0c9dd3b04abc8efcb0d36052661efcf4a684978de29", func := "jetsam/jetsamlaw05.FlowPaths", spec := "flowPaths", unfollowed := true, recurses := true, loops := true, plainKeys := false, apart := false, narrowed := true }
def FlowPathsUptoSaid : Prop := flowPathsUptoRow.holds Try.pinned (OpenSpec.upto flowPathsSpec)

/-- 'jetsamlaw05.FlowCounts', WHERE WHAT IT READS IS OF BULK AT MOST 1048576: true; the input reads as it did. -/
def flowCountsUptoRow : OpenClaim := { program := "ytamgnhdbeecapaa", sum := "0c34748bce7e9ad9c884f0c9dd3b04abc8efcb0d36052661efcf4a684978de29", func := "jetsam/jetsamlaw05.FlowCounts", spec := "flowCounts", unfollowed := true, recurses := true, plainKeys := false, apart := false, narrowed := true }
def FlowCountsUptoSaid : Prop := flowCountsUptoRow.holds Try.pinned (OpenSpec.upto flowCountsSpec)

/-- 'jetsamlaw07.StepQueues', WHERE WHAT IT READS IS OF BULK AT MOST 1048576: true; the input reads as it did. -/
def stepQueuesUptoRow : OpenClaim := { program := "ytamgnhdbeecapaa", sum := "0c34748bce7e9ad9c884f0c9dd3b04abc8efcb0d36052661efcf4a684978de29", func := "jetsam/jetsamlaw07.StepQueues", spec := "stepQueues", unfollowed := true, recurses := true, plainKeys := false, apart := false, narrowed := true }
def StepQueuesUptoSaid : Prop := stepQueuesUptoRow.holds Try.pinned (OpenSpec.upto stepQueuesSpec)

/-- 'jetsamlaw07.StepAlone', WHERE WHAT IT READS IS OF BULK AT MOST 1048576: true; the input reads as it did. -/
def stepAloneUptoRow : OpenClaim := { program := "ytamgnhdbeecapaa", sum := "0c34748bce7e9ad9c884f0c9dd3b04abc8efcb0d36052661efcf4a684978de29", func := "jetsam/jetsamlaw07.StepAlone", spec := "stepAlone", unfollowed := true, recurses := true, plainKeys := false, apart := false, narrowed := true }
def StepAloneUptoSaid : Prop := stepAloneUptoRow.holds Try.pinned (OpenSpec.upto stepAloneSpec)

/-- 'jetsamlaw07.StepLossy', WHERE WHAT IT READS IS OF BULK AT MOST 1048576: true; the input reads as it did. -/
def stepLossyUptoRow : OpenClaim := { program := "ytamgnhdbeecapaa", sum := "0c34748bce7e9ad9c884f0c9dd3b04abc8efcb0d36052661efcf4a684978de29", func := "jetsam/jetsamlaw07.StepLossy", spec := "stepLossy", unfollowed := true, recurses := true, plainKeys := false, apart := false, narrowed := true }
def StepLossyUptoSaid : Prop := stepLossyUptoRow.holds Try.pinned (OpenSpec.upto stepLossySpec)

end Rows
end Go.Proofs.Ytamgnhdbeecapaa
