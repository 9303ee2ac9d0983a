/- Part 1 of the proof: LtCells. -/
import Derived.Test.YtamgnhdbeecapaaRows
import Derived.WalkKit
import Derived.ProofKit
import Derived.JoinedCond
set_option linter.unusedSimpArgs false
set_option linter.unusedVariables false
namespace Go.Proofs.Ytamgnhdbeecapaa.confStarts
open Go.ChangeShapes Go.WideShapes Go.ChangeAt Go.RowKit
theorem facts:joinedFacts Try.prog 7 Try.f7 (Rows.OpenSpec.upto Rows.confStartsSpec).bare Rows.confStartsUptoRow=true:=by kernel_rfl
end Go.Proofs.Ytamgnhdbeecapaa.confStarts
