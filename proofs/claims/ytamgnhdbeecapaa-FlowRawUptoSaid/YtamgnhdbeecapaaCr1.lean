/- Part 1 of the proof: LrCells. -/
import Derived.Test.YtamgnhdbeecapaaRows
import Derived.WalkKit
import Derived.ProofKit
import Derived.JoinedCond

namespace Go.Proofs.Ytamgnhdbeecapaa.flowRaw
open Go.ChangeShapes Go.WideShapes Go.ChangeAt Go.RowKit
theorem facts:joinedFacts Try.prog 11 Try.f11 (Rows.OpenSpec.upto Rows.flowRawSpec).bare Rows.flowRawUptoRow=true:=by kernel_rfl
end Go.Proofs.Ytamgnhdbeecapaa.flowRaw
