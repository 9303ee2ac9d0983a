/- Part 1 of the proof: LpCells. -/
import Derived.Test.YtamgnhdbeecapaaRows
import Derived.WalkKit
import Derived.ProofKit
import Derived.JoinedCond

namespace Go.Proofs.Ytamgnhdbeecapaa.flowPaths
open Go.ChangeShapes Go.WideShapes Go.ChangeAt Go.RowKit
theorem facts:joinedFacts Try.prog 14 Try.f14 (Rows.OpenSpec.upto Rows.flowPathsSpec).bare Rows.flowPathsUptoRow=true:=by kernel_rfl
end Go.Proofs.Ytamgnhdbeecapaa.flowPaths
