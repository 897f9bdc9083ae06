/- Part of a proof. -/
import Derived.Test.YtpdfolkoejbbgaaGreatDoorWB04
set_option linter.unusedVariables false
set_option linter.unusedSimpArgs false
set_option maxHeartbeats 64000000
set_option maxRecDepth 8000
namespace Go.Av
open Go Go.RowKit Go.Proofs
end Go.Av
