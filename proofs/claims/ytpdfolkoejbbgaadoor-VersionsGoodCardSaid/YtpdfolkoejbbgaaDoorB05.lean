/- Part of a proof by symbolic walks on plain data. -/
import Derived.Test.YtpdfolkoejbbgaaDoorB04
set_option linter.unusedVariables false
set_option linter.unusedSimpArgs false
set_option maxHeartbeats 4000000
namespace Go.Av
open Go Go.RowKit Go.Proofs
set_option maxRecDepth 8000
end Go.Av
