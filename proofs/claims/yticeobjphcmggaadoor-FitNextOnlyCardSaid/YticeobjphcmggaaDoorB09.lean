/- The reference's search. -/
import Derived.Test.YticeobjphcmggaaDoorAvR
import Derived.Test.YticeobjphcmggaaDoorB08
set_option linter.unusedVariables false
set_option linter.unusedSimpArgs false
set_option maxHeartbeats 64000000
set_option maxRecDepth 8000
namespace Go.Av
open Go Go.RowKit Go.Proofs
set_option maxHeartbeats 64000000
@[go_sem ↓ high] theorem frz_encRP (n : Nd) : frzL (encRP n) = encRP n := rfl
@[go_sem] theorem frzLL_rep (v : Int) : ∀ n : Nat, frzLL (List.replicate n [DV.int .i64 v]) = List.replicate n [DV.int .i64 v]
 | 0 => rfl
 | n + 1 => by
   rw [List.replicate_succ, frzLL, frzLL_rep v n]
   rfl
end Go.Av
