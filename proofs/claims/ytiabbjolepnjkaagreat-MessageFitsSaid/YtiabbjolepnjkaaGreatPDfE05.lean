/- Part of the proof that the laws answer true for every input. -/
import Derived.Test.YtiabbjolepnjkaaGreatPDfB01
import Derived.Test.YtiabbjolepnjkaaGreatPDfE04
set_option linter.unusedSimpArgs false
set_option linter.unnecessarySimpa false
set_option linter.unusedVariables false
set_option maxRecDepth 100000
set_option maxHeartbeats 40000000
namespace Go.Proofs.YtiabbjolepnjkaaGreat
open Go.RowKit
attribute [local go_sem ↓] Go.wp_at_zero Go.wp_at_succ
theorem zgQ {n:Nat} (h:n≤100000):wrap64 ((n:Int)+1)=((n+1:Nat):Int):=by rw[IntWalk.wrap64_in _ (by omega)];omega
end Go.Proofs.YtiabbjolepnjkaaGreat
