/- Part of the proof that the laws answer true for every input. -/
import Derived.Test.YtiabbjolepnjkaaGreatPDfE02
import Derived.Test.YtiabbjolepnjkaaGreatPDfE03
set_option linter.unusedSimpArgs false
set_option linter.unnecessarySimpa false
set_option linter.unusedVariables false
set_option maxRecDepth 100000
set_option maxHeartbeats 40000000
namespace Go.Proofs.YtiabbjolepnjkaaGreat
theorem zj8 (cl:List Int):numS cl=(mN cl:Int):=by
 have:=yI cl;unfold mN;omega
end Go.Proofs.YtiabbjolepnjkaaGreat
