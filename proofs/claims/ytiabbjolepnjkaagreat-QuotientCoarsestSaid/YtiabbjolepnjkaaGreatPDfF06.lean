/- Part of the proof that the laws answer true for every input. -/
import Derived.Test.YtiabbjolepnjkaaGreatPDfC11
import Derived.Test.YtiabbjolepnjkaaGreatPDfF04
import Derived.Test.YtiabbjolepnjkaaGreatPDfF05
set_option linter.unusedSimpArgs false
set_option linter.unnecessarySimpa false
set_option linter.unusedVariables false
set_option maxRecDepth 100000
set_option maxHeartbeats 40000000
namespace Go.Proofs.YtiabbjolepnjkaaGreat
theorem tmodQ (a b:Nat):Int.tmod (a:Int) (b:Int)=((a % b:Nat):Int):=rfl
theorem wrapB (a:Nat) (h:a<256):IntKind.i64.wrap (a:Int)=a:=by simp[IntKind.wrap,IntKind.bits,IntKind.signed];omega
end Go.Proofs.YtiabbjolepnjkaaGreat
