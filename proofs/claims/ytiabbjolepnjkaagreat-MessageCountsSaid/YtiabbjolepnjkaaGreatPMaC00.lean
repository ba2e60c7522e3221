/- Part of the proof that the laws answer true for every input. -/
import Derived.Test.YtiabbjolepnjkaaGreatPMaA04
set_option linter.unusedSimpArgs false
set_option linter.unnecessarySimpa false
set_option linter.unusedVariables false
set_option maxRecDepth 100000
set_option maxHeartbeats 40000000
namespace Go.Proofs.YtiabbjolepnjkaaGreat
section
variable {K:Type} [DecidableEq K]
theorem zgE {l:List K} {j k:K} (hj:j∈l) (hk:k∈l) (h:lab l j=lab l k):j=k:=by
 unfold lab at h;have h1:=List.getElem_idxOf (x:=j) (xs:=firsts l) (List.idxOf_lt_length_iff.2 (zV.2 hj));have h2:=List.getElem_idxOf (x:=k) (xs:=firsts l) (List.idxOf_lt_length_iff.2 (zV.2 hk));rw[←h1,←h2];congr 1
end
end Go.Proofs.YtiabbjolepnjkaaGreat
