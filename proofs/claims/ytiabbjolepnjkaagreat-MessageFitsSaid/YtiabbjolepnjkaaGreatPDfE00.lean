/- Part of the proof that the laws answer true for every input. -/
import Derived.Test.YtiabbjolepnjkaaGreatPDfB00
set_option linter.unusedSimpArgs false
set_option linter.unnecessarySimpa false
set_option linter.unusedVariables false
set_option maxRecDepth 100000
set_option maxHeartbeats 40000000
namespace Go.Proofs.YtiabbjolepnjkaaGreat
theorem zcW (l:List Int) (hg:∀i,i<l.length→0≤nth l i∧nth l i≤numS (l.take i)):∀k,k≤l.length→numS (l.take k)≤k:=by
 intro k;induction k with
 | zero=>intro _;simp[numS]
 | succ k ih=>
  intro hk;have:=ih (by omega);have:=hg k (by omega);rw[qO (by omega),yX];omega
end Go.Proofs.YtiabbjolepnjkaaGreat
