/- Part of the proof that the laws answer true for every input. -/
import Derived.Test.YtiabbjolepnjkaaGreatPDfE00
set_option linter.unusedSimpArgs false
set_option linter.unnecessarySimpa false
set_option linter.unusedVariables false
set_option maxRecDepth 100000
set_option maxHeartbeats 40000000
namespace Go.Proofs.YtiabbjolepnjkaaGreat
theorem zeB {N K:Nat} {T:List (List Int)} {cl:List Int} {m r f t:Nat} (hT:TabOK N K T) (hn:T.Nodup) (hu:Used T cl m):Enough T cl (symL T cl r f t m) t:=fun a b ha hb h0 he=>by
 rw[yS]at ha;rw[YI _ _ _ _ _ ha]at h0 he;rw[YI _ _ _ _ _ (by omega:b<m)]at he;have sa:=(yE (r:=r) (f:=f) (t:=t) hT hn hu ha).2.2.1 h0;have sb:=(yE (r:=r) (f:=f) (t:=t) hT hn hu (by omega:b<m)).2.2.1 (by omega);exact (zcd hT hn hu ha (by omega) sa sb).1 he
end Go.Proofs.YtiabbjolepnjkaaGreat
