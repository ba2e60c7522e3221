/- Part of the proof that the laws answer true for every input. -/
import Derived.Test.YtiabbjolepnjkaaGreatPDfB10
set_option linter.unusedSimpArgs false
set_option linter.unnecessarySimpa false
set_option linter.unusedVariables false
set_option maxRecDepth 100000
set_option maxHeartbeats 40000000
namespace Go.Proofs.YtiabbjolepnjkaaGreat
theorem zgF {s:SysF} (hg:GoodS s s.N s.K) (ch:List Int):FitP s.tab (silL s) (quoL s ch):=fun v w hv hw hne hc=>by
 obtain ⟨⟨a,b,_⟩,d⟩:=xY hg ch v w hv hw hne hc;exact ⟨⟨a,b,by rw[QU hv,QU hw]⟩,d⟩
theorem zhh {s:SysF} {ch:List Int} (hg:GoodS s s.N s.K) (h0:verE s=0) (hk:checkS (quoL s ch)=0):mesE s (quoL s ch)=0:=by
 unfold mesE chkQ;rw[if_pos h0,if_pos hk,if_pos (zP s ch),Qj.2 (zgF hg ch)];rfl
end Go.Proofs.YtiabbjolepnjkaaGreat
