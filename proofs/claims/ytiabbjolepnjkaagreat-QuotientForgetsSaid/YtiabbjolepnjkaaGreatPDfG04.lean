/- Part of the proof that the laws answer true for every input. -/
import Derived.Test.YtiabbjolepnjkaaGreatPDfC03
import Derived.Test.YtiabbjolepnjkaaGreatPDfG02
import Derived.Test.YtiabbjolepnjkaaGreatPDfG03
set_option linter.unusedSimpArgs false
set_option linter.unnecessarySimpa false
set_option linter.unusedVariables false
set_option maxRecDepth 100000
set_option maxHeartbeats 40000000
namespace Go.Proofs.YtiabbjolepnjkaaGreat
open Go.RowKit
attribute [local go_sem ↓] Go.wp_at_zero Go.wp_at_succ
def silL (s:SysF):List Int:=List.replicate s.tab.length (-1)
theorem zaI (s:SysF):(silL s).length=s.tab.length:=List.length_replicate ..
theorem QU {s:SysF} {v:Nat} (h:v<s.tab.length):nth (silL s) v= -1:=by simp[silL,nth,h]
theorem zdL {s:SysF} (h8:Moves8 s.p.st):ruleE s (silL s)=verE s:=by
 unfold ruleE;by_cases h0:verE s=0
 case neg=>rw[if_neg h0]
 rw[if_pos h0,h0];have hg:=qG h0 h8;have ho:1≤s.p.outs:=by have:=yR hg.pok.t;omega
 unfold formE;rw[if_pos (zaI s)];refine yG fun v hv=>?_;rw[zaI]at hv;unfold frmV;rw[QU hv,if_neg (by omega)];rcases hg.tab.bef hv with h1 | ⟨u,h1,h2⟩
 ·rw[if_neg (by omega)]
 ·rw[h2,Int.toNat_natCast,QU (by omega),if_neg (by omega)]
end Go.Proofs.YtiabbjolepnjkaaGreat
