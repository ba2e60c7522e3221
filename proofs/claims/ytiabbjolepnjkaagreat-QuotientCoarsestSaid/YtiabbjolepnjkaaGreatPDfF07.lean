/- Part of the proof that the laws answer true for every input. -/
import Derived.Test.YtiabbjolepnjkaaGreatPDfC11
import Derived.Test.YtiabbjolepnjkaaGreatPDfF04
import Derived.Test.YtiabbjolepnjkaaGreatPDfF05
set_option linter.unusedSimpArgs false
set_option linter.unnecessarySimpa false
set_option linter.unusedVariables false
set_option maxRecDepth 100000
set_option maxHeartbeats 40000000
namespace Go.Proofs.YtiabbjolepnjkaaGreat
open Go.RowKit
attribute [local go_sem ↓] Go.wp_at_zero Go.wp_at_succ
theorem xb {base n:Nat} {w:World} {v:Value} {l:List Int} (hn:l.length=n) (h:w.ownsRow base 3 1 v n (l.map (Value.int .i64))) (hw:∀x∈l,WF x):Ints (fun b=>base≤b) w v l:=by
 subst hn;exact Ints.of_own h hw
theorem YO {w:World} {base size n:Nat} {e:TypeId} {v:Value} {xs:List Value} (h:w.ownsRow base e size v n xs):∀k,v.ownBlock=some k→k<w.heap.size:=by
 rcases h.2 with ⟨e1,_⟩ | ⟨g,cap,cur,e1,hb,hg,_⟩
 ·rw[e1];intro k hk;simp[Value.ownBlock]at hk
 ·rw[e1];intro k hk;simp[Value.ownBlock]at hk;subst hk;exact (Array.getElem?_eq_some_iff.1 hg).1
end Go.Proofs.YtiabbjolepnjkaaGreat
