/- Part of the proof that the laws answer true for every input. -/
import Derived.Test.YtiabbjolepnjkaaGreatPDfA05
set_option linter.unusedSimpArgs false
set_option linter.unnecessarySimpa false
set_option linter.unusedVariables false
set_option maxRecDepth 100000
set_option maxHeartbeats 40000000
namespace Go.Proofs.YtiabbjolepnjkaaGreat
section
variable {K:Type} [DecidableEq K]
theorem zeT {s:List K} {x:K} (h:s.Nodup):(addF s x).Nodup:=by
 unfold addF;split
 ·exact h
 ·rename_i hx;rw[List.nodup_append];refine ⟨h,by simp,?_⟩;intro a ha b hb e;simp at hb;exact hx (hb▸e▸ha)
theorem Qe (l:List K):∀s:List K,s.Nodup→(l.foldl addF s).Nodup:=by
 induction l with
 | nil=>intro s h;exact h
 | cons x l ih=>intro s h;exact ih _ (zeT h)
theorem zbz (l:List K):(firsts l).Nodup:=Qe l [] List.nodup_nil
end
end Go.Proofs.YtiabbjolepnjkaaGreat
