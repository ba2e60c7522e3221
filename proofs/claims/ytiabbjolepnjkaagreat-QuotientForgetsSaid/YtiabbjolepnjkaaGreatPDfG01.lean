/- Part of the proof that the laws answer true for every input. -/
import Derived.Test.YtiabbjolepnjkaaGreatPDfG00
set_option linter.unusedSimpArgs false
set_option linter.unnecessarySimpa false
set_option linter.unusedVariables false
set_option maxRecDepth 100000
set_option maxHeartbeats 40000000
namespace Go.Proofs.YtiabbjolepnjkaaGreat
open Go.RowKit
theorem zce {l:List Int} (h:checkS l=0):l.length≤65536:=by
 unfold checkS at h;split at h
 ·omega
 ·omega
theorem zf8 {a b:List Int} (h:bothS a b=0):a.length=b.length∧a.length≤65536:=by
 unfold bothS at h;by_cases h1:checkS a=0
 ·have:=zce h1;simp only[h1,ne_eq,not_true_eq_false,if_false]at h;by_cases h2:checkS b=0
  ·simp only[h2,not_true_eq_false,if_false]at h;by_cases h3:a.length=b.length
   ·exact ⟨h3,this⟩
   ·simp[h3]at h
  ·simp[h2]at h
 ·simp[h1]at h
end Go.Proofs.YtiabbjolepnjkaaGreat
