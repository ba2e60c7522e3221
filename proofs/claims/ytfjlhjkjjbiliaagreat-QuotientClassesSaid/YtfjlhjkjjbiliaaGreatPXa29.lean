/- Part of the proof that the laws answer true for every input. -/
import Derived.Test.YtfjlhjkjjbiliaaGreatPXa28
set_option linter.unusedSimpArgs false
set_option linter.unnecessarySimpa false
set_option linter.unusedVariables false
set_option maxRecDepth 100000
set_option maxHeartbeats 40000000
namespace Go.Proofs.YtfjlhjkjjbiliaaGreat
open Go.RowKit
attribute [local go_sem ↓] Go.wp_at_zero Go.wp_at_succ
def fltyW (word:List (List Int)):Int:=if word.length=0 then 0 else nth (nthL word (word.length - 1)) 6
def maskW (N:Nat) (word:List (List Int)):Nat:=without (2 ^ N - 1) (fltyW word).toNat
def rndT (T:List (List Int)) (v:Nat):Nat:=(nth (nthL T v) 1).toNat
theorem TabV.rnd {N K:Nat} {T:List (List Int)} {v q k:Nat} (h:TabV N K T v q k):rndT T v=k:=by unfold rndT;rw[h.k0];exact Int.toNat_natCast k
end Go.Proofs.YtfjlhjkjjbiliaaGreat
