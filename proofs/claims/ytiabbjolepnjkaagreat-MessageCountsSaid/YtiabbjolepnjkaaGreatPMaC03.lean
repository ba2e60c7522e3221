/- Part of the proof that the laws answer true for every input. -/
import Derived.Test.YtiabbjolepnjkaaGreatPMaA27
import Derived.Test.YtiabbjolepnjkaaGreatPMaC02
set_option linter.unusedSimpArgs false
set_option linter.unnecessarySimpa false
set_option linter.unusedVariables false
set_option maxRecDepth 100000
set_option maxHeartbeats 40000000
namespace Go.Proofs.YtiabbjolepnjkaaGreat
section
variable {N K:Nat} {T:List (List Int)} {cl:List Int} {m r f t:Nat}
structure SymI (T:List (List Int)) (cl:List Int) (r f t c j:Nat) (y:Int):Prop where
 st:(y= -1∧∀i,i<j→0≤symV T cl r f t i→eqC T cl t c i=false)∨(0≤y∧y=symV T cl r f t c∧manyN T cl r f t (c+1)=manyN T cl r f t c)
theorem SymI.zero (c:Nat):SymI T cl r f t c 0 (-1):=⟨.inl ⟨rfl,fun i hi=>by omega⟩⟩
theorem SymI.skip {c j:Nat} (h:SymI T cl r f t c j (-1)) (hs:symV T cl r f t j<0):SymI T cl r f t c (j+1) (-1):=by
 rcases h.st with ⟨_,h1⟩ | ⟨h1,_⟩
 ·refine ⟨.inl ⟨rfl,fun i hi h0=>?_⟩⟩;by_cases e:i=j
  ·subst e;omega
  ·exact h1 i (by omega) h0
 ·omega
theorem SymI.no {c j:Nat} (h:SymI T cl r f t c j (-1)) (he:eqC T cl t c j=false):SymI T cl r f t c (j+1) (-1):=by
 rcases h.st with ⟨_,h1⟩ | ⟨h1,_⟩
 ·refine ⟨.inl ⟨rfl,fun i hi h0=>?_⟩⟩;by_cases e:i=j
  ·subst e;exact he
  ·exact h1 i (by omega) h0
 ·omega
theorem SymI.yes (hT:TabOK N K T) (hn:T.Nodup) (hu:Used T cl m) {c j:Nat} (hc:c<m) (hj:j<c) (sc:sndB T cl r f c=true) (h0:0≤symV T cl r f t j) (he:eqC T cl t c j=true):SymI T cl r f t c (j+1) (symV T cl r f t j):=
 ⟨.inr ⟨h0,(zgr hT hn hu hc hj sc h0 he).symm,zfo hT hn hu hc hj sc h0 he⟩⟩
theorem SymI.done (hT:TabOK N K T) (hn:T.Nodup) (hu:Used T cl m) {c:Nat} (hc:c<m) (sc:sndB T cl r f c=true) (h:SymI T cl r f t c c (-1)):symV T cl r f t c=(manyN T cl r f t c:Int)∧manyN T cl r f t (c+1)=manyN T cl r f t c+1:=by
 rcases h.st with ⟨_,h1⟩ | ⟨h1,_⟩
 ·exact zgu hT hn hu hc sc h1
 ·omega
theorem SymI.found {c j:Nat} {y:Int} (h:SymI T cl r f t c j y) (hy:0≤y):y=symV T cl r f t c∧manyN T cl r f t (c+1)=manyN T cl r f t c:=by
 rcases h.st with ⟨h1,_⟩ | ⟨_,h1⟩
 ·omega
 ·exact h1
end
end Go.Proofs.YtiabbjolepnjkaaGreat
