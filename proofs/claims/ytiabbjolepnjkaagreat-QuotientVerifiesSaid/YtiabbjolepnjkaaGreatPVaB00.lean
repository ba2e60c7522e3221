/- Part of the proof that the laws answer true for every input. -/
import Derived.Test.YtiabbjolepnjkaaGreatPVaA17
set_option linter.unusedSimpArgs false
set_option linter.unnecessarySimpa false
set_option linter.unusedVariables false
set_option maxRecDepth 100000
set_option maxHeartbeats 40000000
namespace Go.Proofs.YtiabbjolepnjkaaGreat
open Go.ChangeShapes Go.WideShapes Go.ChangeAt Go.RowKit
section
variable {H:Type} {enc:TypeId×Value→H} {W:World}
theorem zdU {base:Nat} {v:Value} {d:DataW H} {p:List MemPlace} (hv:Value.okWide Tryz.prog W .any base 36 v)
  (h:DataW.Trod enc Tryz.prog W 0 (fun _=>true) true 36 v d p):∃l,Ints (fun _=>True) W v l:=by
 obtain ⟨a0,len,cap,rfl⟩:=okWide_slice Tryz.underlying36 hv;obtain ⟨fuel,hf⟩:=h;obtain ⟨u,l,e,h1⟩:=yE hf;simp only[Value.cells,List.cons.injEq,and_true]at e;subst e;exact ⟨l,h1⟩
end
end Go.Proofs.YtiabbjolepnjkaaGreat
