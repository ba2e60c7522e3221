/- Part of the proof that the laws answer true for every input. -/
import Derived.Test.YtiabbjolepnjkaaGreatPVaA17
set_option linter.unusedSimpArgs false
set_option linter.unnecessarySimpa false
set_option linter.unusedVariables false
set_option maxRecDepth 100000
set_option maxHeartbeats 40000000
namespace Go.Proofs.YtiabbjolepnjkaaGreat
open Go.ChangeShapes Go.WideShapes Go.ChangeAt Go.RowKit
section
variable {H:Type} {enc:TypeId×Value→H} {W:World}
theorem zbl:Tryz.prog.cellsOf 54=3:=by kernel_rfl
theorem zet {base:Nat} {v:Value} {d:DataW H} {p:List MemPlace} (hl:Lim 54 d) (hv:Value.okWide Tryz.prog W .any base 54 v)
  (h:DataW.Trod enc Tryz.prog W 0 (fun _=>true) true 54 v d p):∃(x y:Int)(u:Value)(l:List Int),v=.agg #[x,y,u]∧Ints (fun _=>True) W u l:=by
 obtain ⟨cs,rfl,_⟩:=okWide_struct Tryz.underlying54 hv;obtain ⟨fuel,hf⟩:=h;obtain ⟨hlen,hg⟩:=fld Tryz.underlying54 hf hl;rw[zbl]at hlen;obtain ⟨l⟩:=cs;obtain ⟨c0,c1,c2,hl2⟩:=getR3 hlen;simp only[Value.cells]at hl2;subst hl2;clear hf hlen hv;obtain ⟨m0,y0,h0,l0⟩:=hg 0 _ rfl;replace h0:DataW.trod enc Tryz.prog W 0 (fun _=>true) true m0 3 (([c0,c1,c2].drop 0).take (Tryz.prog.cellsOf 3))=some y0:=h0;rw[zO]at h0;replace h0:DataW.trod enc Tryz.prog W 0 (fun _=>true) true m0 3 [c0]=some y0:=h0;obtain ⟨x,rfl⟩:=Zp h0;obtain ⟨m1,y1,h1,l1⟩:=hg 1 _ rfl;replace h1:DataW.trod enc Tryz.prog W 0 (fun _=>true) true m1 3 (([.int .i64 x,c1,c2].drop 1).take (Tryz.prog.cellsOf 3))=some y1:=h1;rw[zO]at h1;replace h1:DataW.trod enc Tryz.prog W 0 (fun _=>true) true m1 3 [c1]=some y1:=h1;obtain ⟨y,rfl⟩:=Zp h1;obtain ⟨m2,y2,h2,l2⟩:=hg 2 _ rfl;replace h2:DataW.trod enc Tryz.prog W 0 (fun _=>true) true m2 36 (([.int .i64 x,.int .i64 y,c2].drop 2).take (Tryz.prog.cellsOf 36))=some y2:=h2;rw[qE]at h2;replace h2:DataW.trod enc Tryz.prog W 0 (fun _=>true) true m2 36 [c2]=some y2:=h2;obtain ⟨v2,i2,e2,r2⟩:=yE h2;simp only[List.cons.injEq,and_true]at e2;subst e2;exact ⟨x,y,_,i2,rfl,r2⟩
end
end Go.Proofs.YtiabbjolepnjkaaGreat
