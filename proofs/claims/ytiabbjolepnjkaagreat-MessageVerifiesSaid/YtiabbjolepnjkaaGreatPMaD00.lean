/- Part of the proof that the laws answer true for every input. -/
import Derived.Test.YtiabbjolepnjkaaGreatPMaA15
set_option linter.unusedSimpArgs false
set_option linter.unnecessarySimpa false
set_option linter.unusedVariables false
set_option maxRecDepth 100000
set_option maxHeartbeats 40000000
namespace Go.Proofs.YtiabbjolepnjkaaGreat
open Go.ChangeShapes Go.WideShapes Go.ChangeAt Go.RowKit
section
variable {H:Type} {enc:TypeId×Value→H} {W:World}
theorem getP4 {α:Type} {l:List α} (h:l.length=4):∃a0 a1 a2 a3,l=[a0,a1,a2,a3]:=by
 match l,h with
 | [a0,a1,a2,a3],_=>exact ⟨a0,a1,a2,a3,rfl⟩
theorem Y7:Tryz.prog.cellsOf 68=3:=by kernel_rfl
theorem X8:Tryz.prog.cellsOf 82=4:=by kernel_rfl
theorem zdg {base:Nat} {v:Value} {d:DataW H} {p:List MemPlace} (hl:Lim 82 d) (hv:Value.okWide Tryz.prog W .any base 82 v)
  (h:DataW.Trod enc Tryz.prog W 0 (fun _=>true) true 82 v d p):∃(x0 x1 x2:Int)(u:Value)(l:List Int),v=.agg #[x0,x1,x2,u]∧Ints (fun _=>True) W u l:=by
 obtain ⟨cs,rfl,_⟩:=okWide_struct Tryz.underlying82 hv;obtain ⟨fuel,hf⟩:=h;obtain ⟨hlen,hg⟩:=fld Tryz.underlying82 hf hl;rw[X8]at hlen;obtain ⟨l⟩:=cs;obtain ⟨c0,c1,c2,c3,hl2⟩:=getP4 hlen;simp only[Value.cells]at hl2;subst hl2;clear hf hlen hv;obtain ⟨ma,ya,ha,la⟩:=hg 0 _ rfl;replace ha:DataW.trod enc Tryz.prog W 0 (fun _=>true) true ma 68 (([c0,c1,c2,c3].drop 0).take (Tryz.prog.cellsOf 68))=some ya:=ha;rw[Y7]at ha;replace ha:DataW.trod enc Tryz.prog W 0 (fun _=>true) true ma 68 [c0,c1,c2]=some ya:=ha;obtain ⟨mb,yb,hb,lb⟩:=hg 1 _ rfl;replace hb:DataW.trod enc Tryz.prog W 0 (fun _=>true) true mb 36 (([c0,c1,c2,c3].drop 3).take (Tryz.prog.cellsOf 36))=some yb:=hb;rw[xX]at hb;replace hb:DataW.trod enc Tryz.prog W 0 (fun _=>true) true mb 36 [c3]=some yb:=hb;obtain ⟨v2,i2,e2,r2⟩:=yP hb;simp only[List.cons.injEq,and_true]at e2;subst e2;obtain ⟨_,gp⟩:=fld Tryz.underlying68 ha la;obtain ⟨m0,y0,h0,l0⟩:=gp 0 _ rfl;replace h0:DataW.trod enc Tryz.prog W 0 (fun _=>true) true m0 3 (([c0,c1,c2].drop 0).take (Tryz.prog.cellsOf 3))=some y0:=h0;rw[zH]at h0;replace h0:DataW.trod enc Tryz.prog W 0 (fun _=>true) true m0 3 [c0]=some y0:=h0;obtain ⟨x0,rfl⟩:=qC h0;obtain ⟨m1,y1,h1,l1⟩:=gp 1 _ rfl;replace h1:DataW.trod enc Tryz.prog W 0 (fun _=>true) true m1 3 (([.int .i64 x0,c1,c2].drop 1).take (Tryz.prog.cellsOf 3))=some y1:=h1;rw[zH]at h1;replace h1:DataW.trod enc Tryz.prog W 0 (fun _=>true) true m1 3 [c1]=some y1:=h1;obtain ⟨x1,rfl⟩:=qC h1;obtain ⟨m2,y2,h2,l2⟩:=gp 2 _ rfl;replace h2:DataW.trod enc Tryz.prog W 0 (fun _=>true) true m2 3 (([.int .i64 x0,.int .i64 x1,c2].drop 2).take (Tryz.prog.cellsOf 3))=some y2:=h2;rw[zH]at h2;replace h2:DataW.trod enc Tryz.prog W 0 (fun _=>true) true m2 3 [c2]=some y2:=h2;obtain ⟨x2,rfl⟩:=qC h2;exact ⟨x0,x1,x2,_,i2,rfl,r2⟩
end
end Go.Proofs.YtiabbjolepnjkaaGreat
