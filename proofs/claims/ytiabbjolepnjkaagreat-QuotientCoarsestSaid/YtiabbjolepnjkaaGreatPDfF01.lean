/- Part of the proof that the laws answer true for every input. -/
import Derived.Test.YtiabbjolepnjkaaGreatPDfA17
import Derived.Test.YtiabbjolepnjkaaGreatPDfC00
set_option linter.unusedSimpArgs false
set_option linter.unnecessarySimpa false
set_option linter.unusedVariables false
set_option maxRecDepth 100000
set_option maxHeartbeats 40000000
namespace Go.Proofs.YtiabbjolepnjkaaGreat
open Go.ChangeShapes Go.WideShapes Go.ChangeAt Go.RowKit
section
variable {H:Type} {enc:TypeId×Value→H} {W:World}
theorem getA2 {α:Type} {l:List α} (h:l.length=2):∃a0 a1,l=[a0,a1]:=by
 match l,h with
 | [a0,a1],_=>exact ⟨a0,a1,rfl⟩
theorem Qw:Tryz.prog.cellsOf 5=1:=by kernel_rfl
theorem ziZ {x:Int} (h:(Lit.int .u8 x).wf=true):0≤x∧x<256:=by
 simp[Lit.wf,IntKind.min,IntKind.max,IntKind.signed,IntKind.bits]at h;omega
theorem Zq {x:Int} (h:(Lit.int .u8 x).wf=true):∃y:Nat,x=y∧y<256:=by
 have:=ziZ h;exact ⟨x.toNat,by omega,by omega⟩
theorem zcX:Tryz.prog.cellsOf 58=2:=by kernel_rfl
theorem zcq {base:Nat} {v:Value} {d:DataW H} {p:List MemPlace} (hv:Value.okWide Tryz.prog W .any base 58 v)
  (h:DataW.Trod enc Tryz.prog W 0 (fun _=>true) true 58 v d p):∃x0 x1:Nat,v=.agg #[.int .u8 x0,.int .u8 x1]∧x0<256∧x1<256:=by
 obtain ⟨cs,rfl⟩:∃cs,v=.agg cs:=by
  simp only[Value.okWide,Tryz.underlying58]at hv;obtain ⟨cs,h1,_⟩:=hv;exact ⟨cs,h1⟩
 obtain ⟨fuel,hf⟩:=h;obtain ⟨xs,m,rfl,hx,hlen,hxl,hg⟩:=DataW.trod_array Tryz.underlying58 hf;rw[zcX]at hlen;obtain ⟨l⟩:=cs;obtain ⟨c0,c1,hl2⟩:=getA2 hlen;simp only[Value.cells]at hl2;subst hl2;have key:∀k,k<2→∃x:Nat,[c0,c1].getD k undef=.int .u8 x∧x<256:=fun k hk=>by
  have h1:=hg k hk;rw[Qw,Nat.mul_one,List.getElem?_eq_getElem (by omega)]at h1;have:k=0∨k=1:=by omega
  rcases this with rfl | rfl
  ·obtain ⟨z,e0,_,w0⟩:=DataW.trod_int Tryz.underlying5 h1;obtain ⟨y,rfl,hy⟩:=Zq w0;exact ⟨y,(List.cons.inj e0).1,hy⟩
  ·obtain ⟨z,e0,_,w0⟩:=DataW.trod_int Tryz.underlying5 h1;obtain ⟨y,rfl,hy⟩:=Zq w0;exact ⟨y,(List.cons.inj e0).1,hy⟩
 obtain ⟨x0,e0,w0⟩:=key 0 (by decide);simp only[List.getD_cons_zero,List.getD_cons_succ]at e0;subst e0;obtain ⟨x1,e1,w1⟩:=key 1 (by decide);simp only[List.getD_cons_zero,List.getD_cons_succ]at e1;subst e1;exact ⟨x0,x1,rfl,w0,w1⟩
end
end Go.Proofs.YtiabbjolepnjkaaGreat
