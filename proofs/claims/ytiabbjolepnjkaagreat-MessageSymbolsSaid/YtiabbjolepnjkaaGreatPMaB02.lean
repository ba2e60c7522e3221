/- Part of the proof that the laws answer true for every input. -/
import Derived.Test.YtiabbjolepnjkaaGreatPMaA29
import Derived.Test.YtiabbjolepnjkaaGreatPMaB00
set_option linter.unusedSimpArgs false
set_option linter.unnecessarySimpa false
set_option linter.unusedVariables false
set_option maxRecDepth 100000
set_option maxHeartbeats 40000000
namespace Go.Proofs.YtiabbjolepnjkaaGreat
open Go.RowKit
attribute [local go_sem ↓] Go.wp_at_zero Go.wp_at_succ
theorem XE {S S':Nat→Prop} {w:World} {v1 v2:Value} {l1 l2:List Int} (h1:Ints S w v1 l1) (h2:Ints S' w v2 l2):
  Calls Tryz.prog 22 #[v1,v2] w (QuietP w (.bool (decide (l1=l2)))):=by
 obtain ⟨a1,cap1,rfl,ha1,_,hm1,hc1,_⟩:=h1;obtain ⟨a2,cap2,rfl,ha2,_,_,hc2,_⟩:=h2;unfold maxLen at hm1;obtain ⟨i0,hi,hz0,hz1,hz2⟩:=info_parts zD;have hix1:=zE Tryz.underlying36 hi hz1 ha1;have hix2:=zE Tryz.underlying36 hi hz1 ha2;clear hi hz0 hz1 hz2;by_cases hlen:l1.length=l2.length
 ·have hne:((l1.length:Int) !=l2.length)=false:=by simp[hlen]
  have HL:=zhd hlen;clear hlen;go_enter Tryz.func22,Tryz.ntmps22;go_wp2;go_loopw [5] (fun i wr=>∃k:Nat,k≤l1.length∧i=.int .i64 k∧(∃m,wr=w.drewN m)∧l1.take k=l2.take k) (fun i _=>l1.length - (intOf i).toNat)
  case atStart=>exact ⟨0,by omega,rfl,⟨0,rfl⟩,rfl⟩
  case round=>
   obtain ⟨k,hk,rfl,⟨m,rfl⟩,hrel⟩:=hrel;have H:=zhd hrel;clear hrel;by_cases hlt:k<l1.length
   ·have hlt2:k<l2.length:=by have:=HL.out;omega
    have q1:=hix1 k hlt;have q2:=hix2 k hlt2;have p1:=hc1 k hlt;have p2:=hc2 k hlt2;clear hix1 hix2 hc1 hc2;by_cases he:nth l1 k=nth l2 k
    ·have he':(nth l1 k !=nth l2 k)=false:=by simp[he]
     have HE:=zhd he;clear he;go_wp2;go_quiet (fail);go_wp2;go_roundw
     case rel=>exact ⟨k+1,by omega,by go_num,⟨_,rfl⟩,xj hlt hlt2 H.out HE.out⟩
     case measure=>simp[intOf];omega
    ·have he':(nth l1 k !=nth l2 k)=true:=by simp[he]
     go_wp2;go_quiet (fail);go_wp2;go_ret;rw[World.drewN_drewN];exact .of (zv (decide_eq_false (fun (e:l1=l2)=>he (by rw[e]))).symm) _
   ·go_wp2;go_ret;refine .of (zv ?_) _;have:=H.out;have h2:=HL.out;rw[List.take_of_length_le (by omega),List.take_of_length_le (by omega)]at this;exact (decide_eq_true this).symm
 ·have hne:((l1.length:Int) !=l2.length)=true:=by simp;omega
  go_enter Tryz.func22,Tryz.ntmps22;go_wp2;go_ret;exact .of (zv (decide_eq_false (fun (e:l1=l2)=>hlen (by rw[e]))).symm) 0
theorem zaI {S S':Nat→Prop} {w:World} {v1 v2:Value} {l:List Int} (h1:Ints S w v1 l) (h2:Ints S' w v2 l):
  Calls Tryz.prog 22 #[v1,v2] w (Post w fun _ r=>r=.bool true):=(XE h1 h2).mono fun _ _ h=>by simpa using h.post
def PairL (l:List Int) (x:Int) (w':World) (r:Value):Prop:=∃a c,r=.tuple #[.slice a l.length c,x]∧Ints TT w' (.slice a l.length c) l
end Go.Proofs.YtiabbjolepnjkaaGreat
namespace Go.Proofs.YtiabbjolepnjkaaGreat
open Go.ChangeShapes Go.WideShapes Go.ChangeAt Go.RowKit
section
variable {H:Type} {enc:TypeId×Value→H} {W:World}
theorem getP3 {α:Type} {l:List α} (h:l.length=3):∃a0 a1 a2,l=[a0,a1,a2]:=by
 match l,h with
 | [a0,a1,a2],_=>exact ⟨a0,a1,a2,rfl⟩
theorem Y7:Tryz.prog.cellsOf 68=3:=by kernel_rfl
theorem zeV {base:Nat} {v:Value} {d:DataW H} {p:List MemPlace} (hl:Lim 68 d) (hv:Value.okWide Tryz.prog W .any base 68 v)
  (h:DataW.Trod enc Tryz.prog W 0 (fun _=>true) true 68 v d p):∃x0 x1 x2:Int,v=.agg #[x0,x1,x2]:=by
 obtain ⟨cs,rfl,_⟩:=okWide_struct Tryz.underlying68 hv;obtain ⟨fuel,hf⟩:=h;obtain ⟨hlen,hg⟩:=fld Tryz.underlying68 hf hl;rw[Y7]at hlen;obtain ⟨l⟩:=cs;obtain ⟨c0,c1,c2,hl2⟩:=getP3 hlen;simp only[Value.cells]at hl2;subst hl2;clear hf hlen hv;obtain ⟨m0,y0,h0,l0⟩:=hg 0 _ rfl;replace h0:DataW.trod enc Tryz.prog W 0 (fun _=>true) true m0 3 (([c0,c1,c2].drop 0).take (Tryz.prog.cellsOf 3))=some y0:=h0;rw[zH]at h0;replace h0:DataW.trod enc Tryz.prog W 0 (fun _=>true) true m0 3 [c0]=some y0:=h0;obtain ⟨x0,rfl⟩:=qC h0;obtain ⟨m1,y1,h1,l1⟩:=hg 1 _ rfl;replace h1:DataW.trod enc Tryz.prog W 0 (fun _=>true) true m1 3 (([.int .i64 x0,c1,c2].drop 1).take (Tryz.prog.cellsOf 3))=some y1:=h1;rw[zH]at h1;replace h1:DataW.trod enc Tryz.prog W 0 (fun _=>true) true m1 3 [c1]=some y1:=h1;obtain ⟨x1,rfl⟩:=qC h1;obtain ⟨m2,y2,h2,l2⟩:=hg 2 _ rfl;replace h2:DataW.trod enc Tryz.prog W 0 (fun _=>true) true m2 3 (([.int .i64 x0,.int .i64 x1,c2].drop 2).take (Tryz.prog.cellsOf 3))=some y2:=h2;rw[zH]at h2;replace h2:DataW.trod enc Tryz.prog W 0 (fun _=>true) true m2 3 [c2]=some y2:=h2;obtain ⟨x2,rfl⟩:=qC h2;exact ⟨x0,x1,x2,rfl⟩
end
end Go.Proofs.YtiabbjolepnjkaaGreat
