/- Part of the proof that the laws answer true for every input. -/
import Derived.Test.YtiabbjolepnjkaaGreatPDfA15
import Derived.Deep.Cut
import Derived.Deep.DeepCutAuto
import Derived.ProofKit
import Derived.OpenShut
import Derived.ShutString
import Derived.ChangeOld
import Derived.Below
import Derived.Lib.SmallJoins
import Derived.LaidMore
import Derived.SizedLaws
import Derived.Test.YtiabbjolepnjkaaGreatRows
set_option linter.unusedSimpArgs false
set_option linter.unnecessarySimpa false
set_option linter.unusedVariables false
set_option maxRecDepth 100000
set_option maxHeartbeats 40000000
namespace Go.Proofs.YtiabbjolepnjkaaGreat
open Go.RowKit
attribute [local go_sem ↓] Go.wp_at_zero Go.wp_at_succ
theorem XC {S S':Nat→Prop} {w:World} {v1 v2:Value} {l1 l2:List Int} (h1:Ints S w v1 l1) (h2:Ints S' w v2 l2):
  Calls Tryz.prog 165 #[v1,v2] w (QuietP w (.bool (decide (l1=l2)))):=by
 obtain ⟨a1,cap1,rfl,ha1,_,hm1,hc1,_⟩:=h1;obtain ⟨a2,cap2,rfl,ha2,_,_,hc2,_⟩:=h2;unfold maxLen at hm1;obtain ⟨i0,hi,hz0,hz1,hz2⟩:=info_parts zI;have hix1:=zL Tryz.underlying36 hi hz1 ha1;have hix2:=zL Tryz.underlying36 hi hz1 ha2;clear hi hz0 hz1 hz2;by_cases hlen:l1.length=l2.length
 ·have hne:((l1.length:Int) !=l2.length)=false:=by simp[hlen]
  have HL:=zhd hlen;clear hlen;go_enter Tryz.func165,Tryz.ntmps165;go_wp2;go_loopw [5] (fun i wr=>∃k:Nat,k≤l1.length∧i=.int .i64 k∧(∃m,wr=w.drewN m)∧l1.take k=l2.take k) (fun i _=>l1.length - (intOf i).toNat)
  case atStart=>exact ⟨0,by omega,rfl,⟨0,rfl⟩,rfl⟩
  case round=>
   obtain ⟨k,hk,rfl,⟨m,rfl⟩,hrel⟩:=hrel;have H:=zhd hrel;clear hrel;by_cases hlt:k<l1.length
   ·have hlt2:k<l2.length:=by have:=HL.out;omega
    have q1:=hix1 k hlt;have q2:=hix2 k hlt2;have p1:=hc1 k hlt;have p2:=hc2 k hlt2;obtain ⟨x,hx⟩:=zn (nth l1 k);obtain ⟨y,hy⟩:=zn (nth l2 k);rw[←hx]at p1;rw[←hy]at p2;have HXY:=zhd (And.intro hx hy);clear hix1 hix2 hc1 hc2 hx hy;by_cases he:x=y
    ·have he1:(x !=y)=false:=by simp[he]
     have HE:=zhd he;clear he;go_wp2;go_quiet (fail);go_wp2;go_roundw
     case rel=>exact ⟨k+1,by omega,by go_num,⟨_,rfl⟩,YZ hlt hlt2 H.out (by rw[←HXY.out.1,←HXY.out.2];exact HE.out)⟩
     case measure=>simp[intOf];omega
    ·have he1:(x !=y)=true:=by simp[he]
     have HE:=zhd he;clear he;go_wp2;go_quiet (fail);go_wp2;go_ret;rw[World.drewN_drewN];exact .of (zE (decide_eq_false (fun (e:l1=l2)=>HE.out (by rw[HXY.out.1,HXY.out.2,e]))).symm) _
   ·go_wp2;go_ret;refine .of (zE ?_) _;have:=H.out;have h2:=HL.out;rw[List.take_of_length_le (by omega),List.take_of_length_le (by omega)]at this;exact (decide_eq_true this).symm
 ·have hne:((l1.length:Int) !=l2.length)=true:=by simp;omega
  go_enter Tryz.func165,Tryz.ntmps165;go_wp2;go_ret;exact .of (zE (decide_eq_false (fun (e:l1=l2)=>hlen (by rw[e]))).symm) 0
theorem zaH {S S':Nat→Prop} {w:World} {v1 v2:Value} {l1 l2:List (List Int)} (h1:Sl (kFlat 7) S w v1 l1) (h2:Sl (kFlat 7) S' w v2 l2):
  Calls Tryz.prog 164 #[v1,v2] w (QuietP w (.bool (decide (l1=l2)))):=by
 obtain ⟨a1,cap1,rfl,ha1,_,hm1,hf1⟩:=h1.form2;obtain ⟨a2,cap2,rfl,ha2,_,_,_⟩:=h2.form2;have H1:=zhd h1;have H2:=zhd h2;have hix1:=Qs ha1;have hix2:=Qs ha2;clear h1 h2 hm1;by_cases hlen:l1.length=l2.length
 ·have hne:((l1.length:Int) !=l2.length)=false:=by simp[hlen]
  have HL:=zhd hlen;clear hlen;go_enter Tryz.func164,Tryz.ntmps164;go_wp2;go_loopw [5] (fun i wr=>∃k:Nat,k≤l1.length∧i=.int .i64 k∧(∃m,wr=w.drewN m)∧l1.take k=l2.take k) (fun i _=>l1.length - (intOf i).toNat)
  case atStart=>exact ⟨0,by omega,rfl,⟨0,rfl⟩,rfl⟩
  case round=>
   obtain ⟨k,hk,rfl,⟨m,rfl⟩,hrel⟩:=hrel;have H:=zhd hrel;clear hrel;by_cases hlt:k<l1.length
   ·have hlt2:k<l2.length:=by have:=HL.out;omega
    have q1:=hix1 k hlt;have q2:=hix2 k hlt2;have z1:=H1.out.nums hlt (by decide);have z2:=H2.out.nums hlt2 (by decide);have g1:=(H1.out.num hlt).1;have g2:=(H2.out.num hlt2).1;obtain ⟨x,hx⟩:=zn (nthL l1 k);obtain ⟨y,hy⟩:=zn (nthL l2 k);rw[←hx]at z1 g1;rw[←hy]at z2 g2;have p0:=z1.1;have r0:=z2.1;have p1:=z1.2 1 (by decide);have p2:=z1.2 2 (by decide);have p3:=z1.2 3 (by decide);have p4:=z1.2 4 (by decide);have p5:=z1.2 5 (by decide);have p6:=z1.2 6 (by decide);have r1:=z2.2 1 (by decide);have r2:=z2.2 2 (by decide);have r3:=z2.2 3 (by decide);have r4:=z2.2 4 (by decide);have r5:=z2.2 5 (by decide);have r6:=z2.2 6 (by decide);have EQ:∀W:World,(Op.equalIn 10000 153 (.agg #[nth x 0,nth x 1,nth x 2,nth x 3,nth x 4,nth x 5,nth x 6]) (.agg #[nth y 0,nth y 1,nth y 2,nth y 3,nth y 4,nth y 5,nth y 6])).run Tryz.prog W=.ok (decide (x=y)) W:=fun W=>by rw[←XL g1 g2];exact xD 9996 x y W
    have HXY:=zhd (And.intro hx hy);clear hix1 hix2 z1 z2 g1 g2 hx hy;by_cases he:x=y
    ·rw[decide_eq_true he]at EQ;have HE:=zhd he;clear he;go_wp2;go_quiet (fail);go_wp2;go_roundw
     case rel=>exact ⟨k+1,by omega,by go_num,⟨_,rfl⟩,Zp hlt hlt2 H.out (by rw[←HXY.out.1,←HXY.out.2];exact HE.out)⟩
     case measure=>simp[intOf];omega
    ·rw[decide_eq_false he]at EQ;have HE:=zhd he;clear he;go_wp2;go_quiet (fail);go_wp2;go_ret;rw[World.drewN_drewN];exact .of (zE (decide_eq_false (fun (e:l1=l2)=>HE.out (by rw[HXY.out.1,HXY.out.2,e]))).symm) _
   ·go_wp2;go_ret;refine .of (zE ?_) _;have:=H.out;have h2:=HL.out;rw[List.take_of_length_le (by omega),List.take_of_length_le (by omega)]at this;exact (decide_eq_true this).symm
 ·have hne:((l1.length:Int) !=l2.length)=true:=by simp;omega
  go_enter Tryz.func164,Tryz.ntmps164;go_wp2;go_ret;exact .of (zE (decide_eq_false (fun (e:l1=l2)=>hlen (by rw[e]))).symm) 0
theorem zcn (l:List Int):ordL l l=0:=Xn.2 rfl
theorem ZE {S S':Nat→Prop} {w:World} {v1 v2:Value} {l:List (List Int)} (h1:Lists S w v1 l) (h2:Lists S' w v2 l):
  Calls Tryz.prog 179 #[v1,v2] w (QuietP w (.bool true)):=by
 obtain ⟨a1,cap1,rfl,ha1,hle1,hm1⟩:=h1.form;obtain ⟨a2,cap2,rfl,ha2,_,_⟩:=h2.form;unfold maxLen at hm1;have H1:=zhd h1;have H2:=zhd h2;obtain ⟨i0,hi,hz0,hz1,hz2⟩:=info_parts zW;have hix1:=zL Tryz.underlying146 hi hz1 ha1;have hix2:=zL Tryz.underlying146 hi hz1 ha2;clear hi hz0 hz1 hz2 h1 h2;go_enter Tryz.func179,Tryz.ntmps179;go_wp2;go_loopw [5] (fun i wr=>∃k:Nat,k≤l.length∧i=.int .i64 k∧QW w wr) (fun i _=>l.length - (intOf i).toNat)
 case atStart=>exact ⟨0,by omega,rfl,.refl _⟩
 case round=>
  obtain ⟨k,hk,rfl,hq⟩:=hrel;by_cases hlt:k<l.length
  ·have q1:=hix1 k hlt;have q2:=hix2 k hlt;obtain ⟨u1,c1,i1⟩:=H1.out.at hq.ext hlt;obtain ⟨u2,c2,i2⟩:=H2.out.at hq.ext hlt;have b1:=World.block_lt_of_cell? _ _ c1;have b2:=World.block_lt_of_cell? _ _ c2;have KO:Hid (∀n,Calls Tryz.prog 174 #[u1,u2] (wr.drewN n) (QuietP (wr.drewN n) (.int .i64 0))):=zhd fun n=>by have:=xZ (i1.drewN n) (i2.drewN n);rw[zcn]at this;exact this
   obtain ⟨ua1,uc1,rfl,_⟩:=i1.form;obtain ⟨ua2,uc2,rfl,_⟩:=i2.form;obtain ⟨x,hx⟩:=zn (nthL l k);rw[←hx]at c1 c2 KO;clear hx i1 i2 hix1 hix2;go_wp2;go_quiet ((go_at_call 174;exact zG (KO.out _)));go_wp2;go_roundw
   case rel=>exact ⟨k+1,by omega,by go_num,hq.drewN _⟩
   case measure=>simp[intOf];omega
  ·go_wp2;go_ret;exact .fin rfl hq
theorem zb5 {S S':Nat→Prop} {w:World} {v1 v2:Value} {cs:List CaseD} (n ins outs:Int) (h1:Sl kCase S w v1 cs) (h2:Sl kCase S' w v2 cs):
  Calls Tryz.prog 162 #[.agg #[n,ins,outs,v1],.agg #[n,ins,outs,v2]] w (Post w fun _ r=>r=.bool true):=by
 obtain ⟨a1,c1,rfl,ha1,_⟩:=h1.form2;obtain ⟨a2,c2,rfl,ha2,_⟩:=h2.form2;have hfw:=h1.few;have H1:=zhd h1;have H2:=zhd h2;obtain ⟨i0,hi,_,hz1,_⟩:=info_parts xl;have Q1:=zhd (zM Tryz.underlying22 hi hz1 ha1);have Q2:=zhd (zM Tryz.underlying22 hi hz1 ha2);clear h1 h2 hi hz1;have ex:=zh (ze w (.cells #[n,ins,outs,.slice a1 cs.length c1] 24)) (.cells #[n,ins,outs,.slice a2 cs.length c2] 24);have R1:=(zi w [n,ins,outs,.slice a1 cs.length c1] 24).alloc (.cells #[n,ins,outs,.slice a2 cs.length c2] 24);have R2:=zi (w.alloc (.cells #[n,ins,outs,.slice a1 cs.length c1] 24)) [n,ins,outs,.slice a2 cs.length c2] 24;rw[World.size_alloc]at R2;have t0:=R1.zc 0 rfl;have t1:=R1.zc 1 rfl;have t2:=R1.zc 2 rfl;have t3:=R1.zc 3 rfl;have s0:=R2.zc 0 rfl;have s1:=R2.zc 1 rfl;have s2:=R2.zc 2 rfl;have s3:=R2.zc 3 rfl;go_enter Tryz.func162,Tryz.ntmps162;go_wp2;clear t0 t1 t2 t3 s0 s1 s2 s3;go_loopw [5,6,7] (fun i _ _ wr=>∃k:Nat,k≤cs.length∧i=.int .i64 k∧Below w.heap.size w wr∧Row wr w.heap.size 24 [n,ins,outs,.slice a1 cs.length c1]∧Row wr (w.heap.size+1) 24 [n,ins,outs,.slice a2 cs.length c2]) (fun i _ _ _=>cs.length - (intOf i).toNat)
 case atStart=>exact ⟨0,Nat.zero_le _,rfl,ex,R1,R2⟩
 case round=>
  clear ex R1 R2;obtain ⟨k,hk,rfl,hb,R1,R2⟩:=hrel;obtain ⟨wo,rfl⟩:∃wo:World,wo=wr:=⟨_,rfl⟩;have t3:=R1.zc 3 rfl;have s3:=R2.zc 3 rfl;have l1:=R1.lt;have l2:=R2.lt;by_cases hlt:k<cs.length
  case neg=>
   go_wp2;go_ret;exact .mk hb rfl
  have q1:=Q1.out k hlt;have q2:=Q2.out k hlt;obtain ⟨x1,x2,x3,z1,z2,z3,i1,i2,i3⟩:=(H1.out.ext hb).case hlt;obtain ⟨y1,y2,y3,u1,u2,u3,j1,j2,j3⟩:=(H2.out.ext hb).case hlt;have b1:=World.block_lt_of_cell? _ _ z1;have b2:=World.block_lt_of_cell? _ _ u1;obtain ⟨xa1,xc1,rfl,_⟩:=i1.form;obtain ⟨xa2,xc2,rfl,_⟩:=i2.form;obtain ⟨xa3,xc3,rfl,_⟩:=i3.form;obtain ⟨ya1,yc1,rfl,_⟩:=j1.form;obtain ⟨ya2,yc2,rfl,_⟩:=j2.form;obtain ⟨ya3,yc3,rfl,_⟩:=j3.form;have KO:Hid (∀W,Below wo.heap.size wo W→Calls Tryz.prog 174 #[.slice xa1 (nthC cs k).inn.length xc1,.slice ya1 (nthC cs k).inn.length yc1] W (Post W fun _ r=>r=.int .i64 0)):=zhd fun W hW=>by have:=xZ (i1.ext hW) (j1.ext hW);rw[zcn]at this;exact this.mono fun _ _ h=>h.post
  have KV1:Hid (∀W,Below wo.heap.size wo W→Calls Tryz.prog 179 #[.slice xa2 (nthC cs k).out.length xc2,.slice ya2 (nthC cs k).out.length yc2] W (Post W fun _ r=>r=.bool true)):=zhd fun W hW=>(ZE (i2.ext hW) (j2.ext hW)).mono fun _ _ h=>h.post;have KV2:Hid (∀W,Below wo.heap.size wo W→Calls Tryz.prog 179 #[.slice xa3 (nthC cs k).calm.length xc3,.slice ya3 (nthC cs k).calm.length yc3] W (Post W fun _ r=>r=.bool true)):=zhd fun W hW=>(ZE (i3.ext hW) (j3.ext hW)).mono fun _ _ h=>h.post;obtain ⟨n1,hn1⟩:∃n,n=(nthC cs k).inn.length:=⟨_,rfl⟩;obtain ⟨n2,hn2⟩:∃n,n=(nthC cs k).out.length:=⟨_,rfl⟩;obtain ⟨n3,hn3⟩:∃n,n=(nthC cs k).calm.length:=⟨_,rfl⟩;rw[←hn1]at z1 u1 KO;rw[←hn2]at z2 u2 KV1;rw[←hn3]at z3 u3 KV2;have HNX:Hid (∀W,Below wo.heap.size wo W→Below w.heap.size w W∧Row W w.heap.size 24 [n,ins,outs,.slice a1 cs.length c1]∧Row W (w.heap.size+1) 24 [n,ins,outs,.slice a2 cs.length c2]):=zhd fun W hW=>⟨za hb hW,R1.ext hW,R2.ext hW⟩;clear hn1 hn2 hn3 i1 i2 i3 j1 j2 j3 R1 R2 hb;go_upto_region 6 with fail;go_cut [6,7] from 36 to 74 (fun u6 u7 wx=>∃B6 B7,u6=.pointer (some ⟨B6,0,none⟩)∧u7=.pointer (some ⟨B7,0,none⟩)∧Below wo.heap.size wo wx∧Row wx B6 157 [.slice xa1 n1 xc1,.slice xa2 n2 xc2,.slice xa3 n3 xc3]∧Row wx B7 157 [.slice ya1 n1 yc1,.slice ya2 n2 yc2,.slice ya3 n3 yc3])
  case first=>
   have way1:Hid (∃B6 B7,B6=wo.heap.size∧B7=wo.heap.size+1∧Below wo.heap.size wo ((wo.alloc (.cells #[.slice xa1 n1 xc1,.slice xa2 n2 xc2,.slice xa3 n3 xc3] 157)).alloc (.cells #[.slice ya1 n1 yc1,.slice ya2 n2 yc2,.slice ya3 n3 yc3] 157)).drew∧Row ((wo.alloc (.cells #[.slice xa1 n1 xc1,.slice xa2 n2 xc2,.slice xa3 n3 xc3] 157)).alloc (.cells #[.slice ya1 n1 yc1,.slice ya2 n2 yc2,.slice ya3 n3 yc3] 157)).drew B6 157 [.slice xa1 n1 xc1,.slice xa2 n2 xc2,.slice xa3 n3 xc3]∧Row ((wo.alloc (.cells #[.slice xa1 n1 xc1,.slice xa2 n2 xc2,.slice xa3 n3 xc3] 157)).alloc (.cells #[.slice ya1 n1 yc1,.slice ya2 n2 yc2,.slice ya3 n3 yc3] 157)).drew B7 157 [.slice ya1 n1 yc1,.slice ya2 n2 yc2,.slice ya3 n3 yc3]):=zhd ⟨_,_,rfl,rfl,((zh (ze wo _) _).trans (zb _ _ 1)),(((zi wo [_,_,_] _).alloc _).agree (S:=fun _=>True) (zC _ _ 1) trivial),((by have:=zi (wo.alloc (.cells #[.slice xa1 n1 xc1,.slice xa2 n2 xc2,.slice xa3 n3 xc3] 157)) [.slice ya1 n1 yc1,.slice ya2 n2 yc2,.slice ya3 n3 yc3] 157;rw[World.size_alloc]at this;exact this:Row ((wo.alloc (.cells #[.slice xa1 n1 xc1,.slice xa2 n2 xc2,.slice xa3 n3 xc3] 157)).alloc (.cells #[.slice ya1 n1 yc1,.slice ya2 n2 yc2,.slice ya3 n3 yc3] 157)) (wo.heap.size+1) 157 _).agree (S:=fun _=>True) (zC _ _ 1) trivial)⟩;have way2:Hid (∃B6 B7,B6=wo.heap.size+1∧B7=wo.heap.size∧Below wo.heap.size wo ((wo.alloc (.cells #[.slice ya1 n1 yc1,.slice ya2 n2 yc2,.slice ya3 n3 yc3] 157)).alloc (.cells #[.slice xa1 n1 xc1,.slice xa2 n2 xc2,.slice xa3 n3 xc3] 157)).drew∧Row ((wo.alloc (.cells #[.slice ya1 n1 yc1,.slice ya2 n2 yc2,.slice ya3 n3 yc3] 157)).alloc (.cells #[.slice xa1 n1 xc1,.slice xa2 n2 xc2,.slice xa3 n3 xc3] 157)).drew B6 157 [.slice xa1 n1 xc1,.slice xa2 n2 xc2,.slice xa3 n3 xc3]∧Row ((wo.alloc (.cells #[.slice ya1 n1 yc1,.slice ya2 n2 yc2,.slice ya3 n3 yc3] 157)).alloc (.cells #[.slice xa1 n1 xc1,.slice xa2 n2 xc2,.slice xa3 n3 xc3] 157)).drew B7 157 [.slice ya1 n1 yc1,.slice ya2 n2 yc2,.slice ya3 n3 yc3]):=zhd ⟨_,_,rfl,rfl,((zh (ze wo _) _).trans (zb _ _ 1)),((by have:=zi (wo.alloc (.cells #[.slice ya1 n1 yc1,.slice ya2 n2 yc2,.slice ya3 n3 yc3] 157)) [.slice xa1 n1 xc1,.slice xa2 n2 xc2,.slice xa3 n3 xc3] 157;rw[World.size_alloc]at this;exact this:Row ((wo.alloc (.cells #[.slice ya1 n1 yc1,.slice ya2 n2 yc2,.slice ya3 n3 yc3] 157)).alloc (.cells #[.slice xa1 n1 xc1,.slice xa2 n2 xc2,.slice xa3 n3 xc3] 157)) (wo.heap.size+1) 157 _).agree (S:=fun _=>True) (zC _ _ 1) trivial),(((zi wo [_,_,_] _).alloc _).agree (S:=fun _=>True) (zC _ _ 1) trivial)⟩;go_region
   all_goals (go_wp2_with fail;go_meet;first | (obtain ⟨B6,B7,e1,e2,r⟩:=way1.out;exact ⟨B6,B7,by rw[e1],by rw[e2],r⟩) | (obtain ⟨B6,B7,e1,e2,r⟩:=way2.out;exact ⟨B6,B7,by rw[e1],by rw[e2],r⟩))
  case rest=>
   obtain ⟨B6,B7,rfl,rfl,hx,R6,R7⟩:=hcut;have a0:=R6.zc 0 rfl;have b0:=R7.zc 0 rfl;clear t3 s3 l1 l2 q1 q2 z1 z2 z3 u1 u2 u3 b1 b2;go_wp2_with fail;refine (KO.out _ hx).mono ?_;rintro _ w2 ⟨_,rfl,hb2,rfl⟩;replace R6:=R6.ext hb2;replace R7:=R7.ext hb2;replace hx:=za hx hb2;have a1':=R6.zc 1 rfl;have b1':=R7.zc 1 rfl;clear a0 b0 hb2;go_wp2_with fail;refine (KV1.out _ hx).mono ?_;rintro _ w3 ⟨_,rfl,hb3,rfl⟩;replace R6:=R6.ext hb3;replace R7:=R7.ext hb3;replace hx:=za hx hb3;have a2':=R6.zc 2 rfl;have b2':=R7.zc 2 rfl;clear a1' b1' hb3;go_wp2_with fail;refine (KV2.out _ hx).mono ?_;rintro _ w4 ⟨_,rfl,hb4,rfl⟩;have HN:=zhd (HNX.out _ (za hx hb4));clear a2' b2' hb4 R6 R7 hx HNX KO KV1 KV2;go_wp2;go_roundw
   case rel=>exact ⟨k+1,by omega,by go_num,HN.out.1,HN.out.2.1,HN.out.2.2⟩
   case measure=>simp[intOf];omega
theorem zb6 {S S':Nat→Prop} {w:World} {v1 v2:Value} {st:Moves} (n:Int) (h1:Sl (kSl (kFlat 8)) S w v1 st) (h2:Sl (kSl (kFlat 8)) S' w v2 st):
  Calls Tryz.prog 163 #[.agg #[n,v1],.agg #[n,v2]] w (Post w fun _ r=>r=.bool true):=by
 obtain ⟨a1,c1,rfl,_⟩:=h1.form2;obtain ⟨a2,c2,rfl,_⟩:=h2.form2;have hfw:=h1.few;have H1:=zhd h1;have H2:=zhd h2;have Q1:=h1.idxS;have Q2:=h2.idxS;clear h1 h2;have ex:=zh (ze w (.cells #[n,.slice a1 st.length c1] 27)) (.cells #[n,.slice a2 st.length c2] 27);have R1:=(zi w [n,.slice a1 st.length c1] 27).alloc (.cells #[n,.slice a2 st.length c2] 27);have R2:=zi (w.alloc (.cells #[n,.slice a1 st.length c1] 27)) [n,.slice a2 st.length c2] 27;rw[World.size_alloc]at R2;have t0:=R1.zc 0 rfl;have t1:=R1.zc 1 rfl;have s0:=R2.zc 0 rfl;have s1:=R2.zc 1 rfl;go_enter Tryz.func163,Tryz.ntmps163;go_wp2;clear t0 t1 s0 s1;go_loopw [5,6] (fun i _ wr=>∃k:Nat,k≤st.length∧i=.int .i64 k∧Below w.heap.size w wr∧Row wr w.heap.size 27 [n,.slice a1 st.length c1]∧Row wr (w.heap.size+1) 27 [n,.slice a2 st.length c2]) (fun i _ _=>st.length - (intOf i).toNat)
 case atStart=>exact ⟨0,Nat.zero_le _,rfl,ex,R1,R2⟩
 case round=>
  clear ex R1 R2;obtain ⟨k,hk,rfl,hb,R1,R2⟩:=hrel;obtain ⟨wo,rfl⟩:∃wo:World,wo=wr:=⟨_,rfl⟩;have t1:=R1.zc 1 rfl;have s1:=R2.zc 1 rfl;have l1:=R1.lt;have l2:=R2.lt;by_cases hlt:k<st.length
  case neg=>
   go_wp2;go_ret;exact .mk hb rfl
  have q1:=Q1.out k hlt;have q2:=Q2.out k hlt;obtain ⟨r1,e1,z1,m1⟩:=(H1.out.ext hb).mrow (.refl _ _) hlt;obtain ⟨r2,e2,z2,m2⟩:=(H2.out.ext hb).mrow (.refl _ _) hlt;have b1:=World.block_lt_of_cell? _ _ z1;have b2:=World.block_lt_of_cell? _ _ z2;have hrf:=m1.few;obtain ⟨row,hrow⟩:=zn (nthM st k);rw[←hrow]at z1 z2 m1 m2 hrf;have M1:=zhd m1;have M2:=zhd m2;have QM1:=m1.idxM;have QM2:=m2.idxM;have HNX:Hid (∀W,Below wo.heap.size wo W→Below w.heap.size w W∧Row W w.heap.size 27 [n,.slice a1 st.length c1]∧Row W (w.heap.size+1) 27 [n,.slice a2 st.length c2]):=zhd fun W hW=>⟨za hb hW,R1.ext hW,R2.ext hW⟩;have HZ:Hid (∀W,Below wo.heap.size wo W→W.cell? (adr a1 k)=some (.slice r1 row.length e1)∧W.cell? (adr a2 k)=some (.slice r2 row.length e2)∧W.cell? ⟨w.heap.size,1,none⟩=some (.slice a1 st.length c1)∧W.cell? ⟨w.heap.size+1,1,none⟩=some (.slice a2 st.length c2)∧(adr a1 k).block<W.heap.size∧(adr a2 k).block<W.heap.size∧w.heap.size<W.heap.size∧w.heap.size+1<W.heap.size):=zhd fun W hW=>⟨zm z1 hW,zm z2 hW,zm t1 hW,zm s1 hW,by have:=hW.size;omega,by have:=hW.size;omega,by have:=hW.size;omega,by have:=hW.size;omega⟩;clear hrow m1 m2 R1 R2 hb;go_wp2;go_quiet (fail);refine zU fun w1 hw1=>?_;have hx1:=hw1.ext;clear hw1 t1 s1 z1 z2 b1 b2 l1 l2;go_wp2;go_loopw [6] (fun i wr=>∃j:Nat,j≤row.length∧i=.int .i64 j∧Below wo.heap.size wo wr) (fun i _=>row.length - (intOf i).toNat)
  case atStart=>exact ⟨0,Nat.zero_le _,rfl,hx1⟩
  case round=>
   clear hx1;obtain ⟨j,hj,rfl,hb⟩:=hrel;obtain ⟨z1,z2,t1,s1,b1,b2,l1,l2⟩:=HZ.out wr hb;by_cases hjl:j<row.length
   case neg=>
    have HN:=zhd (HNX.out wr hb);go_wp2;go_roundw
    case rel=>exact ⟨k+1,by omega,by go_num,HN.out.1,HN.out.2.1,HN.out.2.2⟩
    case measure=>simp[intOf];omega
   have p1:=QM1.out j hjl;have p2:=QM2.out j hjl;have y1:=(M1.out.ext hb).nums hjl (by decide);have y2:=(M2.out.ext hb).nums hjl (by decide);have k1:=zZ (M1.out.ext hb).ad.1 (show 0<row.length by omega) (j * 8);have k2:=zZ (M2.out.ext hb).ad.1 (show 0<row.length by omega) (j * 8);have gl:=((M1.out.ext hb).num hjl).1;obtain ⟨x,hx⟩:=zn (nthL row j);rw[←hx]at y1 y2 gl;have EQ:∀W:World,(Op.equalIn 10000 155 (.agg #[nth x 0,nth x 1,nth x 2,nth x 3,nth x 4,nth x 5,nth x 6,nth x 7]) (.agg #[nth x 0,nth x 1,nth x 2,nth x 3,nth x 4,nth x 5,nth x 6,nth x 7])).run Tryz.prog W=.ok true W:=fun W=>by
    have h:=zfj 9995 x x W;rw[XL gl gl,decide_eq_true rfl]at h;exact h
   have v0:=y1.1;have u0:=y2.1;have v1:=y1.2 1 (by decide);have v2:=y1.2 2 (by decide);have v3:=y1.2 3 (by decide);have v4:=y1.2 4 (by decide);have v5:=y1.2 5 (by decide);have v6:=y1.2 6 (by decide);have v7:=y1.2 7 (by decide);have u1:=y2.2 1 (by decide);have u2:=y2.2 2 (by decide);have u3:=y2.2 3 (by decide);have u4:=y2.2 4 (by decide);have u5:=y2.2 5 (by decide);have u6:=y2.2 6 (by decide);have u7:=y2.2 7 (by decide);clear hx y1 y2 gl;have hbn:=fun n=>hb.trans (zb wo.heap.size wr n);go_wp2;go_quiet (fail);go_wp2;go_roundw
   case rel=>exact ⟨j+1,by omega,by go_num,hbn _⟩
   case measure=>simp[intOf];omega
theorem zb9 {S S':Nat→Prop} {w:World} {vc1 vc2 vs1 vs2:Value} {p:ProbD} (h1:Sl kCase S w vc1 p.cs) (h2:Sl kCase S' w vc2 p.cs) (g1:Sl (kSl (kFlat 8)) S w vs1 p.st) (g2:Sl (kSl (kFlat 8)) S' w vs2 p.st):
  Calls Tryz.prog 147 #[.agg #[p.n,p.ins,p.outs,vc1,p.an,vs1,p.rounds],.agg #[p.n,p.ins,p.outs,vc2,p.an,vs2,p.rounds]] w (Post w fun _ r=>r=.bool true):=by
 obtain ⟨a1,c1,rfl,_⟩:=h1.form;obtain ⟨a2,c2,rfl,_⟩:=h2.form;obtain ⟨s1,d1,rfl,_⟩:=g1.form;obtain ⟨s2,d2,rfl,_⟩:=g2.form;have K1:Hid (∀W,Below w.heap.size w W→Calls Tryz.prog 162 #[.agg #[p.n,p.ins,p.outs,.slice a1 p.cs.length c1],.agg #[p.n,p.ins,p.outs,.slice a2 p.cs.length c2]] W (Post W fun _ r=>r=.bool true)):=zhd fun W hW=>zb5 _ _ _ (h1.ext hW) (h2.ext hW);have K2:Hid (∀W,Below w.heap.size w W→Calls Tryz.prog 163 #[.agg #[p.an,.slice s1 p.st.length d1],.agg #[p.an,.slice s2 p.st.length d2]] W (Post W fun _ r=>r=.bool true)):=zhd fun W hW=>zb6 _ (g1.ext hW) (g2.ext hW);clear h1 h2 g1 g2;have ex:=zh (ze w (.cells #[p.n,p.ins,p.outs,.slice a1 p.cs.length c1,p.an,.slice s1 p.st.length d1,p.rounds] 29)) (.cells #[p.n,p.ins,p.outs,.slice a2 p.cs.length c2,p.an,.slice s2 p.st.length d2,p.rounds] 29);have R1:=(zi w [p.n,p.ins,p.outs,.slice a1 p.cs.length c1,p.an,.slice s1 p.st.length d1,p.rounds] 29).alloc (.cells #[p.n,p.ins,p.outs,.slice a2 p.cs.length c2,p.an,.slice s2 p.st.length d2,p.rounds] 29);have R2:=zi (w.alloc (.cells #[p.n,p.ins,p.outs,.slice a1 p.cs.length c1,p.an,.slice s1 p.st.length d1,p.rounds] 29)) [p.n,p.ins,p.outs,.slice a2 p.cs.length c2,p.an,.slice s2 p.st.length d2,p.rounds] 29;rw[World.size_alloc]at R2;go_enter Tryz.func147,Tryz.ntmps147;go_wp2_with fail;refine (K1.out _ ex).mono ?_;rintro _ w1 ⟨_,rfl,hb1,rfl⟩;replace R1:=R1.ext hb1;replace R2:=R2.ext hb1;replace ex:=za ex hb1;have t4:=R1.zc 4 rfl;have t5:=R1.zc 5 rfl;have u4:=R2.zc 4 rfl;have u5:=R2.zc 5 rfl;clear hb1 K1;go_wp2_with fail;refine (K2.out _ ex).mono ?_;rintro _ w2 ⟨_,rfl,hb2,rfl⟩;replace ex:=za ex hb2;clear t4 t5 u4 u5 hb2;go_wp2;go_ret;exact .mk ex rfl
theorem zak {S S':Nat→Prop} {w:World} {v1 v2:Value} {l1 l2:List (List Int)} (n1 n2:Int) (h1:Sl (kFlat 8) S w v1 l1) (h2:Sl (kFlat 8) S' w v2 l2):
  Calls Tryz.prog 148 #[.agg #[n1,v1],.agg #[n2,v2]] w (Post w fun _ r=>r=.bool (decide (n1=n2∧l1=l2))):=by
 obtain ⟨a1,c1,rfl,ad1,_⟩:=h1.form2;obtain ⟨a2,c2,rfl,ad2,_⟩:=h2.form2;have hfw:=h1.few;have H1:=zhd h1;have H2:=zhd h2;obtain ⟨i0,hi,hz⟩:=zK zO;have Q1:=zhd (zM Tryz.underlying30 hi hz ad1);have Q2:=zhd (zM Tryz.underlying30 hi hz ad2);clear h1 h2 hi hz ad1 ad2;have ex:=zh (ze w (.cells #[n1,.slice a1 l1.length c1] 32)) (.cells #[n2,.slice a2 l2.length c2] 32);have R1:=(zi w [n1,.slice a1 l1.length c1] 32).alloc (.cells #[n2,.slice a2 l2.length c2] 32);have R2:=zi (w.alloc (.cells #[n1,.slice a1 l1.length c1] 32)) [n2,.slice a2 l2.length c2] 32;rw[World.size_alloc]at R2;have t0:=R1.zc 0 rfl;have t1:=R1.zc 1 rfl;have s0:=R2.zc 0 rfl;have s1:=R2.zc 1 rfl;obtain ⟨r,hr⟩:=zn (decide (n1=n2∧l1=l2));rw[←hr];have HT:Hid (n1=n2→l1=l2→r=true):=zhd fun h h'=>by rw[hr];exact decide_eq_true ⟨h,h'⟩
 have HF1:Hid (n1≠n2→r=false):=zhd fun h=>by rw[hr];exact decide_eq_false fun h'=>h h'.1
 have HF2:Hid (l1≠l2→r=false):=zhd fun h=>by rw[hr];exact decide_eq_false fun h'=>h h'.2
 clear hr;by_cases hn:n1=n2
 case neg=>
  have RR:=zhd (HF1.out hn);have d1:(n1 !=n2)=true:=by simp[hn]
  clear hn;go_enter Tryz.func148,Tryz.ntmps148;go_wp2;go_ret;exact .mk ex (zE RR.out.symm)
 have d1:(n1 !=n2)=false:=by simp[hn]
 have HN:=zhd hn;clear hn;by_cases hlen:l1.length=l2.length
 case neg=>
  have RR:=zhd (HF2.out fun h=>hlen (by rw[h]));have d2:((l1.length:Int) !=l2.length)=true:=by simp;omega
  clear hlen;go_enter Tryz.func148,Tryz.ntmps148;go_wp2;go_ret;exact .mk ex (zE RR.out.symm)
 have d2:((l1.length:Int) !=l2.length)=false:=by simp[hlen]
 have HL:=zhd hlen;clear hlen;go_enter Tryz.func148,Tryz.ntmps148;go_wp2;clear t0 t1 s0 s1 d1 d2;go_loopw [5] (fun i wr=>∃k:Nat,k≤l1.length∧i=.int .i64 k∧Below w.heap.size w wr∧Row wr w.heap.size 32 [n1,.slice a1 l1.length c1]∧Row wr (w.heap.size+1) 32 [n2,.slice a2 l2.length c2]∧Hid (l1.take k=l2.take k)) (fun i _=>l1.length - (intOf i).toNat)
 case atStart=>exact ⟨0,Nat.zero_le _,rfl,ex,R1,R2,zhd rfl⟩
 case round=>
  clear ex R1 R2;obtain ⟨k,hk,rfl,hb,R1,R2,H⟩:=hrel;have t1:=R1.zc 1 rfl;have s1:=R2.zc 1 rfl;have l1':=R1.lt;have l2':=R2.lt;by_cases hlt:k<l1.length
  case neg=>
   have RR:Hid (r=true):=zhd (HT.out HN.out (by
    have:=H.out;have h2:=HL.out;rw[List.take_of_length_le (by omega),List.take_of_length_le (by omega)]at this;exact this))
   go_wp2;go_ret;exact .mk hb (zE RR.out.symm)
  have hlt2:k<l2.length:=by have:=HL.out;omega
  have q1:=Q1.out k hlt;have q2:=Q2.out k hlt2;have y1:=(H1.out.ext hb).nums hlt (by decide);have y2:=(H2.out.ext hb).nums hlt2 (by decide);have k1:=zZ (H1.out.ext hb).ad.1 (show 0<l1.length by omega) (k * 8);have k2:=zZ (H2.out.ext hb).ad.1 (show 0<l2.length by omega) (k * 8);have g1:=((H1.out.ext hb).num hlt).1;have g2:=((H2.out.ext hb).num hlt2).1;obtain ⟨x,hx⟩:=zn (nthL l1 k);obtain ⟨y,hy⟩:=zn (nthL l2 k);rw[←hx]at y1 g1;rw[←hy]at y2 g2;have EQ:∀W:World,(Op.equalIn 10000 65 (.agg #[nth x 0,nth x 1,nth x 2,nth x 3,nth x 4,nth x 5,nth x 6,nth x 7]) (.agg #[nth y 0,nth y 1,nth y 2,nth y 3,nth y 4,nth y 5,nth y 6,nth y 7])).run Tryz.prog W=.ok (decide (x=y)) W:=fun W=>by rw[←XL g1 g2];exact Yw 9997 x y W
  have v0:=y1.1;have u0:=y2.1;have v1:=y1.2 1 (by decide);have v2:=y1.2 2 (by decide);have v3:=y1.2 3 (by decide);have v4:=y1.2 4 (by decide);have v5:=y1.2 5 (by decide);have v6:=y1.2 6 (by decide);have v7:=y1.2 7 (by decide);have u1:=y2.2 1 (by decide);have u2:=y2.2 2 (by decide);have u3:=y2.2 3 (by decide);have u4:=y2.2 4 (by decide);have u5:=y2.2 5 (by decide);have u6:=y2.2 6 (by decide);have u7:=y2.2 7 (by decide);have HXY:=zhd (And.intro hx hy);have HNX:Hid (∀n,Below w.heap.size w (wr.drewN n)∧Row (wr.drewN n) w.heap.size 32 [n1,.slice a1 l1.length c1]∧Row (wr.drewN n) (w.heap.size+1) 32 [n2,.slice a2 l2.length c2]):=zhd fun n=>⟨hb.trans (zb _ wr n),R1.ext (zb _ wr n),R2.ext (zb _ wr n)⟩;clear hx hy y1 y2 g1 g2 R1 R2 hb;by_cases he:x=y
  ·rw[decide_eq_true he]at EQ;have HE:=zhd he;clear he;go_wp2;go_quiet (fail);go_wp2;go_roundw
   case rel=>exact ⟨k+1,by omega,by go_num,(HNX.out _).1,(HNX.out _).2.1,(HNX.out _).2.2,zhd (Zp hlt hlt2 H.out (by rw[←HXY.out.1,←HXY.out.2];exact HE.out))⟩
   case measure=>simp[intOf];omega
  ·rw[decide_eq_false he]at EQ;have RR:Hid (r=false):=zhd (HF2.out fun h=>he (by rw[HXY.out.1,HXY.out.2,h]));clear he;go_wp2;go_quiet (fail);go_wp2;go_ret;exact .mk (HNX.out _).1 (zE RR.out.symm)
end Go.Proofs.YtiabbjolepnjkaaGreat
namespace Go.Proofs.YtiabbjolepnjkaaGreat
theorem xy {t t':List (List Int)} (h:t<+:t') {v:Nat} (hv:v<t.length):nthL t' v=nthL t v:=by
 obtain ⟨r,rfl⟩:=h;simp[nthL,List.getElem?_append_left hv]
theorem zf7 {l r:List Int} {i:Nat} (h:i<l.length):nth (l++r) i=nth l i:=by simp[nth,List.getElem?_append_left h]
theorem zdT {l:List Int} {x:Int}:nth (l++[x]) l.length=x:=by simp[nth]
theorem za6 {l r:List (List Int)} {i:Nat} (h:i<l.length):nthL (l++r) i=nthL l i:=xy (List.prefix_append _ _) h
theorem zbV {l:List (List Int)} {x:List Int}:nthL (l++[x]) l.length=x:=by simp[nthL]
def Refs (t:List (List Int)):Prop:=∀v,v<t.length→∀j,j<5→nth (nthL t v) (3+j)<v
theorem Refs.add {t:List (List Int)} {x:List Int} (h:Refs t) (hx:∀j,j<5→nth x (3+j)<t.length):Refs (addV t x):=by
 unfold addV;split
 ·exact h
 ·intro v hv j hj;rw[List.length_append,List.length_singleton]at hv;by_cases e:v<t.length
  ·rw[za6 e];exact h v e j hj
  ·have e2:v=t.length:=by omega
   subst e2;rw[zbV];exact hx j hj
theorem zdc (mk:Nat→List Int) (t:List (List Int)):∀q i,i<q→∃u:Nat,u<(layV mk t q).1.length∧nth (layV mk t q).2 i=u∧nthL (layV mk t q).1 u=mk i
 | 0,i,h=>by omega
 | q+1,i,h=>by
  unfold layV;have hl:=yp mk t q;by_cases e:i<q
  ·obtain ⟨u,h1,h2,h3⟩:=zdc mk t q i e;have hp:=Q6 (layV mk t q).1 (mk q);exact ⟨u,Nat.lt_of_lt_of_le h1 hp.length_le,by rw[zf7 (by omega)];exact h2,by rw[xy hp h1];exact h3⟩
  ·have e2:i=q:=by omega
   subst e2;refine ⟨idxV (layV mk t i).1 (mk i),zjy _ _,?_,zhv _ _⟩;have:=zdT (l:=(layV mk t i).2) (x:=((idxV (layV mk t i).1 (mk i):Nat):Int));rw[hl]at this;exact this
theorem zaO (mk:Nat→List Int) (t:List (List Int)):∀q v,v<(layV mk t q).1.length→v<t.length∨∃i,i<q∧nth (layV mk t q).2 i=(v:Nat)
 | 0,v,h=>.inl h
 | q+1,v,h=>by
  unfold layV at h ⊢;have hl:=yp mk t q;by_cases e:v<(layV mk t q).1.length
  ·rcases zaO mk t q v e with h1 | ⟨i,h1,h2⟩
   ·exact .inl h1
   ·exact .inr ⟨i,by omega,by rw[zf7 (by omega)];exact h2⟩
  ·refine .inr ⟨q,by omega,?_⟩;have h3:=zeb (layV mk t q).1 (mk q);have h4:v=(layV mk t q).1.length:=by dsimp only at h;omega
   have h5:mk q∉(layV mk t q).1:=fun hm=>by
    unfold addV at h;rw[if_pos hm]at h;exact e h
   have:=zdT (l:=(layV mk t q).2) (x:=((idxV (layV mk t q).1 (mk q):Nat):Int));rw[hl]at this;rw[this,Yj h5,h4]
theorem YQ (mk:Nat→List Int) {t:List (List Int)} (h:t.Nodup):∀q,(layV mk t q).1.Nodup
 | 0=>h
 | q+1=>by unfold layV;exact ze4 (YQ mk h q)
theorem Xp (mk:Nat→List Int) {t:List (List Int)} (h:Refs t):∀q,(∀i,i<q→∀j,j<5→nth (mk i) (3+j)<t.length)→Refs (layV mk t q).1
 | 0,_=>h
 | q+1,hm=>by
  unfold layV;refine (Xp mk h q fun i hi=>hm i (by omega)).add fun j hj=>?_;have h1:=hm q (by omega) j hj;have h2:=(xA mk t q).length_le;omega
def vwE (n:Nat) (inn:List Int) (word vs:List (List Int)):Nat→Nat→List Int
 | 0,q=>firstV q (nth inn q)
 | k+1,q=>seenV (nthL word k) n (k+1) q (nthL vs k)
structure PlayOK (n:Nat) (inn:List Int) (word t:List (List Int)) (K:Nat) (T vs:List (List Int)):Prop where
 pre:t<+:T
 len:vs.length=K+1
 rows:∀k,k≤K→(nthL vs k).length=n
 at':∀k,k≤K→∀q,q<n→∃u:Nat,u<T.length∧nth (nthL vs k) q=u∧nthL T u=vwE n inn word vs k q
 new:∀v,v<T.length→v<t.length∨∃k,k≤K∧∃q,q<n∧nth (nthL vs k) q=(v:Nat)
 nodup:t.Nodup→T.Nodup
 refs:Refs t→Refs T
theorem zgH {g prev:List Int} {n q r m:Nat} (h:∀q,q<n→nth prev q<(m:Int)):heardV g n q prev r<(m:Int):=by
 unfold heardV;split
 ·rename_i h1;exact h r h1.1
 ·omega
theorem QG {g prev:List Int} {n k q j:Nat} (hj:j<5):nth (seenV g n k q prev) (3+j)=heardV g n q prev j:=by
 have:j=0∨j=1∨j=2∨j=3∨j=4:=by omega
 rcases this with rfl | rfl | rfl | rfl | rfl<;>rfl
theorem Yx {x:Int} {q j:Nat} (hj:j<5):nth (firstV q x) (3+j)= -1:=by
 have:j=0∨j=1∨j=2∨j=3∨j=4:=by omega
 rcases this with rfl | rfl | rfl | rfl | rfl<;>rfl
theorem zgK {n:Nat} {inn:List Int} {word vs r:List (List Int)} {k q:Nat} (h:k≤vs.length):vwE n inn word (vs++r) k q=vwE n inn word vs k q:=by
 cases k with
 | zero=>rfl
 | succ k=>show seenV (nthL word k) n (k+1) q (nthL (vs++r) k)=seenV (nthL word k) n (k+1) q (nthL vs k);rw[za6 (by omega)]
theorem zd3 (n:Nat) (inn:List Int) (word t:List (List Int)):∀K,PlayOK n inn word t K (playV n inn word t K).1 (playV n inn word t K).2
 | 0=>by
  unfold playV;refine ⟨xA _ _ _,rfl,fun k hk=>?_,fun k hk q hq=>?_,fun v hv=>?_,fun h=>YQ _ h _,fun h=>Xp _ h _ fun i hi j hj=>?_⟩
  ·have:k=0:=by omega
   subst this;exact yp _ _ _
  ·have:k=0:=by omega
   subst this;exact zdc (fun q=>firstV q (nth inn q)) t n q hq
  ·rcases zaO (fun q=>firstV q (nth inn q)) t n v hv with h | ⟨i,h1,h2⟩
   ·exact .inl h
   ·exact .inr ⟨0,Nat.le_refl _,i,h1,h2⟩
  ·rw[Yx hj];omega
 | K+1=>by
  have ih:=zd3 n inn word t K;unfold playV
  generalize (playV n inn word t K).1=T at ih ⊢
  generalize (playV n inn word t K).2=vs at ih ⊢
  have hpre:=xA (fun q=>seenV (nthL word K) n (K+1) q (nthL vs K)) T n;have hlen:=yp (fun q=>seenV (nthL word K) n (K+1) q (nthL vs K)) T n;have hat:=zdc (fun q=>seenV (nthL word K) n (K+1) q (nthL vs K)) T n;have hnew:=zaO (fun q=>seenV (nthL word K) n (K+1) q (nthL vs K)) T n;have hnd:T.Nodup→(layV (fun q=>seenV (nthL word K) n (K+1) q (nthL vs K)) T n).1.Nodup:=fun h=>YQ _ h n;have hrf:Refs T→Refs (layV (fun q=>seenV (nthL word K) n (K+1) q (nthL vs K)) T n).1:=fun h=>Xp _ h n fun i hi j hj=>by
   rw[QG hj];exact zgH fun q hq=>by obtain ⟨u,h1,h2,_⟩:=ih.at' K (Nat.le_refl _) q hq;omega
  generalize layV (fun q=>seenV (nthL word K) n (K+1) q (nthL vs K)) T n=L at hpre hlen hat hnew hnd hrf ⊢
  have hold:∀k,k≤K→nthL (vs++[L.2]) k=nthL vs k:=fun k hk=>za6 (by have:=ih.len;omega);have hlast:nthL (vs++[L.2]) (K+1)=L.2:=by have:=zbV (l:=vs) (x:=L.2);rw[ih.len]at this;exact this
  refine ⟨ih.pre.trans hpre,by simp[ih.len],fun k hk=>?_,fun k hk q hq=>?_,fun v hv=>?_,fun h=>hnd (ih.nodup h),fun h=>hrf (ih.refs h)⟩
  ·by_cases e:k≤K
   ·rw[hold k e];exact ih.rows k e
   ·have:k=K+1:=by omega
    subst this;rw[hlast];exact hlen
  ·by_cases e:k≤K
   ·obtain ⟨u,h1,h2,h3⟩:=ih.at' k e q hq;exact ⟨u,Nat.lt_of_lt_of_le h1 hpre.length_le,by rw[hold k e];exact h2,by rw[xy hpre h1,zgK (by have:=ih.len;omega)];exact h3⟩
   ·have:k=K+1:=by omega
    subst this;obtain ⟨u,h1,h2,h3⟩:=hat q hq;exact ⟨u,h1,by rw[hlast];exact h2,by rw[zgK (by have:=ih.len;omega)];exact h3⟩
  ·rcases hnew v hv with h | ⟨i,h1,h2⟩
   ·rcases ih.new v h with h | ⟨k,h1,q,h2,h3⟩
    ·exact .inl h
    ·exact .inr ⟨k,by omega,q,h2,by rw[hold k h1];exact h3⟩
   ·exact .inr ⟨K+1,Nat.le_refl _,i,h1,by rw[hlast];exact h2⟩
structure ExOK (n K:Nat) (cs:List CaseD) (T:List (List Int)) (x:ExecD) (c:Nat):Prop where
 case:x.case=c
 clt:c<cs.length
 word:x.word.length=K
 len:x.vs.length=K+1
 rows:∀k,k≤K→(nthL x.vs k).length=n
 at':∀k,k≤K→∀q,q<n→∃u:Nat,u<T.length∧nth (nthL x.vs k) q=u∧nthL T u=vwE n (nthC cs c).inn x.word x.vs k q
theorem ExOK.grow {n K:Nat} {cs:List CaseD} {T T':List (List Int)} {x:ExecD} {c:Nat} (h:ExOK n K cs T x c) (hp:T<+:T'):ExOK n K cs T' x c:=
 ⟨h.case,h.clt,h.word,h.len,h.rows,fun k hk q hq=>by
  obtain ⟨u,h1,h2,h3⟩:=h.at' k hk q hq;exact ⟨u,Nat.lt_of_lt_of_le h1 hp.length_le,h2,by rw[xy hp h1];exact h3⟩⟩
structure RunOK (n K:Nat) (cs:List CaseD) (a:List (List Int)×List ExecD):Prop where
 ex:∀x∈a.2,∃c,ExOK n K cs a.1 x c
 occ:∀v,v<a.1.length→∃x∈a.2,∃k,k≤K∧∃q,q<n∧nth (nthL x.vs k) q=(v:Nat)
 nodup:a.1.Nodup
 refs:Refs a.1
theorem RunOK.step {n K:Nat} {cs:List CaseD} {a:List (List Int)×List ExecD} (h:RunOK n K cs a) (x:Nat×List (List Int)) (hx:x.1<cs.length∧x.2.length=K):RunOK n K cs (stepE n cs a x):=by
 have hp:=zd3 n (nthC cs x.1).inn x.2 a.1 x.2.length;rw[hx.2]at hp;unfold stepE;rw[hx.2]
 generalize playV n (nthC cs x.1).inn x.2 a.1 K=P at hp ⊢
 refine ⟨fun y hy=>?_,fun v hv=>?_,hp.nodup h.nodup,hp.refs h.refs⟩
 ·rcases List.mem_append.1 hy with hy | hy
  ·obtain ⟨c,hc⟩:=h.ex y hy;exact ⟨c,hc.grow hp.pre⟩
  ·rw[List.mem_singleton.1 hy];exact ⟨x.1,rfl,hx.1,hx.2,hp.len,hp.rows,hp.at'⟩
 ·rcases hp.new v hv with h1 | ⟨k,h1,q,h2,h3⟩
  ·obtain ⟨y,hy,hr⟩:=h.occ v h1;exact ⟨y,List.mem_append_left _ hy,hr⟩
  ·exact ⟨_,List.mem_append_right _ (List.mem_singleton.2 rfl),k,h1,q,h2,h3⟩
theorem zjh {n K:Nat} {cs:List CaseD} {l:List (Nat×List (List Int))} (h:∀x∈l,x.1<cs.length∧x.2.length=K):RunOK n K cs (runE n cs l):=by
 have key:∀(l:List (Nat×List (List Int))) (a:List (List Int)×List ExecD),RunOK n K cs a→(∀x∈l,x.1<cs.length∧x.2.length=K)→RunOK n K cs (l.foldl (stepE n cs) a):=by
  intro l;induction l with
  | nil=>intro a h _;exact h
  | cons x r ih=>intro a h hx;rw[List.foldl_cons];exact ih _ (h.step x (hx x (by simp))) fun y hy=>hx y (by simp[hy])
 exact key l _ ⟨fun x hx=>by simp at hx,fun v hv=>by simp at hv,by simp,fun v hv=>by simp at hv⟩ h
theorem zes (n:Nat) (cs:List CaseD) (l:List (Nat×List (List Int))):(runE n cs l).2.map (fun x=>(x.case,x.word))=l.map fun x=>((x.1:Int),x.2):=by
 have key:∀(l:List (Nat×List (List Int))) (a:List (List Int)×List ExecD),(l.foldl (stepE n cs) a).2.map (fun x=>(x.case,x.word))=a.2.map (fun x=>(x.case,x.word))++l.map fun x=>((x.1:Int),x.2):=by
  intro l;induction l with
  | nil=>intro a;simp
  | cons x r ih=>intro a;rw[List.foldl_cons,ih];simp[stepE,ExecD.case,ExecD.word]
 have:=key l ([],[]);unfold runE;rw[this];rfl
structure GoodS (s:SysF) (N K:Nat):Prop where
 pok:ProbOK s.p N
 tn:s.tn=N
 rnd:s.p.rounds=K
 K6:K≤6
 ex:∀e,e<s.ex.length→∃c,ExOK N K s.p.cs s.tab (nthX s.ex e) c
 words:∀e,e<s.ex.length→∀k,k<K→RoundOK N (nthL (nthX s.ex e).word k)
 occ:∀v,v<s.tab.length→∃e,e<s.ex.length∧∃k,k≤K∧∃q,q<N∧nth (nthL (nthX s.ex e).vs k) q=(v:Nat)
 nodup:s.tab.Nodup
 refs:Refs s.tab
 num:s.ex.length=s.p.num
theorem zja {s:SysF} (h:verE s=0) (h8:Moves8 s.p.st):∃N K,GoodS s N K:=by
 unfold verE at h;by_cases h0:buildE s.p=0
 case neg=>rw[if_neg h0]at h;exact absurd h h0
 rw[if_pos h0]at h;by_cases h1:s.tn=s.p.n∧s.tab=s.p.sys.1∧s.ex=s.p.sys.2
 case neg=>rw[if_neg h1]at h;cases h
 have hz:checkPr s.p=0:=by
  unfold buildE at h0;by_cases hc:checkPr s.p=0
  ·exact hc
  ·rw[if_neg hc]at h0;exact h0
 obtain ⟨N,hok⟩:=probOK hz;obtain ⟨K,hK⟩:∃K:Nat,s.p.rounds=K:=⟨s.p.rounds.toNat,by have:=hok.r;omega⟩;have eN:s.p.n.toNat=N:=by rw[hok.n];exact Int.toNat_natCast N
 have eK:s.p.rounds.toNat=K:=by rw[hK];exact Int.toNat_natCast K
 obtain ⟨h2,h3,h4⟩:=h1;have hrun:RunOK N K s.p.cs (s.tab,s.ex):=by
  rw[h3,h4];have:=zjh (n:=N) (K:=K) (cs:=s.p.cs) (l:=s.p.pairs) fun x hx=>⟨s.p.pairs_case x hx,by rw[s.p.pairs_word x hx,eK]⟩;unfold ProbD.sys;rw[eN];exact this
 refine ⟨N,K,hok,by rw[h2,hok.n],hK,by have:=hok.r;omega,fun e he=>hrun.ex _ (zai he),fun e he k hk=>?_,fun v hv=>?_,hrun.nodup,hrun.refs,?_⟩
 ·have hm:=zes s.p.n.toNat s.p.cs s.p.pairs;have hx:((nthX s.ex e).case,(nthX s.ex e).word)∈s.p.pairs.map fun x=>((x.1:Int),x.2):=by
   rw[←hm];exact List.mem_map.2 ⟨_,by have:=zai he;rw[h4]at this ⊢;exact this,rfl⟩
  obtain ⟨x,hx,he2⟩:=List.mem_map.1 hx;have e2:x.2=(nthX s.ex e).word:=congrArg Prod.snd he2;unfold ProbD.pairs pairsW at hx;obtain ⟨i,hi,hx⟩:=List.mem_flatMap.1 hx;obtain ⟨w,hw,rfl⟩:=List.mem_map.1 hx;obtain ⟨c,hc⟩:=hrun.ex _ (zai he);have h5:=hok.words h8 s.p.rounds.toNat w hw (nthL w k) (yh (by have:=hc.word;rw[←e2]at this;dsimp only at this;omega));rw[hok.n]at h5;rw[←e2];exact h5
 ·obtain ⟨x,hx,hr⟩:=hrun.occ v hv;obtain ⟨e,he,rfl⟩:=List.getElem_of_mem hx;exact ⟨e,he,by rw[zaC he];exact hr⟩
 ·rw[h4];unfold ProbD.sys;rw[Yo];exact s.p.pairs_len
end Go.Proofs.YtiabbjolepnjkaaGreat
namespace Go.Proofs.YtiabbjolepnjkaaGreat
open Go.ChangeShapes Go.WideShapes Go.ChangeAt Go.RowKit
theorem ownGodebug:ownKnob Tryz.prog.godebug=none:=by kernel_rfl
theorem laidOutAll:laidOutB Tryz.prog=true:=by kernel_rfl
theorem yB:Tryz.prog.cellsOf 3=1:=by kernel_rfl
theorem ZU:Tryz.prog.cellsOf 36=1:=by kernel_rfl
theorem Y3:Tryz.prog.cellsOf 146=1:=by kernel_rfl
theorem Xi:Tryz.prog.cellsOf 63=5:=by kernel_rfl
theorem Y4:Tryz.prog.cellsOf 151=6:=by kernel_rfl
theorem Y1:Tryz.prog.cellsOf 153=7:=by kernel_rfl
theorem Xk:Tryz.prog.cellsOf 155=8:=by kernel_rfl
theorem zb4:Tryz.prog.cellsOf 149=1:=by kernel_rfl
theorem zaz:Tryz.prog.cellsOf 25=1:=by kernel_rfl
theorem Qt:Tryz.prog.cellsOf 157=3:=by kernel_rfl
theorem zbs:Tryz.prog.cellsOf 22=1:=by kernel_rfl
theorem zcU:Tryz.prog.cellsOf 24=4:=by kernel_rfl
theorem zex:Tryz.prog.cellsOf 27=2:=by kernel_rfl
theorem zc8:Tryz.prog.cellsOf 29=7:=by kernel_rfl
theorem zdd:Tryz.prog.cellsOf 38=1:=by kernel_rfl
def Lim {H:Type} (t:TypeId) (d:DataW H):Prop:=∀n∈d.weights Tryz.prog t,n≤reachBytes
section
variable {H:Type} {enc:TypeId×Value→H} {W:World}
theorem qV {ts:List TypeId} {ds:List (DataW H)} (h:(DataW.weightsEach Tryz.prog ts ds).all (·≤reachBytes)=true) {j:Nat} {t:TypeId} {d:DataW H} (ht:ts[j]? =some t) (hd:ds[j]? =some d):Lim t d:=fun n hn=>by
 have:=List.all_eq_true.1 h _ (DataW.weights_mem_each ht hd n hn);simpa using this
theorem zh3 {t:TypeId} {fs:Array Field} (hu:Tryz.prog.underlying t=some (.struct fs)) {parts:List (DataW H)} (h:Lim t (.agg parts)) {i:Nat} {f:Field} {d:DataW H} (hf:fs[i]? =some f) (hd:parts[i]? =some d):Lim f.type d:=fun n hn=>
 h n (by
  simp only[DataW.weights,hu];exact DataW.weights_mem_each (j:=i) (by simp[hf]) hd n hn)
theorem zjt {e:TypeId} {l:List (DataW H)} {d:DataW H} (hd:d∈l) {n:Nat} (hn:n∈d.weights Tryz.prog e):n∈DataW.weightsAll Tryz.prog e l:=by
 induction l with
 | nil=>cases hd
 | cons x r ih=>
  simp only[DataW.weightsAll,List.mem_append];rcases List.mem_cons.1 hd with rfl | h
  ·exact .inl hn
  ·exact .inr (ih h)
theorem zhb {t e:TypeId} (hu:Tryz.prog.underlying t=some (.slice e)) {el sp:List (DataW H)} (h:Lim t (.slice el sp)):(el.length+sp.length) * Tryz.prog.bytesOf e≤reachBytes∧∀d∈el,Lim e d:=by
 unfold Lim at h;simp only[DataW.weights,hu]at h;exact ⟨h _ (List.mem_cons_self ..),fun d hd n hn=>h n (List.mem_cons_of_mem _ (List.mem_append.2 (.inl (zjt hd hn))))⟩
theorem yN {t:TypeId} {v:Value} {d:DataW H} {p:List MemPlace}
  (h:DataW.Trod enc Tryz.prog W 0 (fun _=>true) true t v d p):∀x∈p,x.block<W.heap.size:=by
 obtain ⟨m,hm⟩:=h;exact DataW.trod_lt m _ _ _ hm
theorem zbu {a:Addr} {u:Value} (c0:W.cell? a=some u):a.spot=none:=by
 unfold World.cell? at c0;split at c0
 ·split at c0
  ·cases c0
  ·rename_i hs;simpa using hs
 ·cases c0
theorem Xf (a:Addr):a.add 0=a:=by simp[Addr.add]
theorem zcP {a:Addr} (h:a.spot=none) (j:Nat):a.add j=adr (some a) j:=by
 unfold Addr.add adr;split
 ·rename_i hj;subst hj;cases a;simp at h;simp[h]
 ·rfl
theorem zhz {a:Addr} (h:a.spot=none) (k j:Nat):(a.add k).add j=adr (some a) (k+j):=by
 rw[zcP h k,zcP (a:=adr (some a) k) rfl j];simp[adr,Nat.add_assoc]
theorem zeW {α:Type} {Q:Nat→α→Prop}:∀n:Nat,(∀i,i<n→∃e,Q i e)→∃l:List α,l.length=n∧∀i (h:i<l.length),Q i l[i]:=by
 intro n;induction n with
 | zero=>intro _;exact ⟨[],rfl,fun i hi=>by simp at hi⟩
 | succ n ih=>
  intro h;obtain ⟨l,hl,hq⟩:=ih fun i hi=>h i (by omega);obtain ⟨e,he⟩:=h n (by omega);refine ⟨l++[e],by simp[hl],fun i hi=>?_⟩;by_cases hin:i<l.length
  ·rw[List.getElem_append_left hin];exact hq i hin
  ·obtain rfl:i=l.length:=by simp at hi;omega
   rw[List.getElem_append_right (Nat.le_refl _)];simp;rw[hl];exact he
theorem Zy {α:Type} {K:Kd α} {t e:TypeId} (ht:Tryz.prog.underlying t=some (.slice e)) (hz:Tryz.prog.cellsOf e=K.size) (hp:0<K.size) (hb:1≤Tryz.prog.bytesOf e)
  (hr:∀(m:Nat) (cs:List Value) (x:DataW H×List MemPlace),DataW.trod enc Tryz.prog W 0 (fun _=>true) true m e cs=some x→Lim e x.1→∃y,K.rd (fun _=>True) W cs y)
  {m:Nat} {cs:List Value} {x:DataW H×List MemPlace} (h:DataW.trod enc Tryz.prog W 0 (fun _=>true) true m t cs=some x) (hl:Lim t x.1):∃v l,cs=[v]∧Sl K (fun _=>True) W v l:=by
 rcases DataW.trod_slice ht h with ⟨e2,_⟩ | ⟨a,len,cap,elems,rest,m',rfl,e2,hx,_,hlc,hm,hel,hi,hsp,_⟩
 ·exact ⟨_,[],e2,Sl.nil K _ _⟩
 ·rw[hz]at hi hsp;subst e2;rw[hx]at hl;obtain ⟨hw,hle⟩:=zhb ht hl;have hlen:len≤140737488355328:=by
   have h1:(elems.map (·.1)).length+(rest.map (·.1)).length≤((elems.map (·.1)).length+(rest.map (·.1)).length) * Tryz.prog.bytesOf e:=Nat.le_mul_of_pos_right _ hb;have h2:reachBytes=140737488351232:=rfl;rw[h2]at hw;simp only[List.length_map]at h1 hw;omega
  by_cases hc0:cap=0
  ·have hl0:len=0:=by omega
   subst hc0 hl0;exact ⟨_,[],rfl,some a,0,rfl,.inl ⟨rfl,rfl⟩,Nat.le_refl _,⟨by simp[maxLen],by simp⟩,fun j hj=>by simp at hj⟩
  ·have key0:∀{l:List (DataW H×List MemPlace)},0<l.length→(W.cells? 0 (a.add (0 * K.size)) K.size).bind (DataW.trod enc Tryz.prog W 0 (fun _=>true) true m' e)=l[0]?→∃u,W.cell? a=some u:=by
    intro l h0 hq;rw[List.getElem?_eq_getElem h0]at hq;cases hc:W.cells? 0 (a.add (0 * K.size)) K.size with
    | none=>rw[hc]at hq;cases hq
    | some cs'=>
     obtain ⟨_,hl3,hat⟩:=World.cells?_some hc;have:=hat 0 hp;rw[Nat.zero_mul,Xf,Xf,List.getElem?_eq_getElem (by omega)]at this;exact ⟨_,this⟩
   have hcell0:∃u,W.cell? a=some u:=by
    by_cases hl0:len=0
    ·have h3:=(hsp rfl).2 0 (by omega);have hrl:=(hsp rfl).1;rw[hl0]at h3;exact key0 (by omega) h3
    ·exact key0 (by omega) (hi 0 (by omega))
   obtain ⟨u,hu⟩:=hcell0;have hs:=zbu hu;have hbl:a.block<W.heap.size:=World.block_lt_of_cell? W _ hu;obtain ⟨es,hes,hq⟩:=zeW (Q:=fun i y=>∃cs:List Value,(∀j,j<K.size→W.cell? (adr (some a) (i * K.size+j))=cs[j]?)∧K.rd (fun _=>True) W cs y) len (by
    intro i hil;have h3:=hi i hil;rw[List.getElem?_eq_getElem (by omega)]at h3;cases hc:W.cells? 0 (a.add (i * K.size)) K.size with
    | none=>rw[hc]at h3;cases h3
    | some cs'=>
     rw[hc]at h3;obtain ⟨_,hl3,hat⟩:=World.cells?_some hc;obtain ⟨y,hy⟩:=hr m' cs' _ h3 (hle _ (List.mem_map.2 ⟨_,List.getElem_mem (by omega),rfl⟩));exact ⟨y,cs',fun j hj=>by rw[←zhz hs];exact hat j hj,hy⟩)
   subst hes;exact ⟨_,es,rfl,some a,cap,rfl,.inr ⟨a.block,a.off,by cases a;simp at hs;simp[hs],hbl,trivial⟩,hlc,⟨hm,hlen⟩,hq⟩
theorem xV {m:Nat} {cs:List Value} {x:DataW H×List MemPlace} (hf:DataW.trod enc Tryz.prog W 0 (fun _=>true) true m 36 cs=some x):∃v l,cs=[v]∧Ints (fun _=>True) W v l:=by
 rcases open_ints Tryz.underlying36 Tryz.underlying3 (by kernel_rfl) hf with ⟨hcs,_⟩ | ⟨x,l,c,zs,hcs,_,hl,hm,hz,_,hcell,hwz⟩
 ·exact ⟨_,[],hcs,Ints.nil _ _⟩
 ·have hz':zs.length=c:=by simpa using hz
  have hlen:(zs.take l).length=l:=by simp;omega
  refine ⟨_,zs.take l,hcs,?_⟩;have hw:∀y∈zs.take l,WF y:=fun y hy=>WF.of_lit (hwz y (List.mem_of_mem_take hy));by_cases h0:zs.length=0
  ·have hl0:l=0:=by omega
   have hc0:c=0:=by omega
   subst hl0 hc0;exact ⟨some x,0,by simp,.inl ⟨by simp,rfl⟩,by simp,by simp[maxLen],fun j hj=>by simp at hj,hw⟩
  ·have c0:=hcell 0 (by omega);rw[Xf]at c0;have hx:=zbu c0;have hb:x.block<W.heap.size:=World.block_lt_of_cell? W _ c0;refine ⟨some x,c,by rw[hlen],.inr ⟨x.block,x.off,by cases x;simp at hx;simp[hx],hb,trivial⟩,by omega,hm,fun j hj=>?_,hw⟩;have:=hcell j (by omega);rw[zcP hx]at this;rw[this];congr 2
   rw[hlen]at hj;simp[nth,hj]
theorem fld {t:TypeId} {fs:Array Field} (hu:Tryz.prog.underlying t=some (.struct fs)) {m:Nat} {cs:List Value} {x:DataW H×List MemPlace} (h:DataW.trod enc Tryz.prog W 0 (fun _=>true) true m t cs=some x) (hl:Lim t x.1):
  cs.length=Tryz.prog.cellsOf t∧∀(i:Nat) (f:Field),fs[i]? =some f→∃m' y,DataW.trod enc Tryz.prog W 0 (fun _=>true) true m' f.type ((cs.drop f.offset).take (Tryz.prog.cellsOf f.type))=some y∧Lim f.type y.1:=by
 obtain ⟨xs,n,rfl,hx,hlen,hxl,hg⟩:=DataW.trod_struct hu h;refine ⟨hlen,fun i f hf=>?_⟩;have hi:i<xs.length:=by
  rw[hxl];exact (Array.getElem?_eq_some_iff.1 hf).1
 have h1:=hg i f hf;rw[List.getElem?_eq_getElem hi]at h1;rw[hx]at hl;exact ⟨n,xs[i],h1,zh3 hu hl hf (by rw[List.getElem?_map,List.getElem?_eq_getElem hi];rfl)⟩
def Flt (enc:TypeId×Value→H) (W:World) (t:TypeId) (n:Nat):Prop:=
 ∀(m:Nat) (cs:List Value) (x:DataW H×List MemPlace),DataW.trod enc Tryz.prog W 0 (fun _=>true) true m t cs=some x→∃l:List Int,l.length=n∧cs=l.map (Value.int .i64)∧∀y∈l,WF y
theorem za9:Flt enc W 3 1:=fun m cs x h=>by
 obtain ⟨z,e0,_,w0⟩:=DataW.trod_int Tryz.underlying3 h;exact ⟨[z],rfl,e0,fun y hy=>by rw[List.mem_singleton.1 hy];exact WF.of_lit w0⟩
theorem zdS {cs:List Value} {s n:Nat} {l l2:List Int} (hl:l.length=s) (h1:cs.take s=l.map (Value.int .i64)) (w1:∀y∈l,WF y) (hl2:l2.length=n) (h2:(cs.drop s).take n=l2.map (Value.int .i64)) (w2:∀y∈l2,WF y):
  ∃l:List Int,l.length=s+n∧cs.take (s+n)=l.map (Value.int .i64)∧∀y∈l,WF y:=
 ⟨l++l2,by simp[hl,hl2],by rw[List.take_add,h1,h2,List.map_append],fun y hy=>(List.mem_append.1 hy).elim (w1 y) (w2 y)⟩
theorem zgT {t e:TypeId} {n:Nat} (hu:Tryz.prog.underlying t=some (.array n e)) (hc:Tryz.prog.cellsOf t=n) (he:Tryz.prog.cellsOf e=1) (hf:Flt enc W e 1):Flt enc W t n:=fun m cs x h=>by
 obtain ⟨xs,m',rfl,hx,hlen,hxl,hg⟩:=DataW.trod_array hu h;have key:∀k,k≤n→∃l:List Int,l.length=k∧cs.take k=l.map (Value.int .i64)∧∀y∈l,WF y:=by
  intro k;induction k with
  | zero=>intro _;exact ⟨[],rfl,by simp,fun y hy=>by cases hy⟩
  | succ k ih=>
   intro hk;obtain ⟨l,hl,h1,w1⟩:=ih (by omega);have h2:=hg k (by omega);rw[he,Nat.mul_one,List.getElem?_eq_getElem (by omega)]at h2;obtain ⟨l2,hl2,h3,w2⟩:=hf _ _ _ h2;exact zdS hl h1 w1 hl2 h3 w2
 obtain ⟨l,hl,h1,w⟩:=key n (Nat.le_refl _);rw[List.take_of_length_le (by omega)]at h1;exact ⟨l,hl,h1,w⟩
theorem YN {t:TypeId} {fs:Array Field} {ns:List Nat} (hu:Tryz.prog.underlying t=some (.struct fs)) (hc:Tryz.prog.cellsOf t=ns.sum)
  (hf:∀(i n:Nat),ns[i]? =some n→∃f,fs[i]? =some f∧f.offset=(ns.take i).sum∧Tryz.prog.cellsOf f.type=n∧Flt enc W f.type n):Flt enc W t ns.sum:=fun m cs x h=>by
 obtain ⟨xs,m',rfl,hx,hlen,hxl,hg⟩:=DataW.trod_struct hu h;have key:∀k,k≤ns.length→∃l:List Int,l.length=(ns.take k).sum∧cs.take (ns.take k).sum=l.map (Value.int .i64)∧∀y∈l,WF y:=by
  intro k;induction k with
  | zero=>intro _;exact ⟨[],rfl,by simp,fun y hy=>by cases hy⟩
  | succ k ih=>
   intro hk;obtain ⟨l,hl,h1,w1⟩:=ih (by omega);obtain ⟨f,f1,f2,f3,f4⟩:=hf k ns[k] (List.getElem?_eq_getElem (by omega));have h2:=hg k f f1;have hi:k<xs.length:=by rw[hxl];exact (Array.getElem?_eq_some_iff.1 f1).1
   rw[f2,f3,List.getElem?_eq_getElem hi]at h2;obtain ⟨l2,hl2,h3,w2⟩:=f4 _ _ _ h2;have hs:(ns.take (k+1)).sum=(ns.take k).sum+ns[k]:=by rw[List.take_add_one,List.getElem?_eq_getElem (by omega),List.sum_append];simp
   rw[hs];exact zdS hl h1 w1 hl2 h3 w2
 obtain ⟨l,hl,h1,w⟩:=key ns.length (Nat.le_refl _);rw[List.take_length]at hl h1;rw[List.take_of_length_le (by omega)]at h1;exact ⟨l,hl,h1,w⟩
theorem zh9:Flt enc W 63 5:=zgT Tryz.underlying63 Xi yB za9
theorem zgL:Flt enc W 151 6:=YN (ns:=[1,5]) Tryz.underlying151 Y4 fun i n hi=>by
 match i,hi with
 | 0,hi=>cases hi;exact ⟨_,rfl,rfl,yB,za9⟩
 | 1,hi=>cases hi;exact ⟨_,rfl,rfl,Xi,zh9⟩
theorem zgR:Flt enc W 153 7:=YN (ns:=[6,1]) Tryz.underlying153 Y1 fun i n hi=>by
 match i,hi with
 | 0,hi=>cases hi;exact ⟨_,rfl,rfl,Y4,zgL⟩
 | 1,hi=>cases hi;exact ⟨_,rfl,rfl,yB,za9⟩
theorem zhA:Flt enc W 155 8:=YN (ns:=[7,1]) Tryz.underlying155 Xk fun i n hi=>by
 match i,hi with
 | 0,hi=>cases hi;exact ⟨_,rfl,rfl,Y1,zgR⟩
 | 1,hi=>cases hi;exact ⟨_,rfl,rfl,yB,za9⟩
theorem zjs {t:TypeId} {n:Nat} (h:Flt enc W t n):∀(m:Nat) (cs:List Value) (x:DataW H×List MemPlace),DataW.trod enc Tryz.prog W 0 (fun _=>true) true m t cs=some x→Lim t x.1→∃y,(kFlat n).rd (fun _=>True) W cs y:=
 fun m cs x hx _=>by
  obtain ⟨l,h1,h2,h3⟩:=h m cs x hx;exact ⟨l,h1,h2,h3⟩
theorem zaW {m:Nat} {cs:List Value} {x:DataW H×List MemPlace} (h:DataW.trod enc Tryz.prog W 0 (fun _=>true) true m 149 cs=some x) (hl:Lim 149 x.1):∃v l,cs=[v]∧Sl (kFlat 8) (fun _=>True) W v l:=
 Zy (K:=kFlat 8) Tryz.underlying149 Xk (by decide) (of_decide_eq_true (by kernel_rfl)) (zjs zhA) h hl
theorem XE {m:Nat} {cs:List Value} {x:DataW H×List MemPlace} (h:DataW.trod enc Tryz.prog W 0 (fun _=>true) true m 25 cs=some x) (hl:Lim 25 x.1):∃v l,cs=[v]∧Sl (kSl (kFlat 8)) (fun _=>True) W v l:=
 Zy (K:=kSl (kFlat 8)) Tryz.underlying25 zb4 (by decide) (of_decide_eq_true (by kernel_rfl)) (fun m cs x h1 h2=>let ⟨v,l,e,h3⟩:=zaW h1 h2;⟨l,v,e,h3⟩) h hl
theorem Yr {m:Nat} {cs:List Value} {x:DataW H×List MemPlace} (h:DataW.trod enc Tryz.prog W 0 (fun _=>true) true m 146 cs=some x) (hl:Lim 146 x.1):∃v l,cs=[v]∧Lists (fun _=>True) W v l:=
 let ⟨v,l,e,h1⟩:=Zy (K:=kInts) Tryz.underlying146 ZU (by decide) (of_decide_eq_true (by kernel_rfl)) (fun m cs x h1 h2=>let ⟨v,l,e,h3⟩:=xV h1;⟨l,v,e,h3⟩) h hl
 ⟨v,l,e,.of_sl h1⟩
theorem getR1 {α:Type} {l:List α} (h:l.length=1):∃a0,l=[a0]:=by
 match l,h with
 | [a0],_=>exact ⟨a0,rfl⟩
theorem getR3 {α:Type} {l:List α} (h:l.length=3):∃a0 a1 a2,l=[a0,a1,a2]:=by
 match l,h with
 | [a0,a1,a2],_=>exact ⟨a0,a1,a2,rfl⟩
theorem zcz {m:Nat} {c:Value} {y:DataW H×List MemPlace} (h:DataW.trod enc Tryz.prog W 0 (fun _=>true) true m 3 [c]=some y):∃z:Int,c=.int .i64 z:=by
 obtain ⟨z,e0,_,_⟩:=DataW.trod_int Tryz.underlying3 h;exact ⟨z,by simpa using e0⟩
theorem zbp (m:Nat) (cs:List Value) (x:DataW H×List MemPlace) (h:DataW.trod enc Tryz.prog W 0 (fun _=>true) true m 157 cs=some x) (hl:Lim 157 x.1):∃y,kCase.rd (fun _=>True) W cs y:=by
 obtain ⟨hlen,hg⟩:=fld Tryz.underlying157 h hl;rw[Qt]at hlen;obtain ⟨c0,c1,c2,rfl⟩:=getR3 hlen;obtain ⟨m0,y0,h0,l0⟩:=hg 0 _ rfl;replace h0:DataW.trod enc Tryz.prog W 0 (fun _=>true) true m0 36 (([c0,c1,c2].drop 0).take (Tryz.prog.cellsOf 36))=some y0:=h0;rw[ZU]at h0;replace h0:DataW.trod enc Tryz.prog W 0 (fun _=>true) true m0 36 [c0]=some y0:=h0;obtain ⟨m1,y1,h1,l1⟩:=hg 1 _ rfl;replace h1:DataW.trod enc Tryz.prog W 0 (fun _=>true) true m1 146 (([c0,c1,c2].drop 1).take (Tryz.prog.cellsOf 146))=some y1:=h1;rw[Y3]at h1;replace h1:DataW.trod enc Tryz.prog W 0 (fun _=>true) true m1 146 [c1]=some y1:=h1;obtain ⟨m2,y2,h2,l2⟩:=hg 2 _ rfl;replace h2:DataW.trod enc Tryz.prog W 0 (fun _=>true) true m2 146 (([c0,c1,c2].drop 2).take (Tryz.prog.cellsOf 146))=some y2:=h2;rw[Y3]at h2;replace h2:DataW.trod enc Tryz.prog W 0 (fun _=>true) true m2 146 [c2]=some y2:=h2;obtain ⟨v0,i0,e0,r0⟩:=xV h0;obtain ⟨v1,i1,e1,r1⟩:=Yr h1 l1;obtain ⟨v2,i2,e2,r2⟩:=Yr h2 l2;simp only[List.cons.injEq,and_true]at e0 e1 e2;subst e0 e1 e2;exact ⟨⟨i0,i1,i2⟩,_,_,_,rfl,r0,r1,r2⟩
theorem zam {m:Nat} {cs:List Value} {x:DataW H×List MemPlace} (h:DataW.trod enc Tryz.prog W 0 (fun _=>true) true m 22 cs=some x) (hl:Lim 22 x.1):∃v l,cs=[v]∧Sl (kCase) (fun _=>True) W v l:=
 Zy (K:=kCase) Tryz.underlying22 Qt (by decide) (of_decide_eq_true (by kernel_rfl)) (zbp) h hl
theorem xW {base:Nat} {v:Value} {d:DataW H} {p:List MemPlace} (hl:Lim 38 d) (hv:Value.okWide Tryz.prog W .any base 38 v)
  (h:DataW.Trod enc Tryz.prog W 0 (fun _=>true) true 38 v d p):∃u l,v=.agg #[u]∧Ints (fun _=>True) W u l:=by
 obtain ⟨cs,rfl,_⟩:=okWide_struct Tryz.underlying38 hv;obtain ⟨fuel,hf⟩:=h;obtain ⟨hlen,hg⟩:=fld Tryz.underlying38 hf hl;rw[zdd]at hlen;obtain ⟨l⟩:=cs;obtain ⟨c0,hl2⟩:=getR1 hlen;simp only[Value.cells]at hl2;subst hl2;clear hf hlen hv;obtain ⟨m0,y0,h0,l0⟩:=hg 0 _ rfl;replace h0:DataW.trod enc Tryz.prog W 0 (fun _=>true) true m0 36 (([c0].drop 0).take (Tryz.prog.cellsOf 36))=some y0:=h0;rw[ZU]at h0;replace h0:DataW.trod enc Tryz.prog W 0 (fun _=>true) true m0 36 [c0]=some y0:=h0;obtain ⟨v0,i0,e0,r0⟩:=xV h0;simp only[List.cons.injEq,and_true]at e0;subst e0;exact ⟨_,i0,rfl,r0⟩
end
end Go.Proofs.YtiabbjolepnjkaaGreat
namespace Go.Proofs.YtiabbjolepnjkaaGreat
open Go.ChangeShapes Go.WideShapes Go.ChangeAt Go.RowKit
section
variable {H:Type} {enc:TypeId×Value→H} {W:World}
theorem getR7 {α:Type} {l:List α} (h:l.length=7):∃a0 a1 a2 a3 a4 a5 a6,l=[a0,a1,a2,a3,a4,a5,a6]:=by
 match l,h with
 | [a0,a1,a2,a3,a4,a5,a6],_=>exact ⟨a0,a1,a2,a3,a4,a5,a6,rfl⟩
theorem Zg {base:Nat} {v:Value} {d:DataW H} {p:List MemPlace} (hl:Lim 29 d) (hv:Value.okWide Tryz.prog W .any base 29 v)
  (h:DataW.Trod enc Tryz.prog W 0 (fun _=>true) true 29 v d p):∃(p:ProbD) (vc vs:Value),v=.agg #[p.n,p.ins,p.outs,vc,p.an,vs,p.rounds]∧Sl kCase (fun _=>True) W vc p.cs∧Sl (kSl (kFlat 8)) (fun _=>True) W vs p.st:=by
 obtain ⟨cs,rfl,_⟩:=okWide_struct Tryz.underlying29 hv;obtain ⟨fuel,hf⟩:=h;obtain ⟨hlen,gp⟩:=fld Tryz.underlying29 hf hl;rw[zc8]at hlen;obtain ⟨l⟩:=cs;obtain ⟨c0,c1,c2,c3,c4,c5,c6,hl2⟩:=getR7 hlen;simp only[Value.cells]at hl2;subst hl2;clear hf hlen hv;obtain ⟨m3,y3,h3,l3⟩:=gp 0 _ rfl;replace h3:DataW.trod enc Tryz.prog W 0 (fun _=>true) true m3 24 (([c0,c1,c2,c3,c4,c5,c6].drop 0).take (Tryz.prog.cellsOf 24))=some y3:=h3;rw[zcU]at h3;replace h3:DataW.trod enc Tryz.prog W 0 (fun _=>true) true m3 24 [c0,c1,c2,c3]=some y3:=h3;obtain ⟨m4,y4,h4,l4⟩:=gp 1 _ rfl;replace h4:DataW.trod enc Tryz.prog W 0 (fun _=>true) true m4 27 (([c0,c1,c2,c3,c4,c5,c6].drop 4).take (Tryz.prog.cellsOf 27))=some y4:=h4;rw[zex]at h4;replace h4:DataW.trod enc Tryz.prog W 0 (fun _=>true) true m4 27 [c4,c5]=some y4:=h4;obtain ⟨m5,y5,h5,l5⟩:=gp 2 _ rfl;replace h5:DataW.trod enc Tryz.prog W 0 (fun _=>true) true m5 3 (([c0,c1,c2,c3,c4,c5,c6].drop 6).take (Tryz.prog.cellsOf 3))=some y5:=h5;rw[yB]at h5;replace h5:DataW.trod enc Tryz.prog W 0 (fun _=>true) true m5 3 [c6]=some y5:=h5;obtain ⟨_,gk⟩:=fld Tryz.underlying24 h3 l3;obtain ⟨m8,y8,h8,l8⟩:=gk 0 _ rfl;replace h8:DataW.trod enc Tryz.prog W 0 (fun _=>true) true m8 3 (([c0,c1,c2,c3].drop 0).take (Tryz.prog.cellsOf 3))=some y8:=h8;rw[yB]at h8;replace h8:DataW.trod enc Tryz.prog W 0 (fun _=>true) true m8 3 [c0]=some y8:=h8;obtain ⟨m9,y9,h9,l9⟩:=gk 1 _ rfl;replace h9:DataW.trod enc Tryz.prog W 0 (fun _=>true) true m9 3 (([c0,c1,c2,c3].drop 1).take (Tryz.prog.cellsOf 3))=some y9:=h9;rw[yB]at h9;replace h9:DataW.trod enc Tryz.prog W 0 (fun _=>true) true m9 3 [c1]=some y9:=h9;obtain ⟨m10,y10,h10,l10⟩:=gk 2 _ rfl;replace h10:DataW.trod enc Tryz.prog W 0 (fun _=>true) true m10 3 (([c0,c1,c2,c3].drop 2).take (Tryz.prog.cellsOf 3))=some y10:=h10;rw[yB]at h10;replace h10:DataW.trod enc Tryz.prog W 0 (fun _=>true) true m10 3 [c2]=some y10:=h10;obtain ⟨m11,y11,h11,l11⟩:=gk 3 _ rfl;replace h11:DataW.trod enc Tryz.prog W 0 (fun _=>true) true m11 22 (([c0,c1,c2,c3].drop 3).take (Tryz.prog.cellsOf 22))=some y11:=h11;rw[zbs]at h11;replace h11:DataW.trod enc Tryz.prog W 0 (fun _=>true) true m11 22 [c3]=some y11:=h11;obtain ⟨_,ga⟩:=fld Tryz.underlying27 h4 l4;obtain ⟨m12,y12,h12,l12⟩:=ga 0 _ rfl;replace h12:DataW.trod enc Tryz.prog W 0 (fun _=>true) true m12 3 (([c4,c5].drop 0).take (Tryz.prog.cellsOf 3))=some y12:=h12;rw[yB]at h12;replace h12:DataW.trod enc Tryz.prog W 0 (fun _=>true) true m12 3 [c4]=some y12:=h12;obtain ⟨m13,y13,h13,l13⟩:=ga 1 _ rfl;replace h13:DataW.trod enc Tryz.prog W 0 (fun _=>true) true m13 25 (([c4,c5].drop 1).take (Tryz.prog.cellsOf 25))=some y13:=h13;rw[zaz]at h13;replace h13:DataW.trod enc Tryz.prog W 0 (fun _=>true) true m13 25 [c5]=some y13:=h13;obtain ⟨z8,rfl⟩:=zcz h8;obtain ⟨z9,rfl⟩:=zcz h9;obtain ⟨z10,rfl⟩:=zcz h10;obtain ⟨v11,i11,e11,r11⟩:=zam h11 l11;obtain ⟨z12,rfl⟩:=zcz h12;obtain ⟨v13,i13,e13,r13⟩:=XE h13 l13;obtain ⟨z5,rfl⟩:=zcz h5;simp only[List.cons.injEq,and_true]at e11 e13;subst e11 e13;exact ⟨⟨z8,z9,z10,i11,z12,i13,z5⟩,_,_,rfl,r11,r13⟩
end
end Go.Proofs.YtiabbjolepnjkaaGreat
