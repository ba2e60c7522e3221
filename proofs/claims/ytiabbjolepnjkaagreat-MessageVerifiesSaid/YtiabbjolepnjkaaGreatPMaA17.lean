/- Part of the proof that the laws answer true for every input. -/
import Derived.Test.YtiabbjolepnjkaaGreatPMaA16
import Derived.Deep.Cut
import Derived.Deep.DeepCutAuto
set_option linter.unusedSimpArgs false
set_option linter.unnecessarySimpa false
set_option linter.unusedVariables false
set_option maxRecDepth 100000
set_option maxHeartbeats 40000000
namespace Go.Proofs.YtiabbjolepnjkaaGreat
open Go.RowKit
attribute [local go_sem ↓] Go.wp_at_zero Go.wp_at_succ
theorem YV {S S':Nat→Prop} {w:World} {v1 v2:Value} {l1 l2:List Int} (h1:Ints S w v1 l1) (h2:Ints S' w v2 l2):
  Calls Tryz.prog 165 #[v1,v2] w (QuietP w (.bool (decide (l1=l2)))):=by
 obtain ⟨a1,cap1,rfl,ha1,_,hm1,hc1,_⟩:=h1;obtain ⟨a2,cap2,rfl,ha2,_,_,hc2,_⟩:=h2;unfold maxLen at hm1;obtain ⟨i0,hi,hz0,hz1,hz2⟩:=info_parts zD;have hix1:=zE Tryz.underlying36 hi hz1 ha1;have hix2:=zE Tryz.underlying36 hi hz1 ha2;clear hi hz0 hz1 hz2;by_cases hlen:l1.length=l2.length
 ·have hne:((l1.length:Int) !=l2.length)=false:=by simp[hlen]
  have HL:=zhd hlen;clear hlen;go_enter Tryz.func165,Tryz.ntmps165;go_wp2;go_loopw [5] (fun i wr=>∃k:Nat,k≤l1.length∧i=.int .i64 k∧(∃m,wr=w.drewN m)∧l1.take k=l2.take k) (fun i _=>l1.length - (intOf i).toNat)
  case atStart=>exact ⟨0,by omega,rfl,⟨0,rfl⟩,rfl⟩
  case round=>
   obtain ⟨k,hk,rfl,⟨m,rfl⟩,hrel⟩:=hrel;have H:=zhd hrel;clear hrel;by_cases hlt:k<l1.length
   ·have hlt2:k<l2.length:=by have:=HL.out;omega
    have q1:=hix1 k hlt;have q2:=hix2 k hlt2;have p1:=hc1 k hlt;have p2:=hc2 k hlt2;obtain ⟨x,hx⟩:=zn (nth l1 k);obtain ⟨y,hy⟩:=zn (nth l2 k);rw[←hx]at p1;rw[←hy]at p2;have HXY:=zhd (And.intro hx hy);clear hix1 hix2 hc1 hc2 hx hy;by_cases he:x=y
    ·have he1:(x !=y)=false:=by simp[he]
     have HE:=zhd he;clear he;go_wp2;go_quiet (fail);go_wp2;go_roundw
     case rel=>exact ⟨k+1,by omega,by go_num,⟨_,rfl⟩,xj hlt hlt2 H.out (by rw[←HXY.out.1,←HXY.out.2];exact HE.out)⟩
     case measure=>simp[intOf];omega
    ·have he1:(x !=y)=true:=by simp[he]
     have HE:=zhd he;clear he;go_wp2;go_quiet (fail);go_wp2;go_ret;rw[World.drewN_drewN];exact .of (zv (decide_eq_false (fun (e:l1=l2)=>HE.out (by rw[HXY.out.1,HXY.out.2,e]))).symm) _
   ·go_wp2;go_ret;refine .of (zv ?_) _;have:=H.out;have h2:=HL.out;rw[List.take_of_length_le (by omega),List.take_of_length_le (by omega)]at this;exact (decide_eq_true this).symm
 ·have hne:((l1.length:Int) !=l2.length)=true:=by simp;omega
  go_enter Tryz.func165,Tryz.ntmps165;go_wp2;go_ret;exact .of (zv (decide_eq_false (fun (e:l1=l2)=>hlen (by rw[e]))).symm) 0
theorem Xv {S S':Nat→Prop} {w:World} {v1 v2:Value} {l1 l2:List (List Int)} (h1:Sl (kFlat 7) S w v1 l1) (h2:Sl (kFlat 7) S' w v2 l2):
  Calls Tryz.prog 164 #[v1,v2] w (QuietP w (.bool (decide (l1=l2)))):=by
 obtain ⟨a1,cap1,rfl,ha1,_,hm1,hf1⟩:=h1.form2;obtain ⟨a2,cap2,rfl,ha2,_,_,_⟩:=h2.form2;have H1:=zhd h1;have H2:=zhd h2;have hix1:=Z9 ha1;have hix2:=Z9 ha2;clear h1 h2 hm1;by_cases hlen:l1.length=l2.length
 ·have hne:((l1.length:Int) !=l2.length)=false:=by simp[hlen]
  have HL:=zhd hlen;clear hlen;go_enter Tryz.func164,Tryz.ntmps164;go_wp2;go_loopw [5] (fun i wr=>∃k:Nat,k≤l1.length∧i=.int .i64 k∧(∃m,wr=w.drewN m)∧l1.take k=l2.take k) (fun i _=>l1.length - (intOf i).toNat)
  case atStart=>exact ⟨0,by omega,rfl,⟨0,rfl⟩,rfl⟩
  case round=>
   obtain ⟨k,hk,rfl,⟨m,rfl⟩,hrel⟩:=hrel;have H:=zhd hrel;clear hrel;by_cases hlt:k<l1.length
   ·have hlt2:k<l2.length:=by have:=HL.out;omega
    have q1:=hix1 k hlt;have q2:=hix2 k hlt2;have z1:=H1.out.nums hlt (by decide);have z2:=H2.out.nums hlt2 (by decide);have g1:=(H1.out.num hlt).1;have g2:=(H2.out.num hlt2).1;obtain ⟨x,hx⟩:=zn (nthL l1 k);obtain ⟨y,hy⟩:=zn (nthL l2 k);rw[←hx]at z1 g1;rw[←hy]at z2 g2;have p0:=z1.1;have r0:=z2.1;have p1:=z1.2 1 (by decide);have p2:=z1.2 2 (by decide);have p3:=z1.2 3 (by decide);have p4:=z1.2 4 (by decide);have p5:=z1.2 5 (by decide);have p6:=z1.2 6 (by decide);have r1:=z2.2 1 (by decide);have r2:=z2.2 2 (by decide);have r3:=z2.2 3 (by decide);have r4:=z2.2 4 (by decide);have r5:=z2.2 5 (by decide);have r6:=z2.2 6 (by decide);have EQ:∀W:World,(Op.equalIn 10000 153 (.agg #[nth x 0,nth x 1,nth x 2,nth x 3,nth x 4,nth x 5,nth x 6]) (.agg #[nth y 0,nth y 1,nth y 2,nth y 3,nth y 4,nth y 5,nth y 6])).run Tryz.prog W=.ok (decide (x=y)) W:=fun W=>by rw[←Qg g1 g2];exact qK 9996 x y W
    have HXY:=zhd (And.intro hx hy);clear hix1 hix2 z1 z2 g1 g2 hx hy;by_cases he:x=y
    ·rw[decide_eq_true he]at EQ;have HE:=zhd he;clear he;go_wp2;go_quiet (fail);go_wp2;go_roundw
     case rel=>exact ⟨k+1,by omega,by go_num,⟨_,rfl⟩,xD hlt hlt2 H.out (by rw[←HXY.out.1,←HXY.out.2];exact HE.out)⟩
     case measure=>simp[intOf];omega
    ·rw[decide_eq_false he]at EQ;have HE:=zhd he;clear he;go_wp2;go_quiet (fail);go_wp2;go_ret;rw[World.drewN_drewN];exact .of (zv (decide_eq_false (fun (e:l1=l2)=>HE.out (by rw[HXY.out.1,HXY.out.2,e]))).symm) _
   ·go_wp2;go_ret;refine .of (zv ?_) _;have:=H.out;have h2:=HL.out;rw[List.take_of_length_le (by omega),List.take_of_length_le (by omega)]at this;exact (decide_eq_true this).symm
 ·have hne:((l1.length:Int) !=l2.length)=true:=by simp;omega
  go_enter Tryz.func164,Tryz.ntmps164;go_wp2;go_ret;exact .of (zv (decide_eq_false (fun (e:l1=l2)=>hlen (by rw[e]))).symm) 0
theorem X0 (l:List Int):ordL l l=0:=YO.2 rfl
theorem xJ {S S':Nat→Prop} {w:World} {v1 v2:Value} {l:List (List Int)} (h1:Lists S w v1 l) (h2:Lists S' w v2 l):
  Calls Tryz.prog 179 #[v1,v2] w (QuietP w (.bool true)):=by
 obtain ⟨a1,cap1,rfl,ha1,hle1,hm1⟩:=h1.form;obtain ⟨a2,cap2,rfl,ha2,_,_⟩:=h2.form;unfold maxLen at hm1;have H1:=zhd h1;have H2:=zhd h2;obtain ⟨i0,hi,hz0,hz1,hz2⟩:=info_parts zL;have hix1:=zE Tryz.underlying146 hi hz1 ha1;have hix2:=zE Tryz.underlying146 hi hz1 ha2;clear hi hz0 hz1 hz2 h1 h2;go_enter Tryz.func179,Tryz.ntmps179;go_wp2;go_loopw [5] (fun i wr=>∃k:Nat,k≤l.length∧i=.int .i64 k∧QW w wr) (fun i _=>l.length - (intOf i).toNat)
 case atStart=>exact ⟨0,by omega,rfl,.refl _⟩
 case round=>
  obtain ⟨k,hk,rfl,hq⟩:=hrel;by_cases hlt:k<l.length
  ·have q1:=hix1 k hlt;have q2:=hix2 k hlt;obtain ⟨u1,c1,i1⟩:=H1.out.at hq.ext hlt;obtain ⟨u2,c2,i2⟩:=H2.out.at hq.ext hlt;have b1:=World.block_lt_of_cell? _ _ c1;have b2:=World.block_lt_of_cell? _ _ c2;have KO:Hid (∀n,Calls Tryz.prog 174 #[u1,u2] (wr.drewN n) (QuietP (wr.drewN n) (.int .i64 0))):=zhd fun n=>by have:=xk (i1.drewN n) (i2.drewN n);rw[X0]at this;exact this
   obtain ⟨ua1,uc1,rfl,_⟩:=i1.form;obtain ⟨ua2,uc2,rfl,_⟩:=i2.form;obtain ⟨x,hx⟩:=zn (nthL l k);rw[←hx]at c1 c2 KO;clear hx i1 i2 hix1 hix2;go_wp2;go_quiet ((go_at_call 174;exact zz (KO.out _)));go_wp2;go_roundw
   case rel=>exact ⟨k+1,by omega,by go_num,hq.drewN _⟩
   case measure=>simp[intOf];omega
  ·go_wp2;go_ret;exact .fin rfl hq
theorem zan {S S':Nat→Prop} {w:World} {v1 v2:Value} {cs:List CaseD} (n ins outs:Int) (h1:Sl kCase S w v1 cs) (h2:Sl kCase S' w v2 cs):
  Calls Tryz.prog 162 #[.agg #[n,ins,outs,v1],.agg #[n,ins,outs,v2]] w (Post w fun _ r=>r=.bool true):=by
 obtain ⟨a1,c1,rfl,ha1,_⟩:=h1.form2;obtain ⟨a2,c2,rfl,ha2,_⟩:=h2.form2;have hfw:=h1.few;have H1:=zhd h1;have H2:=zhd h2;obtain ⟨i0,hi,_,hz1,_⟩:=info_parts qs;have Q1:=zhd (zF Tryz.underlying22 hi hz1 ha1);have Q2:=zhd (zF Tryz.underlying22 hi hz1 ha2);clear h1 h2 hi hz1;have ex:=zh (ze w (.cells #[n,ins,outs,.slice a1 cs.length c1] 24)) (.cells #[n,ins,outs,.slice a2 cs.length c2] 24);have R1:=(zg w [n,ins,outs,.slice a1 cs.length c1] 24).alloc (.cells #[n,ins,outs,.slice a2 cs.length c2] 24);have R2:=zg (w.alloc (.cells #[n,ins,outs,.slice a1 cs.length c1] 24)) [n,ins,outs,.slice a2 cs.length c2] 24;rw[World.size_alloc]at R2;have t0:=R1.zc 0 rfl;have t1:=R1.zc 1 rfl;have t2:=R1.zc 2 rfl;have t3:=R1.zc 3 rfl;have s0:=R2.zc 0 rfl;have s1:=R2.zc 1 rfl;have s2:=R2.zc 2 rfl;have s3:=R2.zc 3 rfl;go_enter Tryz.func162,Tryz.ntmps162;go_wp2;clear t0 t1 t2 t3 s0 s1 s2 s3;go_loopw [5,6,7] (fun i _ _ wr=>∃k:Nat,k≤cs.length∧i=.int .i64 k∧Below w.heap.size w wr∧Row wr w.heap.size 24 [n,ins,outs,.slice a1 cs.length c1]∧Row wr (w.heap.size+1) 24 [n,ins,outs,.slice a2 cs.length c2]) (fun i _ _ _=>cs.length - (intOf i).toNat)
 case atStart=>exact ⟨0,Nat.zero_le _,rfl,ex,R1,R2⟩
 case round=>
  clear ex R1 R2;obtain ⟨k,hk,rfl,hb,R1,R2⟩:=hrel;obtain ⟨wo,rfl⟩:∃wo:World,wo=wr:=⟨_,rfl⟩;have t3:=R1.zc 3 rfl;have s3:=R2.zc 3 rfl;have l1:=R1.lt;have l2:=R2.lt;by_cases hlt:k<cs.length
  case neg=>
   go_wp2;go_ret;exact .mk hb rfl
  have q1:=Q1.out k hlt;have q2:=Q2.out k hlt;obtain ⟨x1,x2,x3,z1,z2,z3,i1,i2,i3⟩:=(H1.out.ext hb).case hlt;obtain ⟨y1,y2,y3,u1,u2,u3,j1,j2,j3⟩:=(H2.out.ext hb).case hlt;have b1:=World.block_lt_of_cell? _ _ z1;have b2:=World.block_lt_of_cell? _ _ u1;obtain ⟨xa1,xc1,rfl,_⟩:=i1.form;obtain ⟨xa2,xc2,rfl,_⟩:=i2.form;obtain ⟨xa3,xc3,rfl,_⟩:=i3.form;obtain ⟨ya1,yc1,rfl,_⟩:=j1.form;obtain ⟨ya2,yc2,rfl,_⟩:=j2.form;obtain ⟨ya3,yc3,rfl,_⟩:=j3.form;have KO:Hid (∀W,Below wo.heap.size wo W→Calls Tryz.prog 174 #[.slice xa1 (nthC cs k).inn.length xc1,.slice ya1 (nthC cs k).inn.length yc1] W (Post W fun _ r=>r=.int .i64 0)):=zhd fun W hW=>by have:=xk (i1.ext hW) (j1.ext hW);rw[X0]at this;exact this.mono fun _ _ h=>h.post
  have KV1:Hid (∀W,Below wo.heap.size wo W→Calls Tryz.prog 179 #[.slice xa2 (nthC cs k).out.length xc2,.slice ya2 (nthC cs k).out.length yc2] W (Post W fun _ r=>r=.bool true)):=zhd fun W hW=>(xJ (i2.ext hW) (j2.ext hW)).mono fun _ _ h=>h.post;have KV2:Hid (∀W,Below wo.heap.size wo W→Calls Tryz.prog 179 #[.slice xa3 (nthC cs k).calm.length xc3,.slice ya3 (nthC cs k).calm.length yc3] W (Post W fun _ r=>r=.bool true)):=zhd fun W hW=>(xJ (i3.ext hW) (j3.ext hW)).mono fun _ _ h=>h.post;obtain ⟨n1,hn1⟩:∃n,n=(nthC cs k).inn.length:=⟨_,rfl⟩;obtain ⟨n2,hn2⟩:∃n,n=(nthC cs k).out.length:=⟨_,rfl⟩;obtain ⟨n3,hn3⟩:∃n,n=(nthC cs k).calm.length:=⟨_,rfl⟩;rw[←hn1]at z1 u1 KO;rw[←hn2]at z2 u2 KV1;rw[←hn3]at z3 u3 KV2;have HNX:Hid (∀W,Below wo.heap.size wo W→Below w.heap.size w W∧Row W w.heap.size 24 [n,ins,outs,.slice a1 cs.length c1]∧Row W (w.heap.size+1) 24 [n,ins,outs,.slice a2 cs.length c2]):=zhd fun W hW=>⟨za hb hW,R1.ext hW,R2.ext hW⟩;clear hn1 hn2 hn3 i1 i2 i3 j1 j2 j3 R1 R2 hb;go_upto_region 6 with fail;go_cut [6,7] from 36 to 74 (fun u6 u7 wx=>∃B6 B7,u6=.pointer (some ⟨B6,0,none⟩)∧u7=.pointer (some ⟨B7,0,none⟩)∧Below wo.heap.size wo wx∧Row wx B6 157 [.slice xa1 n1 xc1,.slice xa2 n2 xc2,.slice xa3 n3 xc3]∧Row wx B7 157 [.slice ya1 n1 yc1,.slice ya2 n2 yc2,.slice ya3 n3 yc3])
  case first=>
   have way1:Hid (∃B6 B7,B6=wo.heap.size∧B7=wo.heap.size+1∧Below wo.heap.size wo ((wo.alloc (.cells #[.slice xa1 n1 xc1,.slice xa2 n2 xc2,.slice xa3 n3 xc3] 157)).alloc (.cells #[.slice ya1 n1 yc1,.slice ya2 n2 yc2,.slice ya3 n3 yc3] 157)).drew∧Row ((wo.alloc (.cells #[.slice xa1 n1 xc1,.slice xa2 n2 xc2,.slice xa3 n3 xc3] 157)).alloc (.cells #[.slice ya1 n1 yc1,.slice ya2 n2 yc2,.slice ya3 n3 yc3] 157)).drew B6 157 [.slice xa1 n1 xc1,.slice xa2 n2 xc2,.slice xa3 n3 xc3]∧Row ((wo.alloc (.cells #[.slice xa1 n1 xc1,.slice xa2 n2 xc2,.slice xa3 n3 xc3] 157)).alloc (.cells #[.slice ya1 n1 yc1,.slice ya2 n2 yc2,.slice ya3 n3 yc3] 157)).drew B7 157 [.slice ya1 n1 yc1,.slice ya2 n2 yc2,.slice ya3 n3 yc3]):=zhd ⟨_,_,rfl,rfl,((zh (ze wo _) _).trans (zb _ _ 1)),(((zg wo [_,_,_] _).alloc _).agree (S:=fun _=>True) (zy _ _ 1) trivial),((by have:=zg (wo.alloc (.cells #[.slice xa1 n1 xc1,.slice xa2 n2 xc2,.slice xa3 n3 xc3] 157)) [.slice ya1 n1 yc1,.slice ya2 n2 yc2,.slice ya3 n3 yc3] 157;rw[World.size_alloc]at this;exact this:Row ((wo.alloc (.cells #[.slice xa1 n1 xc1,.slice xa2 n2 xc2,.slice xa3 n3 xc3] 157)).alloc (.cells #[.slice ya1 n1 yc1,.slice ya2 n2 yc2,.slice ya3 n3 yc3] 157)) (wo.heap.size+1) 157 _).agree (S:=fun _=>True) (zy _ _ 1) trivial)⟩;have way2:Hid (∃B6 B7,B6=wo.heap.size+1∧B7=wo.heap.size∧Below wo.heap.size wo ((wo.alloc (.cells #[.slice ya1 n1 yc1,.slice ya2 n2 yc2,.slice ya3 n3 yc3] 157)).alloc (.cells #[.slice xa1 n1 xc1,.slice xa2 n2 xc2,.slice xa3 n3 xc3] 157)).drew∧Row ((wo.alloc (.cells #[.slice ya1 n1 yc1,.slice ya2 n2 yc2,.slice ya3 n3 yc3] 157)).alloc (.cells #[.slice xa1 n1 xc1,.slice xa2 n2 xc2,.slice xa3 n3 xc3] 157)).drew B6 157 [.slice xa1 n1 xc1,.slice xa2 n2 xc2,.slice xa3 n3 xc3]∧Row ((wo.alloc (.cells #[.slice ya1 n1 yc1,.slice ya2 n2 yc2,.slice ya3 n3 yc3] 157)).alloc (.cells #[.slice xa1 n1 xc1,.slice xa2 n2 xc2,.slice xa3 n3 xc3] 157)).drew B7 157 [.slice ya1 n1 yc1,.slice ya2 n2 yc2,.slice ya3 n3 yc3]):=zhd ⟨_,_,rfl,rfl,((zh (ze wo _) _).trans (zb _ _ 1)),((by have:=zg (wo.alloc (.cells #[.slice ya1 n1 yc1,.slice ya2 n2 yc2,.slice ya3 n3 yc3] 157)) [.slice xa1 n1 xc1,.slice xa2 n2 xc2,.slice xa3 n3 xc3] 157;rw[World.size_alloc]at this;exact this:Row ((wo.alloc (.cells #[.slice ya1 n1 yc1,.slice ya2 n2 yc2,.slice ya3 n3 yc3] 157)).alloc (.cells #[.slice xa1 n1 xc1,.slice xa2 n2 xc2,.slice xa3 n3 xc3] 157)) (wo.heap.size+1) 157 _).agree (S:=fun _=>True) (zy _ _ 1) trivial),(((zg wo [_,_,_] _).alloc _).agree (S:=fun _=>True) (zy _ _ 1) trivial)⟩;go_region
   all_goals (go_wp2_with fail;go_meet;first | (obtain ⟨B6,B7,e1,e2,r⟩:=way1.out;exact ⟨B6,B7,by rw[e1],by rw[e2],r⟩) | (obtain ⟨B6,B7,e1,e2,r⟩:=way2.out;exact ⟨B6,B7,by rw[e1],by rw[e2],r⟩))
  case rest=>
   obtain ⟨B6,B7,rfl,rfl,hx,R6,R7⟩:=hcut;have a0:=R6.zc 0 rfl;have b0:=R7.zc 0 rfl;clear t3 s3 l1 l2 q1 q2 z1 z2 z3 u1 u2 u3 b1 b2;go_wp2_with fail;refine (KO.out _ hx).mono ?_;rintro _ w2 ⟨_,rfl,hb2,rfl⟩;replace R6:=R6.ext hb2;replace R7:=R7.ext hb2;replace hx:=za hx hb2;have a1':=R6.zc 1 rfl;have b1':=R7.zc 1 rfl;clear a0 b0 hb2;go_wp2_with fail;refine (KV1.out _ hx).mono ?_;rintro _ w3 ⟨_,rfl,hb3,rfl⟩;replace R6:=R6.ext hb3;replace R7:=R7.ext hb3;replace hx:=za hx hb3;have a2':=R6.zc 2 rfl;have b2':=R7.zc 2 rfl;clear a1' b1' hb3;go_wp2_with fail;refine (KV2.out _ hx).mono ?_;rintro _ w4 ⟨_,rfl,hb4,rfl⟩;have HN:=zhd (HNX.out _ (za hx hb4));clear a2' b2' hb4 R6 R7 hx HNX KO KV1 KV2;go_wp2;go_roundw
   case rel=>exact ⟨k+1,by omega,by go_num,HN.out.1,HN.out.2.1,HN.out.2.2⟩
   case measure=>simp[intOf];omega
theorem zaq {S S':Nat→Prop} {w:World} {v1 v2:Value} {st:Moves} (n:Int) (h1:Sl (kSl (kFlat 8)) S w v1 st) (h2:Sl (kSl (kFlat 8)) S' w v2 st):
  Calls Tryz.prog 163 #[.agg #[n,v1],.agg #[n,v2]] w (Post w fun _ r=>r=.bool true):=by
 obtain ⟨a1,c1,rfl,_⟩:=h1.form2;obtain ⟨a2,c2,rfl,_⟩:=h2.form2;have hfw:=h1.few;have H1:=zhd h1;have H2:=zhd h2;have Q1:=h1.idxS;have Q2:=h2.idxS;clear h1 h2;have ex:=zh (ze w (.cells #[n,.slice a1 st.length c1] 27)) (.cells #[n,.slice a2 st.length c2] 27);have R1:=(zg w [n,.slice a1 st.length c1] 27).alloc (.cells #[n,.slice a2 st.length c2] 27);have R2:=zg (w.alloc (.cells #[n,.slice a1 st.length c1] 27)) [n,.slice a2 st.length c2] 27;rw[World.size_alloc]at R2;have t0:=R1.zc 0 rfl;have t1:=R1.zc 1 rfl;have s0:=R2.zc 0 rfl;have s1:=R2.zc 1 rfl;go_enter Tryz.func163,Tryz.ntmps163;go_wp2;clear t0 t1 s0 s1;go_loopw [5,6] (fun i _ wr=>∃k:Nat,k≤st.length∧i=.int .i64 k∧Below w.heap.size w wr∧Row wr w.heap.size 27 [n,.slice a1 st.length c1]∧Row wr (w.heap.size+1) 27 [n,.slice a2 st.length c2]) (fun i _ _=>st.length - (intOf i).toNat)
 case atStart=>exact ⟨0,Nat.zero_le _,rfl,ex,R1,R2⟩
 case round=>
  clear ex R1 R2;obtain ⟨k,hk,rfl,hb,R1,R2⟩:=hrel;obtain ⟨wo,rfl⟩:∃wo:World,wo=wr:=⟨_,rfl⟩;have t1:=R1.zc 1 rfl;have s1:=R2.zc 1 rfl;have l1:=R1.lt;have l2:=R2.lt;by_cases hlt:k<st.length
  case neg=>
   go_wp2;go_ret;exact .mk hb rfl
  have q1:=Q1.out k hlt;have q2:=Q2.out k hlt;obtain ⟨r1,e1,z1,m1⟩:=(H1.out.ext hb).mrow (.refl _ _) hlt;obtain ⟨r2,e2,z2,m2⟩:=(H2.out.ext hb).mrow (.refl _ _) hlt;have b1:=World.block_lt_of_cell? _ _ z1;have b2:=World.block_lt_of_cell? _ _ z2;have hrf:=m1.few;obtain ⟨row,hrow⟩:=zn (nthM st k);rw[←hrow]at z1 z2 m1 m2 hrf;have M1:=zhd m1;have M2:=zhd m2;have QM1:=m1.idxM;have QM2:=m2.idxM;have HNX:Hid (∀W,Below wo.heap.size wo W→Below w.heap.size w W∧Row W w.heap.size 27 [n,.slice a1 st.length c1]∧Row W (w.heap.size+1) 27 [n,.slice a2 st.length c2]):=zhd fun W hW=>⟨za hb hW,R1.ext hW,R2.ext hW⟩;have HZ:Hid (∀W,Below wo.heap.size wo W→W.cell? (adr a1 k)=some (.slice r1 row.length e1)∧W.cell? (adr a2 k)=some (.slice r2 row.length e2)∧W.cell? ⟨w.heap.size,1,none⟩=some (.slice a1 st.length c1)∧W.cell? ⟨w.heap.size+1,1,none⟩=some (.slice a2 st.length c2)∧(adr a1 k).block<W.heap.size∧(adr a2 k).block<W.heap.size∧w.heap.size<W.heap.size∧w.heap.size+1<W.heap.size):=zhd fun W hW=>⟨zi z1 hW,zi z2 hW,zi t1 hW,zi s1 hW,by have:=hW.size;omega,by have:=hW.size;omega,by have:=hW.size;omega,by have:=hW.size;omega⟩;clear hrow m1 m2 R1 R2 hb;go_wp2;go_quiet (fail);refine zQ fun w1 hw1=>?_;have hx1:=hw1.ext;clear hw1 t1 s1 z1 z2 b1 b2 l1 l2;go_wp2;go_loopw [6] (fun i wr=>∃j:Nat,j≤row.length∧i=.int .i64 j∧Below wo.heap.size wo wr) (fun i _=>row.length - (intOf i).toNat)
  case atStart=>exact ⟨0,Nat.zero_le _,rfl,hx1⟩
  case round=>
   clear hx1;obtain ⟨j,hj,rfl,hb⟩:=hrel;obtain ⟨z1,z2,t1,s1,b1,b2,l1,l2⟩:=HZ.out wr hb;by_cases hjl:j<row.length
   case neg=>
    have HN:=zhd (HNX.out wr hb);go_wp2;go_roundw
    case rel=>exact ⟨k+1,by omega,by go_num,HN.out.1,HN.out.2.1,HN.out.2.2⟩
    case measure=>simp[intOf];omega
   have p1:=QM1.out j hjl;have p2:=QM2.out j hjl;have y1:=(M1.out.ext hb).nums hjl (by decide);have y2:=(M2.out.ext hb).nums hjl (by decide);have k1:=zP (M1.out.ext hb).ad.1 (show 0<row.length by omega) (j * 8);have k2:=zP (M2.out.ext hb).ad.1 (show 0<row.length by omega) (j * 8);have gl:=((M1.out.ext hb).num hjl).1;obtain ⟨x,hx⟩:=zn (nthL row j);rw[←hx]at y1 y2 gl;have EQ:∀W:World,(Op.equalIn 10000 155 (.agg #[nth x 0,nth x 1,nth x 2,nth x 3,nth x 4,nth x 5,nth x 6,nth x 7]) (.agg #[nth x 0,nth x 1,nth x 2,nth x 3,nth x 4,nth x 5,nth x 6,nth x 7])).run Tryz.prog W=.ok true W:=fun W=>by
    have h:=zc8 9995 x x W;rw[Qg gl gl,decide_eq_true rfl]at h;exact h
   have v0:=y1.1;have u0:=y2.1;have v1:=y1.2 1 (by decide);have v2:=y1.2 2 (by decide);have v3:=y1.2 3 (by decide);have v4:=y1.2 4 (by decide);have v5:=y1.2 5 (by decide);have v6:=y1.2 6 (by decide);have v7:=y1.2 7 (by decide);have u1:=y2.2 1 (by decide);have u2:=y2.2 2 (by decide);have u3:=y2.2 3 (by decide);have u4:=y2.2 4 (by decide);have u5:=y2.2 5 (by decide);have u6:=y2.2 6 (by decide);have u7:=y2.2 7 (by decide);clear hx y1 y2 gl;have hbn:=fun n=>hb.trans (zb wo.heap.size wr n);go_wp2;go_quiet (fail);go_wp2;go_roundw
   case rel=>exact ⟨j+1,by omega,by go_num,hbn _⟩
   case measure=>simp[intOf];omega
theorem XP {S S':Nat→Prop} {w:World} {vc1 vc2 vs1 vs2:Value} {p:ProbD} (h1:Sl kCase S w vc1 p.cs) (h2:Sl kCase S' w vc2 p.cs) (g1:Sl (kSl (kFlat 8)) S w vs1 p.st) (g2:Sl (kSl (kFlat 8)) S' w vs2 p.st):
  Calls Tryz.prog 147 #[.agg #[p.n,p.ins,p.outs,vc1,p.an,vs1,p.rounds],.agg #[p.n,p.ins,p.outs,vc2,p.an,vs2,p.rounds]] w (Post w fun _ r=>r=.bool true):=by
 obtain ⟨a1,c1,rfl,_⟩:=h1.form;obtain ⟨a2,c2,rfl,_⟩:=h2.form;obtain ⟨s1,d1,rfl,_⟩:=g1.form;obtain ⟨s2,d2,rfl,_⟩:=g2.form;have K1:Hid (∀W,Below w.heap.size w W→Calls Tryz.prog 162 #[.agg #[p.n,p.ins,p.outs,.slice a1 p.cs.length c1],.agg #[p.n,p.ins,p.outs,.slice a2 p.cs.length c2]] W (Post W fun _ r=>r=.bool true)):=zhd fun W hW=>zan _ _ _ (h1.ext hW) (h2.ext hW);have K2:Hid (∀W,Below w.heap.size w W→Calls Tryz.prog 163 #[.agg #[p.an,.slice s1 p.st.length d1],.agg #[p.an,.slice s2 p.st.length d2]] W (Post W fun _ r=>r=.bool true)):=zhd fun W hW=>zaq _ (g1.ext hW) (g2.ext hW);clear h1 h2 g1 g2;have ex:=zh (ze w (.cells #[p.n,p.ins,p.outs,.slice a1 p.cs.length c1,p.an,.slice s1 p.st.length d1,p.rounds] 29)) (.cells #[p.n,p.ins,p.outs,.slice a2 p.cs.length c2,p.an,.slice s2 p.st.length d2,p.rounds] 29);have R1:=(zg w [p.n,p.ins,p.outs,.slice a1 p.cs.length c1,p.an,.slice s1 p.st.length d1,p.rounds] 29).alloc (.cells #[p.n,p.ins,p.outs,.slice a2 p.cs.length c2,p.an,.slice s2 p.st.length d2,p.rounds] 29);have R2:=zg (w.alloc (.cells #[p.n,p.ins,p.outs,.slice a1 p.cs.length c1,p.an,.slice s1 p.st.length d1,p.rounds] 29)) [p.n,p.ins,p.outs,.slice a2 p.cs.length c2,p.an,.slice s2 p.st.length d2,p.rounds] 29;rw[World.size_alloc]at R2;go_enter Tryz.func147,Tryz.ntmps147;go_wp2_with fail;refine (K1.out _ ex).mono ?_;rintro _ w1 ⟨_,rfl,hb1,rfl⟩;replace R1:=R1.ext hb1;replace R2:=R2.ext hb1;replace ex:=za ex hb1;have t4:=R1.zc 4 rfl;have t5:=R1.zc 5 rfl;have u4:=R2.zc 4 rfl;have u5:=R2.zc 5 rfl;clear hb1 K1;go_wp2_with fail;refine (K2.out _ ex).mono ?_;rintro _ w2 ⟨_,rfl,hb2,rfl⟩;replace ex:=za ex hb2;clear t4 t5 u4 u5 hb2;go_wp2;go_ret;exact .mk ex rfl
theorem Xi {S S':Nat→Prop} {w:World} {v1 v2:Value} {l1 l2:List (List Int)} (n1 n2:Int) (h1:Sl (kFlat 8) S w v1 l1) (h2:Sl (kFlat 8) S' w v2 l2):
  Calls Tryz.prog 148 #[.agg #[n1,v1],.agg #[n2,v2]] w (Post w fun _ r=>r=.bool (decide (n1=n2∧l1=l2))):=by
 obtain ⟨a1,c1,rfl,ad1,_⟩:=h1.form2;obtain ⟨a2,c2,rfl,ad2,_⟩:=h2.form2;have hfw:=h1.few;have H1:=zhd h1;have H2:=zhd h2;obtain ⟨i0,hi,hz⟩:=zG zJ;have Q1:=zhd (zF Tryz.underlying30 hi hz ad1);have Q2:=zhd (zF Tryz.underlying30 hi hz ad2);clear h1 h2 hi hz ad1 ad2;have ex:=zh (ze w (.cells #[n1,.slice a1 l1.length c1] 32)) (.cells #[n2,.slice a2 l2.length c2] 32);have R1:=(zg w [n1,.slice a1 l1.length c1] 32).alloc (.cells #[n2,.slice a2 l2.length c2] 32);have R2:=zg (w.alloc (.cells #[n1,.slice a1 l1.length c1] 32)) [n2,.slice a2 l2.length c2] 32;rw[World.size_alloc]at R2;have t0:=R1.zc 0 rfl;have t1:=R1.zc 1 rfl;have s0:=R2.zc 0 rfl;have s1:=R2.zc 1 rfl;obtain ⟨r,hr⟩:=zn (decide (n1=n2∧l1=l2));rw[←hr];have HT:Hid (n1=n2→l1=l2→r=true):=zhd fun h h'=>by rw[hr];exact decide_eq_true ⟨h,h'⟩
 have HF1:Hid (n1≠n2→r=false):=zhd fun h=>by rw[hr];exact decide_eq_false fun h'=>h h'.1
 have HF2:Hid (l1≠l2→r=false):=zhd fun h=>by rw[hr];exact decide_eq_false fun h'=>h h'.2
 clear hr;by_cases hn:n1=n2
 case neg=>
  have RR:=zhd (HF1.out hn);have d1:(n1 !=n2)=true:=by simp[hn]
  clear hn;go_enter Tryz.func148,Tryz.ntmps148;go_wp2;go_ret;exact .mk ex (zv RR.out.symm)
 have d1:(n1 !=n2)=false:=by simp[hn]
 have HN:=zhd hn;clear hn;by_cases hlen:l1.length=l2.length
 case neg=>
  have RR:=zhd (HF2.out fun h=>hlen (by rw[h]));have d2:((l1.length:Int) !=l2.length)=true:=by simp;omega
  clear hlen;go_enter Tryz.func148,Tryz.ntmps148;go_wp2;go_ret;exact .mk ex (zv RR.out.symm)
 have d2:((l1.length:Int) !=l2.length)=false:=by simp[hlen]
 have HL:=zhd hlen;clear hlen;go_enter Tryz.func148,Tryz.ntmps148;go_wp2;clear t0 t1 s0 s1 d1 d2;go_loopw [5] (fun i wr=>∃k:Nat,k≤l1.length∧i=.int .i64 k∧Below w.heap.size w wr∧Row wr w.heap.size 32 [n1,.slice a1 l1.length c1]∧Row wr (w.heap.size+1) 32 [n2,.slice a2 l2.length c2]∧Hid (l1.take k=l2.take k)) (fun i _=>l1.length - (intOf i).toNat)
 case atStart=>exact ⟨0,Nat.zero_le _,rfl,ex,R1,R2,zhd rfl⟩
 case round=>
  clear ex R1 R2;obtain ⟨k,hk,rfl,hb,R1,R2,H⟩:=hrel;have t1:=R1.zc 1 rfl;have s1:=R2.zc 1 rfl;have l1':=R1.lt;have l2':=R2.lt;by_cases hlt:k<l1.length
  case neg=>
   have RR:Hid (r=true):=zhd (HT.out HN.out (by
    have:=H.out;have h2:=HL.out;rw[List.take_of_length_le (by omega),List.take_of_length_le (by omega)]at this;exact this))
   go_wp2;go_ret;exact .mk hb (zv RR.out.symm)
  have hlt2:k<l2.length:=by have:=HL.out;omega
  have q1:=Q1.out k hlt;have q2:=Q2.out k hlt2;have y1:=(H1.out.ext hb).nums hlt (by decide);have y2:=(H2.out.ext hb).nums hlt2 (by decide);have k1:=zP (H1.out.ext hb).ad.1 (show 0<l1.length by omega) (k * 8);have k2:=zP (H2.out.ext hb).ad.1 (show 0<l2.length by omega) (k * 8);have g1:=((H1.out.ext hb).num hlt).1;have g2:=((H2.out.ext hb).num hlt2).1;obtain ⟨x,hx⟩:=zn (nthL l1 k);obtain ⟨y,hy⟩:=zn (nthL l2 k);rw[←hx]at y1 g1;rw[←hy]at y2 g2;have EQ:∀W:World,(Op.equalIn 10000 65 (.agg #[nth x 0,nth x 1,nth x 2,nth x 3,nth x 4,nth x 5,nth x 6,nth x 7]) (.agg #[nth y 0,nth y 1,nth y 2,nth y 3,nth y 4,nth y 5,nth y 6,nth y 7])).run Tryz.prog W=.ok (decide (x=y)) W:=fun W=>by rw[←Qg g1 g2];exact ZH 9997 x y W
  have v0:=y1.1;have u0:=y2.1;have v1:=y1.2 1 (by decide);have v2:=y1.2 2 (by decide);have v3:=y1.2 3 (by decide);have v4:=y1.2 4 (by decide);have v5:=y1.2 5 (by decide);have v6:=y1.2 6 (by decide);have v7:=y1.2 7 (by decide);have u1:=y2.2 1 (by decide);have u2:=y2.2 2 (by decide);have u3:=y2.2 3 (by decide);have u4:=y2.2 4 (by decide);have u5:=y2.2 5 (by decide);have u6:=y2.2 6 (by decide);have u7:=y2.2 7 (by decide);have HXY:=zhd (And.intro hx hy);have HNX:Hid (∀n,Below w.heap.size w (wr.drewN n)∧Row (wr.drewN n) w.heap.size 32 [n1,.slice a1 l1.length c1]∧Row (wr.drewN n) (w.heap.size+1) 32 [n2,.slice a2 l2.length c2]):=zhd fun n=>⟨hb.trans (zb _ wr n),R1.ext (zb _ wr n),R2.ext (zb _ wr n)⟩;clear hx hy y1 y2 g1 g2 R1 R2 hb;by_cases he:x=y
  ·rw[decide_eq_true he]at EQ;have HE:=zhd he;clear he;go_wp2;go_quiet (fail);go_wp2;go_roundw
   case rel=>exact ⟨k+1,by omega,by go_num,(HNX.out _).1,(HNX.out _).2.1,(HNX.out _).2.2,zhd (xD hlt hlt2 H.out (by rw[←HXY.out.1,←HXY.out.2];exact HE.out))⟩
   case measure=>simp[intOf];omega
  ·rw[decide_eq_false he]at EQ;have RR:Hid (r=false):=zhd (HF2.out fun h=>he (by rw[HXY.out.1,HXY.out.2,h]));clear he;go_wp2;go_quiet (fail);go_wp2;go_ret;exact .mk (HNX.out _).1 (zv RR.out.symm)
end Go.Proofs.YtiabbjolepnjkaaGreat
