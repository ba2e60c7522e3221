/- Part of the proof that the laws answer true for every input. -/
import Derived.Test.YtjpakklplhabdaaGreatPGaA27
import Derived.Deep.Cut
import Derived.Deep.DeepCutAuto
set_option linter.unusedSimpArgs false
set_option linter.unnecessarySimpa false
set_option linter.unusedVariables false
set_option maxRecDepth 100000
set_option maxHeartbeats 40000000
namespace Go.Proofs.YtjpakklplhabdaaGreat
open Go.RowKit
attribute [local go_sem ↓] Go.wp_at_zero Go.wp_at_succ
theorem ZY {S S':Nat→Prop} {w:World} {v1 v2:Value} {l1 l2:List Int} (h1:Ints S w v1 l1) (h2:Ints S' w v2 l2):
  Calls Tryz.prog 134 #[v1,v2] w (QuietP w (.bool (decide (l1=l2)))):=by
 obtain ⟨a1,cap1,rfl,ha1,_,hm1,hc1,_⟩:=h1
 obtain ⟨a2,cap2,rfl,ha2,_,_,hc2,_⟩:=h2
 unfold maxLen at hm1
 obtain ⟨i0,hi,hz0,hz1,hz2⟩:=info_parts zC
 have hix1:=zz Tryz.underlying30 hi hz1 ha1
 have hix2:=zz Tryz.underlying30 hi hz1 ha2
 clear hi hz0 hz1 hz2
 by_cases hlen:l1.length=l2.length
 ·have hne:((l1.length:Int) !=l2.length)=false:=by simp[hlen]
  have HL:=zhd hlen
  clear hlen
  go_enter Tryz.func134,Tryz.ntmps134
  go_wp2
  go_loopw [5] (fun i wr=>∃k:Nat,k≤l1.length∧i=.int .i64 k∧(∃m,wr=w.drewN m)∧l1.take k=l2.take k) (fun i _=>l1.length - (intOf i).toNat)
  case atStart=>exact ⟨0,by omega,rfl,⟨0,rfl⟩,rfl⟩
  case round=>
   obtain ⟨k,hk,rfl,⟨m,rfl⟩,hrel⟩:=hrel
   have H:=zhd hrel
   clear hrel
   by_cases hlt:k<l1.length
   ·have hlt2:k<l2.length:=by have:=HL.out;omega
    have q1:=hix1 k hlt
    have q2:=hix2 k hlt2
    have p1:=hc1 k hlt
    have p2:=hc2 k hlt2
    obtain ⟨x,hx⟩:∃x,x=nth l1 k:=⟨_,rfl⟩
    obtain ⟨y,hy⟩:∃y,y=nth l2 k:=⟨_,rfl⟩
    rw[←hx]at p1
    rw[←hy]at p2
    have HXY:=zhd (And.intro hx hy)
    clear hix1 hix2 hc1 hc2 hx hy
    by_cases he:x=y
    ·have he1:(x !=y)=false:=by simp[he]
     have HE:=zhd he
     clear he
     go_wp2
     go_quiet (fail)
     go_wp2
     go_roundw
     case rel=>exact ⟨k+1,by omega,by go_num,⟨_,rfl⟩,xY hlt hlt2 H.out (by rw[←HXY.out.1,←HXY.out.2];exact HE.out)⟩
     case measure=>simp[intOf];omega
    ·have he1:(x !=y)=true:=by simp[he]
     have HE:=zhd he
     clear he
     go_wp2
     go_quiet (fail)
     go_wp2
     go_ret
     rw[World.drewN_drewN]
     exact .of (zv (decide_eq_false (fun (e:l1=l2)=>HE.out (by rw[HXY.out.1,HXY.out.2,e]))).symm) _
   ·go_wp2
    go_ret
    refine .of (zv ?_) _
    have:=H.out
    have h2:=HL.out
    rw[List.take_of_length_le (by omega),List.take_of_length_le (by omega)]at this
    exact (decide_eq_true this).symm
 ·have hne:((l1.length:Int) !=l2.length)=true:=by simp;omega
  go_enter Tryz.func134,Tryz.ntmps134
  go_wp2
  go_ret
  exact .of (zv (decide_eq_false (fun (e:l1=l2)=>hlen (by rw[e]))).symm) 0
theorem YR {S S':Nat→Prop} {w:World} {v1 v2:Value} {l1 l2:List (List Int)} (h1:Sl (kFlat 7) S w v1 l1) (h2:Sl (kFlat 7) S' w v2 l2):
  Calls Tryz.prog 133 #[v1,v2] w (QuietP w (.bool (decide (l1=l2)))):=by
 obtain ⟨a1,cap1,rfl,ha1,_,hm1,hf1⟩:=h1.form2
 obtain ⟨a2,cap2,rfl,ha2,_,_,_⟩:=h2.form2
 have H1:=zhd h1
 have H2:=zhd h2
 have hix1:=qv ha1
 have hix2:=qv ha2
 clear h1 h2 hm1
 by_cases hlen:l1.length=l2.length
 ·have hne:((l1.length:Int) !=l2.length)=false:=by simp[hlen]
  have HL:=zhd hlen
  clear hlen
  go_enter Tryz.func133,Tryz.ntmps133
  go_wp2
  go_loopw [5] (fun i wr=>∃k:Nat,k≤l1.length∧i=.int .i64 k∧(∃m,wr=w.drewN m)∧l1.take k=l2.take k) (fun i _=>l1.length - (intOf i).toNat)
  case atStart=>exact ⟨0,by omega,rfl,⟨0,rfl⟩,rfl⟩
  case round=>
   obtain ⟨k,hk,rfl,⟨m,rfl⟩,hrel⟩:=hrel
   have H:=zhd hrel
   clear hrel
   by_cases hlt:k<l1.length
   ·have hlt2:k<l2.length:=by have:=HL.out;omega
    have q1:=hix1 k hlt
    have q2:=hix2 k hlt2
    have z1:=H1.out.nums hlt (by decide)
    have z2:=H2.out.nums hlt2 (by decide)
    have g1:=(H1.out.num hlt).1
    have g2:=(H2.out.num hlt2).1
    obtain ⟨x,hx⟩:∃x,x=nthL l1 k:=⟨_,rfl⟩
    obtain ⟨y,hy⟩:∃y,y=nthL l2 k:=⟨_,rfl⟩
    rw[←hx]at z1 g1
    rw[←hy]at z2 g2
    have p0:=z1.1
    have r0:=z2.1
    have p1:=z1.2 1 (by decide)
    have p2:=z1.2 2 (by decide)
    have p3:=z1.2 3 (by decide)
    have p4:=z1.2 4 (by decide)
    have p5:=z1.2 5 (by decide)
    have p6:=z1.2 6 (by decide)
    have r1:=z2.2 1 (by decide)
    have r2:=z2.2 2 (by decide)
    have r3:=z2.2 3 (by decide)
    have r4:=z2.2 4 (by decide)
    have r5:=z2.2 5 (by decide)
    have r6:=z2.2 6 (by decide)
    have EQ:∀W:World,(Op.equalIn 10000 67 (.agg #[.int .i64 (nth x 0),.int .i64 (nth x 1),.int .i64 (nth x 2),.int .i64 (nth x 3),.int .i64 (nth x 4),.int .i64 (nth x 5),.int .i64 (nth x 6)]) (.agg #[.int .i64 (nth y 0),.int .i64 (nth y 1),.int .i64 (nth y 2),.int .i64 (nth y 3),.int .i64 (nth y 4),.int .i64 (nth y 5),.int .i64 (nth y 6)])).run Tryz.prog W=.ok (decide (x=y)) W:=fun W=>by rw[←Yf g1 g2];exact yW 9996 x y W
    have HXY:=zhd (And.intro hx hy)
    clear hix1 hix2 z1 z2 g1 g2 hx hy
    by_cases he:x=y
    ·rw[decide_eq_true he]at EQ
     have HE:=zhd he
     clear he
     go_wp2
     go_quiet (fail)
     go_wp2
     go_roundw
     case rel=>exact ⟨k+1,by omega,by go_num,⟨_,rfl⟩,qG hlt hlt2 H.out (by rw[←HXY.out.1,←HXY.out.2];exact HE.out)⟩
     case measure=>simp[intOf];omega
    ·rw[decide_eq_false he]at EQ
     have HE:=zhd he
     clear he
     go_wp2
     go_quiet (fail)
     go_wp2
     go_ret
     rw[World.drewN_drewN]
     exact .of (zv (decide_eq_false (fun (e:l1=l2)=>HE.out (by rw[HXY.out.1,HXY.out.2,e]))).symm) _
   ·go_wp2
    go_ret
    refine .of (zv ?_) _
    have:=H.out
    have h2:=HL.out
    rw[List.take_of_length_le (by omega),List.take_of_length_le (by omega)]at this
    exact (decide_eq_true this).symm
 ·have hne:((l1.length:Int) !=l2.length)=true:=by simp;omega
  go_enter Tryz.func133,Tryz.ntmps133
  go_wp2
  go_ret
  exact .of (zv (decide_eq_false (fun (e:l1=l2)=>hlen (by rw[e]))).symm) 0
theorem Qg (l:List Int):ordL l l=0:=ZD.2 rfl
theorem qO {S S':Nat→Prop} {w:World} {v1 v2:Value} {l:List (List Int)} (h1:Lists S w v1 l) (h2:Lists S' w v2 l):
  Calls Tryz.prog 147 #[v1,v2] w (QuietP w (.bool true)):=by
 obtain ⟨a1,cap1,rfl,ha1,hle1,hm1⟩:=h1.form
 obtain ⟨a2,cap2,rfl,ha2,_,_⟩:=h2.form
 unfold maxLen at hm1
 have H1:=zhd h1
 have H2:=zhd h2
 obtain ⟨i0,hi,hz0,hz1,hz2⟩:=info_parts zF
 have hix1:=zz Tryz.underlying47 hi hz1 ha1
 have hix2:=zz Tryz.underlying47 hi hz1 ha2
 clear hi hz0 hz1 hz2 h1 h2
 go_enter Tryz.func147,Tryz.ntmps147
 go_wp2
 go_loopw [5] (fun i wr=>∃k:Nat,k≤l.length∧i=.int .i64 k∧QW w wr) (fun i _=>l.length - (intOf i).toNat)
 case atStart=>exact ⟨0,by omega,rfl,.refl _⟩
 case round=>
  obtain ⟨k,hk,rfl,hq⟩:=hrel
  by_cases hlt:k<l.length
  ·have q1:=hix1 k hlt
   have q2:=hix2 k hlt
   obtain ⟨u1,c1,i1⟩:=H1.out.at hq.ext hlt
   obtain ⟨u2,c2,i2⟩:=H2.out.at hq.ext hlt
   have b1:=World.block_lt_of_cell? _ _ c1
   have b2:=World.block_lt_of_cell? _ _ c2
   have KO:Hid (∀n,Calls Tryz.prog 142 #[u1,u2] (wr.drewN n) (QuietP (wr.drewN n) (.int .i64 0))):=zhd fun n=>by have:=qB (i1.drewN n) (i2.drewN n);rw[Qg]at this;exact this
   obtain ⟨ua1,uc1,rfl,_⟩:=i1.form
   obtain ⟨ua2,uc2,rfl,_⟩:=i2.form
   obtain ⟨x,hx⟩:∃x,x=nthL l k:=⟨_,rfl⟩
   rw[←hx]at c1 c2 KO
   clear hx i1 i2 hix1 hix2
   go_wp2
   go_quiet ((go_at_call 142;exact zr (KO.out _)))
   go_wp2
   go_roundw
   case rel=>exact ⟨k+1,by omega,by go_num,hq.drewN _⟩
   case measure=>simp[intOf];omega
  ·go_wp2
   go_ret
   exact .fin rfl hq
theorem Qi {S S':Nat→Prop} {w:World} {v1 v2:Value} {cs:List CaseD} (n ins outs:Int) (h1:Sl kCase S w v1 cs) (h2:Sl kCase S' w v2 cs):
  Calls Tryz.prog 131 #[.agg #[.int .i64 n,.int .i64 ins,.int .i64 outs,v1],.agg #[.int .i64 n,.int .i64 ins,.int .i64 outs,v2]] w (Post w fun _ r=>r=.bool true):=by
 obtain ⟨a1,c1,rfl,ha1,_⟩:=h1.form2
 obtain ⟨a2,c2,rfl,ha2,_⟩:=h2.form2
 have hfw:=h1.few
 have H1:=zhd h1
 have H2:=zhd h2
 obtain ⟨i0,hi,_,hz1,_⟩:=info_parts yw
 have Q1:=zhd (zJ Tryz.underlying22 hi hz1 ha1)
 have Q2:=zhd (zJ Tryz.underlying22 hi hz1 ha2)
 clear h1 h2 hi hz1
 have ex:=zg (zb w (.cells #[.int .i64 n,.int .i64 ins,.int .i64 outs,.slice a1 cs.length c1] 24)) (.cells #[.int .i64 n,.int .i64 ins,.int .i64 outs,.slice a2 cs.length c2] 24)
 have R1:=(ze w [.int .i64 n,.int .i64 ins,.int .i64 outs,.slice a1 cs.length c1] 24).alloc (.cells #[.int .i64 n,.int .i64 ins,.int .i64 outs,.slice a2 cs.length c2] 24)
 have R2:=ze (w.alloc (.cells #[.int .i64 n,.int .i64 ins,.int .i64 outs,.slice a1 cs.length c1] 24)) [.int .i64 n,.int .i64 ins,.int .i64 outs,.slice a2 cs.length c2] 24
 rw[World.size_alloc]at R2
 have t0:=R1.zc 0 rfl
 have t1:=R1.zc 1 rfl
 have t2:=R1.zc 2 rfl
 have t3:=R1.zc 3 rfl
 have s0:=R2.zc 0 rfl
 have s1:=R2.zc 1 rfl
 have s2:=R2.zc 2 rfl
 have s3:=R2.zc 3 rfl
 go_enter Tryz.func131,Tryz.ntmps131
 go_wp2
 clear t0 t1 t2 t3 s0 s1 s2 s3
 go_loopw [5,6,7] (fun i _ _ wr=>∃k:Nat,k≤cs.length∧i=.int .i64 k∧Below w.heap.size w wr∧Row wr w.heap.size 24 [.int .i64 n,.int .i64 ins,.int .i64 outs,.slice a1 cs.length c1]∧Row wr (w.heap.size+1) 24 [.int .i64 n,.int .i64 ins,.int .i64 outs,.slice a2 cs.length c2]) (fun i _ _ _=>cs.length - (intOf i).toNat)
 case atStart=>exact ⟨0,Nat.zero_le _,rfl,ex,R1,R2⟩
 case round=>
  clear ex R1 R2
  obtain ⟨k,hk,rfl,hb,R1,R2⟩:=hrel
  obtain ⟨wo,rfl⟩:∃wo:World,wo=wr:=⟨_,rfl⟩
  have t3:=R1.zc 3 rfl
  have s3:=R2.zc 3 rfl
  have l1:=R1.lt
  have l2:=R2.lt
  by_cases hlt:k<cs.length
  case neg=>
   go_wp2
   go_ret
   exact .mk hb rfl
  have q1:=Q1.out k hlt
  have q2:=Q2.out k hlt
  obtain ⟨x1,x2,x3,z1,z2,z3,i1,i2,i3⟩:=(H1.out.ext hb).case hlt
  obtain ⟨y1,y2,y3,u1,u2,u3,j1,j2,j3⟩:=(H2.out.ext hb).case hlt
  have b1:=World.block_lt_of_cell? _ _ z1
  have b2:=World.block_lt_of_cell? _ _ u1
  obtain ⟨xa1,xc1,rfl,_⟩:=i1.form
  obtain ⟨xa2,xc2,rfl,_⟩:=i2.form
  obtain ⟨xa3,xc3,rfl,_⟩:=i3.form
  obtain ⟨ya1,yc1,rfl,_⟩:=j1.form
  obtain ⟨ya2,yc2,rfl,_⟩:=j2.form
  obtain ⟨ya3,yc3,rfl,_⟩:=j3.form
  have KO:Hid (∀W,Below wo.heap.size wo W→Calls Tryz.prog 142 #[.slice xa1 (nthC cs k).inn.length xc1,.slice ya1 (nthC cs k).inn.length yc1] W (Post W fun _ r=>r=.int .i64 0)):=zhd fun W hW=>by have:=qB (i1.ext hW) (j1.ext hW);rw[Qg]at this;exact this.mono fun _ _ h=>h.post
  have KV1:Hid (∀W,Below wo.heap.size wo W→Calls Tryz.prog 147 #[.slice xa2 (nthC cs k).out.length xc2,.slice ya2 (nthC cs k).out.length yc2] W (Post W fun _ r=>r=.bool true)):=zhd fun W hW=>(qO (i2.ext hW) (j2.ext hW)).mono fun _ _ h=>h.post
  have KV2:Hid (∀W,Below wo.heap.size wo W→Calls Tryz.prog 147 #[.slice xa3 (nthC cs k).calm.length xc3,.slice ya3 (nthC cs k).calm.length yc3] W (Post W fun _ r=>r=.bool true)):=zhd fun W hW=>(qO (i3.ext hW) (j3.ext hW)).mono fun _ _ h=>h.post
  obtain ⟨n1,hn1⟩:∃n,n=(nthC cs k).inn.length:=⟨_,rfl⟩
  obtain ⟨n2,hn2⟩:∃n,n=(nthC cs k).out.length:=⟨_,rfl⟩
  obtain ⟨n3,hn3⟩:∃n,n=(nthC cs k).calm.length:=⟨_,rfl⟩
  rw[←hn1]at z1 u1 KO
  rw[←hn2]at z2 u2 KV1
  rw[←hn3]at z3 u3 KV2
  have HNX:Hid (∀W,Below wo.heap.size wo W→Below w.heap.size w W∧Row W w.heap.size 24 [.int .i64 n,.int .i64 ins,.int .i64 outs,.slice a1 cs.length c1]∧Row W (w.heap.size+1) 24 [.int .i64 n,.int .i64 ins,.int .i64 outs,.slice a2 cs.length c2]):=zhd fun W hW=>⟨za hb hW,R1.ext hW,R2.ext hW⟩
  clear hn1 hn2 hn3 i1 i2 i3 j1 j2 j3 R1 R2 hb
  go_upto_region 6 with fail
  go_cut [6,7] from 36 to 74 (fun u6 u7 wx=>∃B6 B7,u6=.pointer (some ⟨B6,0,none⟩)∧u7=.pointer (some ⟨B7,0,none⟩)∧Below wo.heap.size wo wx∧Row wx B6 62 [.slice xa1 n1 xc1,.slice xa2 n2 xc2,.slice xa3 n3 xc3]∧Row wx B7 62 [.slice ya1 n1 yc1,.slice ya2 n2 yc2,.slice ya3 n3 yc3])
  case first=>
   have way1:Hid (∃B6 B7,B6=wo.heap.size∧B7=wo.heap.size+1∧Below wo.heap.size wo ((wo.alloc (.cells #[.slice xa1 n1 xc1,.slice xa2 n2 xc2,.slice xa3 n3 xc3] 62)).alloc (.cells #[.slice ya1 n1 yc1,.slice ya2 n2 yc2,.slice ya3 n3 yc3] 62)).drew∧Row ((wo.alloc (.cells #[.slice xa1 n1 xc1,.slice xa2 n2 xc2,.slice xa3 n3 xc3] 62)).alloc (.cells #[.slice ya1 n1 yc1,.slice ya2 n2 yc2,.slice ya3 n3 yc3] 62)).drew B6 62 [.slice xa1 n1 xc1,.slice xa2 n2 xc2,.slice xa3 n3 xc3]∧Row ((wo.alloc (.cells #[.slice xa1 n1 xc1,.slice xa2 n2 xc2,.slice xa3 n3 xc3] 62)).alloc (.cells #[.slice ya1 n1 yc1,.slice ya2 n2 yc2,.slice ya3 n3 yc3] 62)).drew B7 62 [.slice ya1 n1 yc1,.slice ya2 n2 yc2,.slice ya3 n3 yc3]):=zhd ⟨_,_,rfl,rfl,((zg (zb wo _) _).trans (zh _ _ 1)),(((ze wo [_,_,_] _).alloc _).agree (S:=fun _=>True) (zq _ _ 1) trivial),((by have:=ze (wo.alloc (.cells #[.slice xa1 n1 xc1,.slice xa2 n2 xc2,.slice xa3 n3 xc3] 62)) [.slice ya1 n1 yc1,.slice ya2 n2 yc2,.slice ya3 n3 yc3] 62;rw[World.size_alloc]at this;exact this:Row ((wo.alloc (.cells #[.slice xa1 n1 xc1,.slice xa2 n2 xc2,.slice xa3 n3 xc3] 62)).alloc (.cells #[.slice ya1 n1 yc1,.slice ya2 n2 yc2,.slice ya3 n3 yc3] 62)) (wo.heap.size+1) 62 _).agree (S:=fun _=>True) (zq _ _ 1) trivial)⟩
   have way2:Hid (∃B6 B7,B6=wo.heap.size+1∧B7=wo.heap.size∧Below wo.heap.size wo ((wo.alloc (.cells #[.slice ya1 n1 yc1,.slice ya2 n2 yc2,.slice ya3 n3 yc3] 62)).alloc (.cells #[.slice xa1 n1 xc1,.slice xa2 n2 xc2,.slice xa3 n3 xc3] 62)).drew∧Row ((wo.alloc (.cells #[.slice ya1 n1 yc1,.slice ya2 n2 yc2,.slice ya3 n3 yc3] 62)).alloc (.cells #[.slice xa1 n1 xc1,.slice xa2 n2 xc2,.slice xa3 n3 xc3] 62)).drew B6 62 [.slice xa1 n1 xc1,.slice xa2 n2 xc2,.slice xa3 n3 xc3]∧Row ((wo.alloc (.cells #[.slice ya1 n1 yc1,.slice ya2 n2 yc2,.slice ya3 n3 yc3] 62)).alloc (.cells #[.slice xa1 n1 xc1,.slice xa2 n2 xc2,.slice xa3 n3 xc3] 62)).drew B7 62 [.slice ya1 n1 yc1,.slice ya2 n2 yc2,.slice ya3 n3 yc3]):=zhd ⟨_,_,rfl,rfl,((zg (zb wo _) _).trans (zh _ _ 1)),((by have:=ze (wo.alloc (.cells #[.slice ya1 n1 yc1,.slice ya2 n2 yc2,.slice ya3 n3 yc3] 62)) [.slice xa1 n1 xc1,.slice xa2 n2 xc2,.slice xa3 n3 xc3] 62;rw[World.size_alloc]at this;exact this:Row ((wo.alloc (.cells #[.slice ya1 n1 yc1,.slice ya2 n2 yc2,.slice ya3 n3 yc3] 62)).alloc (.cells #[.slice xa1 n1 xc1,.slice xa2 n2 xc2,.slice xa3 n3 xc3] 62)) (wo.heap.size+1) 62 _).agree (S:=fun _=>True) (zq _ _ 1) trivial),(((ze wo [_,_,_] _).alloc _).agree (S:=fun _=>True) (zq _ _ 1) trivial)⟩
   go_region
   all_goals (go_wp2_with fail;go_meet;first | (obtain ⟨B6,B7,e1,e2,r⟩:=way1.out;exact ⟨B6,B7,by rw[e1],by rw[e2],r⟩) | (obtain ⟨B6,B7,e1,e2,r⟩:=way2.out;exact ⟨B6,B7,by rw[e1],by rw[e2],r⟩))
  case rest=>
   obtain ⟨B6,B7,rfl,rfl,hx,R6,R7⟩:=hcut
   have a0:=R6.zc 0 rfl
   have b0:=R7.zc 0 rfl
   clear t3 s3 l1 l2 q1 q2 z1 z2 z3 u1 u2 u3 b1 b2
   go_wp2_with fail
   refine (KO.out _ hx).mono ?_
   rintro _ w2 ⟨_,rfl,hb2,rfl⟩
   replace R6:=R6.ext hb2
   replace R7:=R7.ext hb2
   replace hx:=za hx hb2
   have a1':=R6.zc 1 rfl
   have b1':=R7.zc 1 rfl
   clear a0 b0 hb2
   go_wp2_with fail
   refine (KV1.out _ hx).mono ?_
   rintro _ w3 ⟨_,rfl,hb3,rfl⟩
   replace R6:=R6.ext hb3
   replace R7:=R7.ext hb3
   replace hx:=za hx hb3
   have a2':=R6.zc 2 rfl
   have b2':=R7.zc 2 rfl
   clear a1' b1' hb3
   go_wp2_with fail
   refine (KV2.out _ hx).mono ?_
   rintro _ w4 ⟨_,rfl,hb4,rfl⟩
   have HN:=zhd (HNX.out _ (za hx hb4))
   clear a2' b2' hb4 R6 R7 hx HNX KO KV1 KV2
   go_wp2
   go_roundw
   case rel=>exact ⟨k+1,by omega,by go_num,HN.out.1,HN.out.2.1,HN.out.2.2⟩
   case measure=>simp[intOf];omega
theorem Ql {S S':Nat→Prop} {w:World} {v1 v2:Value} {st:Moves} (n:Int) (h1:Sl (kSl (kFlat 8)) S w v1 st) (h2:Sl (kSl (kFlat 8)) S' w v2 st):
  Calls Tryz.prog 132 #[.agg #[.int .i64 n,v1],.agg #[.int .i64 n,v2]] w (Post w fun _ r=>r=.bool true):=by
 obtain ⟨a1,c1,rfl,_⟩:=h1.form2
 obtain ⟨a2,c2,rfl,_⟩:=h2.form2
 have hfw:=h1.few
 have H1:=zhd h1
 have H2:=zhd h2
 have Q1:=h1.idxS
 have Q2:=h2.idxS
 clear h1 h2
 have ex:=zg (zb w (.cells #[.int .i64 n,.slice a1 st.length c1] 27)) (.cells #[.int .i64 n,.slice a2 st.length c2] 27)
 have R1:=(ze w [.int .i64 n,.slice a1 st.length c1] 27).alloc (.cells #[.int .i64 n,.slice a2 st.length c2] 27)
 have R2:=ze (w.alloc (.cells #[.int .i64 n,.slice a1 st.length c1] 27)) [.int .i64 n,.slice a2 st.length c2] 27
 rw[World.size_alloc]at R2
 have t0:=R1.zc 0 rfl
 have t1:=R1.zc 1 rfl
 have s0:=R2.zc 0 rfl
 have s1:=R2.zc 1 rfl
 go_enter Tryz.func132,Tryz.ntmps132
 go_wp2
 clear t0 t1 s0 s1
 go_loopw [5,6] (fun i _ wr=>∃k:Nat,k≤st.length∧i=.int .i64 k∧Below w.heap.size w wr∧Row wr w.heap.size 27 [.int .i64 n,.slice a1 st.length c1]∧Row wr (w.heap.size+1) 27 [.int .i64 n,.slice a2 st.length c2]) (fun i _ _=>st.length - (intOf i).toNat)
 case atStart=>exact ⟨0,Nat.zero_le _,rfl,ex,R1,R2⟩
 case round=>
  clear ex R1 R2
  obtain ⟨k,hk,rfl,hb,R1,R2⟩:=hrel
  obtain ⟨wo,rfl⟩:∃wo:World,wo=wr:=⟨_,rfl⟩
  have t1:=R1.zc 1 rfl
  have s1:=R2.zc 1 rfl
  have l1:=R1.lt
  have l2:=R2.lt
  by_cases hlt:k<st.length
  case neg=>
   go_wp2
   go_ret
   exact .mk hb rfl
  have q1:=Q1.out k hlt
  have q2:=Q2.out k hlt
  obtain ⟨r1,e1,z1,m1⟩:=(H1.out.ext hb).mrow (.refl _ _) hlt
  obtain ⟨r2,e2,z2,m2⟩:=(H2.out.ext hb).mrow (.refl _ _) hlt
  have b1:=World.block_lt_of_cell? _ _ z1
  have b2:=World.block_lt_of_cell? _ _ z2
  have hrf:=m1.few
  obtain ⟨row,hrow⟩:∃row,row=nthM st k:=⟨_,rfl⟩
  rw[←hrow]at z1 z2 m1 m2 hrf
  have M1:=zhd m1
  have M2:=zhd m2
  have QM1:=m1.idxM
  have QM2:=m2.idxM
  have HNX:Hid (∀W,Below wo.heap.size wo W→Below w.heap.size w W∧Row W w.heap.size 27 [.int .i64 n,.slice a1 st.length c1]∧Row W (w.heap.size+1) 27 [.int .i64 n,.slice a2 st.length c2]):=zhd fun W hW=>⟨za hb hW,R1.ext hW,R2.ext hW⟩
  have HZ:Hid (∀W,Below wo.heap.size wo W→W.cell? (adr a1 k)=some (.slice r1 row.length e1)∧W.cell? (adr a2 k)=some (.slice r2 row.length e2)∧W.cell? ⟨w.heap.size,1,none⟩=some (.slice a1 st.length c1)∧W.cell? ⟨w.heap.size+1,1,none⟩=some (.slice a2 st.length c2)∧(adr a1 k).block<W.heap.size∧(adr a2 k).block<W.heap.size∧w.heap.size<W.heap.size∧w.heap.size+1<W.heap.size):=zhd fun W hW=>⟨zm z1 hW,zm z2 hW,zm t1 hW,zm s1 hW,by have:=hW.size;omega,by have:=hW.size;omega,by have:=hW.size;omega,by have:=hW.size;omega⟩
  clear hrow m1 m2 R1 R2 hb
  go_wp2
  go_quiet (fail)
  refine zK fun w1 hw1=>?_
  have hx1:=hw1.ext
  clear hw1 t1 s1 z1 z2 b1 b2 l1 l2
  go_wp2
  go_loopw [6] (fun i wr=>∃j:Nat,j≤row.length∧i=.int .i64 j∧Below wo.heap.size wo wr) (fun i _=>row.length - (intOf i).toNat)
  case atStart=>exact ⟨0,Nat.zero_le _,rfl,hx1⟩
  case round=>
   clear hx1
   obtain ⟨j,hj,rfl,hb⟩:=hrel
   obtain ⟨z1,z2,t1,s1,b1,b2,l1,l2⟩:=HZ.out wr hb
   by_cases hjl:j<row.length
   case neg=>
    have HN:=zhd (HNX.out wr hb)
    go_wp2
    go_roundw
    case rel=>exact ⟨k+1,by omega,by go_num,HN.out.1,HN.out.2.1,HN.out.2.2⟩
    case measure=>simp[intOf];omega
   have p1:=QM1.out j hjl
   have p2:=QM2.out j hjl
   have y1:=(M1.out.ext hb).nums hjl (by decide)
   have y2:=(M2.out.ext hb).nums hjl (by decide)
   have k1:=zI (M1.out.ext hb).ad.1 (show 0<row.length by omega) (j * 8)
   have k2:=zI (M2.out.ext hb).ad.1 (show 0<row.length by omega) (j * 8)
   have gl:=((M1.out.ext hb).num hjl).1
   obtain ⟨x,hx⟩:∃x,x=nthL row j:=⟨_,rfl⟩
   rw[←hx]at y1 y2 gl
   have EQ:∀W:World,(Op.equalIn 10000 69 (.agg #[.int .i64 (nth x 0),.int .i64 (nth x 1),.int .i64 (nth x 2),.int .i64 (nth x 3),.int .i64 (nth x 4),.int .i64 (nth x 5),.int .i64 (nth x 6),.int .i64 (nth x 7)]) (.agg #[.int .i64 (nth x 0),.int .i64 (nth x 1),.int .i64 (nth x 2),.int .i64 (nth x 3),.int .i64 (nth x 4),.int .i64 (nth x 5),.int .i64 (nth x 6),.int .i64 (nth x 7)])).run Tryz.prog W=.ok true W:=fun W=>by
    have h:=zbH 9995 x x W
    rw[Yf gl gl,decide_eq_true rfl]at h
    exact h
   have v0:=y1.1
   have u0:=y2.1
   have v1:=y1.2 1 (by decide)
   have v2:=y1.2 2 (by decide)
   have v3:=y1.2 3 (by decide)
   have v4:=y1.2 4 (by decide)
   have v5:=y1.2 5 (by decide)
   have v6:=y1.2 6 (by decide)
   have v7:=y1.2 7 (by decide)
   have u1:=y2.2 1 (by decide)
   have u2:=y2.2 2 (by decide)
   have u3:=y2.2 3 (by decide)
   have u4:=y2.2 4 (by decide)
   have u5:=y2.2 5 (by decide)
   have u6:=y2.2 6 (by decide)
   have u7:=y2.2 7 (by decide)
   clear hx y1 y2 gl
   have hbn:=fun n=>hb.trans (zh wo.heap.size wr n)
   go_wp2
   go_quiet (fail)
   go_wp2
   go_roundw
   case rel=>exact ⟨j+1,by omega,by go_num,hbn _⟩
   case measure=>simp[intOf];omega
theorem Qt {S S':Nat→Prop} {w:World} {vc1 vc2 vs1 vs2:Value} {p:ProbD} (h1:Sl kCase S w vc1 p.cs) (h2:Sl kCase S' w vc2 p.cs) (g1:Sl (kSl (kFlat 8)) S w vs1 p.st) (g2:Sl (kSl (kFlat 8)) S' w vs2 p.st):
  Calls Tryz.prog 110 #[.agg #[.int .i64 p.n,.int .i64 p.ins,.int .i64 p.outs,vc1,.int .i64 p.an,vs1,.int .i64 p.rounds],.agg #[.int .i64 p.n,.int .i64 p.ins,.int .i64 p.outs,vc2,.int .i64 p.an,vs2,.int .i64 p.rounds]] w (Post w fun _ r=>r=.bool true):=by
 obtain ⟨a1,c1,rfl,_⟩:=h1.form
 obtain ⟨a2,c2,rfl,_⟩:=h2.form
 obtain ⟨s1,d1,rfl,_⟩:=g1.form
 obtain ⟨s2,d2,rfl,_⟩:=g2.form
 have K1:Hid (∀W,Below w.heap.size w W→Calls Tryz.prog 131 #[.agg #[.int .i64 p.n,.int .i64 p.ins,.int .i64 p.outs,.slice a1 p.cs.length c1],.agg #[.int .i64 p.n,.int .i64 p.ins,.int .i64 p.outs,.slice a2 p.cs.length c2]] W (Post W fun _ r=>r=.bool true)):=zhd fun W hW=>Qi _ _ _ (h1.ext hW) (h2.ext hW)
 have K2:Hid (∀W,Below w.heap.size w W→Calls Tryz.prog 132 #[.agg #[.int .i64 p.an,.slice s1 p.st.length d1],.agg #[.int .i64 p.an,.slice s2 p.st.length d2]] W (Post W fun _ r=>r=.bool true)):=zhd fun W hW=>Ql _ (g1.ext hW) (g2.ext hW)
 clear h1 h2 g1 g2
 have ex:=zg (zb w (.cells #[.int .i64 p.n,.int .i64 p.ins,.int .i64 p.outs,.slice a1 p.cs.length c1,.int .i64 p.an,.slice s1 p.st.length d1,.int .i64 p.rounds] 29)) (.cells #[.int .i64 p.n,.int .i64 p.ins,.int .i64 p.outs,.slice a2 p.cs.length c2,.int .i64 p.an,.slice s2 p.st.length d2,.int .i64 p.rounds] 29)
 have R1:=(ze w [.int .i64 p.n,.int .i64 p.ins,.int .i64 p.outs,.slice a1 p.cs.length c1,.int .i64 p.an,.slice s1 p.st.length d1,.int .i64 p.rounds] 29).alloc (.cells #[.int .i64 p.n,.int .i64 p.ins,.int .i64 p.outs,.slice a2 p.cs.length c2,.int .i64 p.an,.slice s2 p.st.length d2,.int .i64 p.rounds] 29)
 have R2:=ze (w.alloc (.cells #[.int .i64 p.n,.int .i64 p.ins,.int .i64 p.outs,.slice a1 p.cs.length c1,.int .i64 p.an,.slice s1 p.st.length d1,.int .i64 p.rounds] 29)) [.int .i64 p.n,.int .i64 p.ins,.int .i64 p.outs,.slice a2 p.cs.length c2,.int .i64 p.an,.slice s2 p.st.length d2,.int .i64 p.rounds] 29
 rw[World.size_alloc]at R2
 go_enter Tryz.func110,Tryz.ntmps110
 go_wp2_with fail
 refine (K1.out _ ex).mono ?_
 rintro _ w1 ⟨_,rfl,hb1,rfl⟩
 replace R1:=R1.ext hb1
 replace R2:=R2.ext hb1
 replace ex:=za ex hb1
 have t4:=R1.zc 4 rfl
 have t5:=R1.zc 5 rfl
 have u4:=R2.zc 4 rfl
 have u5:=R2.zc 5 rfl
 clear hb1 K1
 go_wp2_with fail
 refine (K2.out _ ex).mono ?_
 rintro _ w2 ⟨_,rfl,hb2,rfl⟩
 replace ex:=za ex hb2
 clear t4 t5 u4 u5 hb2
 go_wp2
 go_ret
 exact .mk ex rfl
theorem YB {S S':Nat→Prop} {w:World} {v1 v2:Value} {l1 l2:List (List Int)} (n1 n2:Int) (h1:Sl (kFlat 8) S w v1 l1) (h2:Sl (kFlat 8) S' w v2 l2):
  Calls Tryz.prog 111 #[.agg #[.int .i64 n1,v1],.agg #[.int .i64 n2,v2]] w (Post w fun _ r=>r=.bool (decide (n1=n2∧l1=l2))):=by
 obtain ⟨a1,c1,rfl,ad1,_⟩:=h1.form2
 obtain ⟨a2,c2,rfl,ad2,_⟩:=h2.form2
 have hfw:=h1.few
 have H1:=zhd h1
 have H2:=zhd h2
 obtain ⟨i0,hi,hz⟩:=zL yB
 have Q1:=zhd (zJ Tryz.underlying34 hi hz ad1)
 have Q2:=zhd (zJ Tryz.underlying34 hi hz ad2)
 clear h1 h2 hi hz ad1 ad2
 have ex:=zg (zb w (.cells #[.int .i64 n1,.slice a1 l1.length c1] 36)) (.cells #[.int .i64 n2,.slice a2 l2.length c2] 36)
 have R1:=(ze w [.int .i64 n1,.slice a1 l1.length c1] 36).alloc (.cells #[.int .i64 n2,.slice a2 l2.length c2] 36)
 have R2:=ze (w.alloc (.cells #[.int .i64 n1,.slice a1 l1.length c1] 36)) [.int .i64 n2,.slice a2 l2.length c2] 36
 rw[World.size_alloc]at R2
 have t0:=R1.zc 0 rfl
 have t1:=R1.zc 1 rfl
 have s0:=R2.zc 0 rfl
 have s1:=R2.zc 1 rfl
 obtain ⟨r,hr⟩:∃r,r=decide (n1=n2∧l1=l2):=⟨_,rfl⟩
 rw[←hr]
 have HT:Hid (n1=n2→l1=l2→r=true):=zhd fun h h'=>by rw[hr];exact decide_eq_true ⟨h,h'⟩
 have HF1:Hid (n1≠n2→r=false):=zhd fun h=>by rw[hr];exact decide_eq_false fun h'=>h h'.1
 have HF2:Hid (l1≠l2→r=false):=zhd fun h=>by rw[hr];exact decide_eq_false fun h'=>h h'.2
 clear hr
 by_cases hn:n1=n2
 case neg=>
  have RR:=zhd (HF1.out hn)
  have d1:(n1 !=n2)=true:=by simp[hn]
  clear hn
  go_enter Tryz.func111,Tryz.ntmps111
  go_wp2
  go_ret
  exact .mk ex (zv RR.out.symm)
 have d1:(n1 !=n2)=false:=by simp[hn]
 have HN:=zhd hn
 clear hn
 by_cases hlen:l1.length=l2.length
 case neg=>
  have RR:=zhd (HF2.out fun h=>hlen (by rw[h]))
  have d2:((l1.length:Int) !=l2.length)=true:=by simp;omega
  clear hlen
  go_enter Tryz.func111,Tryz.ntmps111
  go_wp2
  go_ret
  exact .mk ex (zv RR.out.symm)
 have d2:((l1.length:Int) !=l2.length)=false:=by simp[hlen]
 have HL:=zhd hlen
 clear hlen
 go_enter Tryz.func111,Tryz.ntmps111
 go_wp2
 clear t0 t1 s0 s1 d1 d2
 go_loopw [5] (fun i wr=>∃k:Nat,k≤l1.length∧i=.int .i64 k∧Below w.heap.size w wr∧Row wr w.heap.size 36 [.int .i64 n1,.slice a1 l1.length c1]∧Row wr (w.heap.size+1) 36 [.int .i64 n2,.slice a2 l2.length c2]∧Hid (l1.take k=l2.take k)) (fun i _=>l1.length - (intOf i).toNat)
 case atStart=>exact ⟨0,Nat.zero_le _,rfl,ex,R1,R2,zhd rfl⟩
 case round=>
  clear ex R1 R2
  obtain ⟨k,hk,rfl,hb,R1,R2,H⟩:=hrel
  have t1:=R1.zc 1 rfl
  have s1:=R2.zc 1 rfl
  have l1':=R1.lt
  have l2':=R2.lt
  by_cases hlt:k<l1.length
  case neg=>
   have RR:Hid (r=true):=zhd (HT.out HN.out (by
    have:=H.out
    have h2:=HL.out
    rw[List.take_of_length_le (by omega),List.take_of_length_le (by omega)]at this
    exact this))
   go_wp2
   go_ret
   exact .mk hb (zv RR.out.symm)
  have hlt2:k<l2.length:=by have:=HL.out;omega
  have q1:=Q1.out k hlt
  have q2:=Q2.out k hlt2
  have y1:=(H1.out.ext hb).nums hlt (by decide)
  have y2:=(H2.out.ext hb).nums hlt2 (by decide)
  have k1:=zI (H1.out.ext hb).ad.1 (show 0<l1.length by omega) (k * 8)
  have k2:=zI (H2.out.ext hb).ad.1 (show 0<l2.length by omega) (k * 8)
  have g1:=((H1.out.ext hb).num hlt).1
  have g2:=((H2.out.ext hb).num hlt2).1
  obtain ⟨x,hx⟩:∃x,x=nthL l1 k:=⟨_,rfl⟩
  obtain ⟨y,hy⟩:∃y,y=nthL l2 k:=⟨_,rfl⟩
  rw[←hx]at y1 g1
  rw[←hy]at y2 g2
  have EQ:∀W:World,(Op.equalIn 10000 134 (.agg #[.int .i64 (nth x 0),.int .i64 (nth x 1),.int .i64 (nth x 2),.int .i64 (nth x 3),.int .i64 (nth x 4),.int .i64 (nth x 5),.int .i64 (nth x 6),.int .i64 (nth x 7)]) (.agg #[.int .i64 (nth y 0),.int .i64 (nth y 1),.int .i64 (nth y 2),.int .i64 (nth y 3),.int .i64 (nth y 4),.int .i64 (nth y 5),.int .i64 (nth y 6),.int .i64 (nth y 7)])).run Tryz.prog W=.ok (decide (x=y)) W:=fun W=>by rw[←Yf g1 g2];exact xE 9997 x y W
  have v0:=y1.1
  have u0:=y2.1
  have v1:=y1.2 1 (by decide)
  have v2:=y1.2 2 (by decide)
  have v3:=y1.2 3 (by decide)
  have v4:=y1.2 4 (by decide)
  have v5:=y1.2 5 (by decide)
  have v6:=y1.2 6 (by decide)
  have v7:=y1.2 7 (by decide)
  have u1:=y2.2 1 (by decide)
  have u2:=y2.2 2 (by decide)
  have u3:=y2.2 3 (by decide)
  have u4:=y2.2 4 (by decide)
  have u5:=y2.2 5 (by decide)
  have u6:=y2.2 6 (by decide)
  have u7:=y2.2 7 (by decide)
  have HXY:=zhd (And.intro hx hy)
  have HNX:Hid (∀n,Below w.heap.size w (wr.drewN n)∧Row (wr.drewN n) w.heap.size 36 [.int .i64 n1,.slice a1 l1.length c1]∧Row (wr.drewN n) (w.heap.size+1) 36 [.int .i64 n2,.slice a2 l2.length c2]):=zhd fun n=>⟨hb.trans (zh _ wr n),R1.ext (zh _ wr n),R2.ext (zh _ wr n)⟩
  clear hx hy y1 y2 g1 g2 R1 R2 hb
  by_cases he:x=y
  ·rw[decide_eq_true he]at EQ
   have HE:=zhd he
   clear he
   go_wp2
   go_quiet (fail)
   go_wp2
   go_roundw
   case rel=>exact ⟨k+1,by omega,by go_num,(HNX.out _).1,(HNX.out _).2.1,(HNX.out _).2.2,zhd (qG hlt hlt2 H.out (by rw[←HXY.out.1,←HXY.out.2];exact HE.out))⟩
   case measure=>simp[intOf];omega
  ·rw[decide_eq_false he]at EQ
   have RR:Hid (r=false):=zhd (HF2.out fun h=>he (by rw[HXY.out.1,HXY.out.2,h]))
   clear he
   go_wp2
   go_quiet (fail)
   go_wp2
   go_ret
   exact .mk (HNX.out _).1 (zv RR.out.symm)
end Go.Proofs.YtjpakklplhabdaaGreat
namespace Go.Proofs.YtjpakklplhabdaaGreat
theorem qs {t t':List (List Int)} (h:t<+:t') {v:Nat} (hv:v<t.length):nthL t' v=nthL t v:=by
 obtain ⟨r,rfl⟩:=h
 simp[nthL,List.getElem?_append_left hv]
theorem zcG {l r:List Int} {i:Nat} (h:i<l.length):nth (l++r) i=nth l i:=by simp[nth,List.getElem?_append_left h]
theorem za7 {l:List Int} {x:Int}:nth (l++[x]) l.length=x:=by simp[nth]
theorem Qf {l r:List (List Int)} {i:Nat} (h:i<l.length):nthL (l++r) i=nthL l i:=qs (List.prefix_append _ _) h
theorem Xj {l:List (List Int)} {x:List Int}:nthL (l++[x]) l.length=x:=by simp[nthL]
def Refs (t:List (List Int)):Prop:=∀v,v<t.length→∀j,j<5→nth (nthL t v) (3+j)<v
theorem Refs.add {t:List (List Int)} {x:List Int} (h:Refs t) (hx:∀j,j<5→nth x (3+j)<t.length):Refs (addV t x):=by
 unfold addV
 split
 ·exact h
 ·intro v hv j hj
  rw[List.length_append,List.length_singleton]at hv
  by_cases e:v<t.length
  ·rw[Qf e];exact h v e j hj
  ·have e2:v=t.length:=by omega
   subst e2
   rw[Xj];exact hx j hj
theorem XR (mk:Nat→List Int) (t:List (List Int)):∀q i,i<q→∃u:Nat,u<(layV mk t q).1.length∧nth (layV mk t q).2 i=u∧nthL (layV mk t q).1 u=mk i
 | 0,i,h=>by omega
 | q+1,i,h=>by
  unfold layV
  have hl:=zT mk t q
  by_cases e:i<q
  ·obtain ⟨u,h1,h2,h3⟩:=XR mk t q i e
   have hp:=ZL (layV mk t q).1 (mk q)
   exact ⟨u,Nat.lt_of_lt_of_le h1 hp.length_le,by rw[zcG (by omega)];exact h2,by rw[qs hp h1];exact h3⟩
  ·have e2:i=q:=by omega
   subst e2
   refine ⟨idxV (layV mk t i).1 (mk i),zeh _ _,?_,zdC _ _⟩
   have:=za7 (l:=(layV mk t i).2) (x:=((idxV (layV mk t i).1 (mk i):Nat):Int))
   rw[hl]at this;exact this
theorem Qe (mk:Nat→List Int) (t:List (List Int)):∀q v,v<(layV mk t q).1.length→v<t.length∨∃i,i<q∧nth (layV mk t q).2 i=(v:Nat)
 | 0,v,h=>.inl h
 | q+1,v,h=>by
  unfold layV at h ⊢
  have hl:=zT mk t q
  by_cases e:v<(layV mk t q).1.length
  ·rcases Qe mk t q v e with h1 | ⟨i,h1,h2⟩
   ·exact .inl h1
   ·exact .inr ⟨i,by omega,by rw[zcG (by omega)];exact h2⟩
  ·refine .inr ⟨q,by omega,?_⟩
   have h3:=zaT (layV mk t q).1 (mk q)
   have h4:v=(layV mk t q).1.length:=by dsimp only at h;omega
   have h5:mk q∉(layV mk t q).1:=fun hm=>by
    unfold addV at h;rw[if_pos hm]at h;exact e h
   have:=za7 (l:=(layV mk t q).2) (x:=((idxV (layV mk t q).1 (mk q):Nat):Int))
   rw[hl]at this
   rw[this,xl h5,h4]
theorem xG (mk:Nat→List Int) {t:List (List Int)} (h:t.Nodup):∀q,(layV mk t q).1.Nodup
 | 0=>h
 | q+1=>by unfold layV;exact zbx (xG mk h q)
theorem ZI (mk:Nat→List Int) {t:List (List Int)} (h:Refs t):∀q,(∀i,i<q→∀j,j<5→nth (mk i) (3+j)<t.length)→Refs (layV mk t q).1
 | 0,_=>h
 | q+1,hm=>by
  unfold layV
  refine (ZI mk h q fun i hi=>hm i (by omega)).add fun j hj=>?_
  have h1:=hm q (by omega) j hj
  have h2:=(qf mk t q).length_le
  omega
def vwE (n:Nat) (inn:List Int) (word vs:List (List Int)):Nat→Nat→List Int
 | 0,q=>firstV q (nth inn q)
 | k+1,q=>seenV (nthL word k) n (k+1) q (nthL vs k)
structure PlayOK (n:Nat) (inn:List Int) (word t:List (List Int)) (K:Nat) (T vs:List (List Int)):Prop where
 pre:t<+:T
 len:vs.length=K+1
 rows:∀k,k≤K→(nthL vs k).length=n
 at':∀k,k≤K→∀q,q<n→∃u:Nat,u<T.length∧nth (nthL vs k) q=u∧nthL T u=vwE n inn word vs k q
 new:∀v,v<T.length→v<t.length∨∃k,k≤K∧∃q,q<n∧nth (nthL vs k) q=(v:Nat)
 nodup:t.Nodup→T.Nodup
 refs:Refs t→Refs T
theorem zcZ {g prev:List Int} {n q r m:Nat} (h:∀q,q<n→nth prev q<(m:Int)):heardV g n q prev r<(m:Int):=by
 unfold heardV
 split
 ·rename_i h1;exact h r h1.1
 ·omega
theorem ZB {g prev:List Int} {n k q j:Nat} (hj:j<5):nth (seenV g n k q prev) (3+j)=heardV g n q prev j:=by
 have:j=0∨j=1∨j=2∨j=3∨j=4:=by omega
 rcases this with rfl | rfl | rfl | rfl | rfl<;>rfl
theorem xF {x:Int} {q j:Nat} (hj:j<5):nth (firstV q x) (3+j)= -1:=by
 have:j=0∨j=1∨j=2∨j=3∨j=4:=by omega
 rcases this with rfl | rfl | rfl | rfl | rfl<;>rfl
theorem zc3 {n:Nat} {inn:List Int} {word vs r:List (List Int)} {k q:Nat} (h:k≤vs.length):vwE n inn word (vs++r) k q=vwE n inn word vs k q:=by
 cases k with
 | zero=>rfl
 | succ k=>show seenV (nthL word k) n (k+1) q (nthL (vs++r) k)=seenV (nthL word k) n (k+1) q (nthL vs k);rw[Qf (by omega)]
theorem za6 (n:Nat) (inn:List Int) (word t:List (List Int)):∀K,PlayOK n inn word t K (playV n inn word t K).1 (playV n inn word t K).2
 | 0=>by
  unfold playV
  refine ⟨qf _ _ _,rfl,fun k hk=>?_,fun k hk q hq=>?_,fun v hv=>?_,fun h=>xG _ h _,fun h=>ZI _ h _ fun i hi j hj=>?_⟩
  ·have:k=0:=by omega
   subst this
   exact zT _ _ _
  ·have:k=0:=by omega
   subst this
   exact XR (fun q=>firstV q (nth inn q)) t n q hq
  ·rcases Qe (fun q=>firstV q (nth inn q)) t n v hv with h | ⟨i,h1,h2⟩
   ·exact .inl h
   ·exact .inr ⟨0,Nat.le_refl _,i,h1,h2⟩
  ·rw[xF hj];omega
 | K+1=>by
  have ih:=za6 n inn word t K
  unfold playV
  generalize (playV n inn word t K).1=T at ih ⊢
  generalize (playV n inn word t K).2=vs at ih ⊢
  have hpre:=qf (fun q=>seenV (nthL word K) n (K+1) q (nthL vs K)) T n
  have hlen:=zT (fun q=>seenV (nthL word K) n (K+1) q (nthL vs K)) T n
  have hat:=XR (fun q=>seenV (nthL word K) n (K+1) q (nthL vs K)) T n
  have hnew:=Qe (fun q=>seenV (nthL word K) n (K+1) q (nthL vs K)) T n
  have hnd:T.Nodup→(layV (fun q=>seenV (nthL word K) n (K+1) q (nthL vs K)) T n).1.Nodup:=fun h=>xG _ h n
  have hrf:Refs T→Refs (layV (fun q=>seenV (nthL word K) n (K+1) q (nthL vs K)) T n).1:=fun h=>ZI _ h n fun i hi j hj=>by
   rw[ZB hj]
   exact zcZ fun q hq=>by obtain ⟨u,h1,h2,_⟩:=ih.at' K (Nat.le_refl _) q hq;omega
  generalize layV (fun q=>seenV (nthL word K) n (K+1) q (nthL vs K)) T n=L at hpre hlen hat hnew hnd hrf ⊢
  have hold:∀k,k≤K→nthL (vs++[L.2]) k=nthL vs k:=fun k hk=>Qf (by have:=ih.len;omega)
  have hlast:nthL (vs++[L.2]) (K+1)=L.2:=by have:=Xj (l:=vs) (x:=L.2);rw[ih.len]at this;exact this
  refine ⟨ih.pre.trans hpre,by simp[ih.len],fun k hk=>?_,fun k hk q hq=>?_,fun v hv=>?_,fun h=>hnd (ih.nodup h),fun h=>hrf (ih.refs h)⟩
  ·by_cases e:k≤K
   ·rw[hold k e];exact ih.rows k e
   ·have:k=K+1:=by omega
    subst this
    rw[hlast];exact hlen
  ·by_cases e:k≤K
   ·obtain ⟨u,h1,h2,h3⟩:=ih.at' k e q hq
    exact ⟨u,Nat.lt_of_lt_of_le h1 hpre.length_le,by rw[hold k e];exact h2,by rw[qs hpre h1,zc3 (by have:=ih.len;omega)];exact h3⟩
   ·have:k=K+1:=by omega
    subst this
    obtain ⟨u,h1,h2,h3⟩:=hat q hq
    exact ⟨u,h1,by rw[hlast];exact h2,by rw[zc3 (by have:=ih.len;omega)];exact h3⟩
  ·rcases hnew v hv with h | ⟨i,h1,h2⟩
   ·rcases ih.new v h with h | ⟨k,h1,q,h2,h3⟩
    ·exact .inl h
    ·exact .inr ⟨k,by omega,q,h2,by rw[hold k h1];exact h3⟩
   ·exact .inr ⟨K+1,Nat.le_refl _,i,h1,by rw[hlast];exact h2⟩
structure ExOK (n K:Nat) (cs:List CaseD) (T:List (List Int)) (x:ExecD) (c:Nat):Prop where
 case:x.case=c
 clt:c<cs.length
 word:x.word.length=K
 len:x.vs.length=K+1
 rows:∀k,k≤K→(nthL x.vs k).length=n
 at':∀k,k≤K→∀q,q<n→∃u:Nat,u<T.length∧nth (nthL x.vs k) q=u∧nthL T u=vwE n (nthC cs c).inn x.word x.vs k q
theorem ExOK.grow {n K:Nat} {cs:List CaseD} {T T':List (List Int)} {x:ExecD} {c:Nat} (h:ExOK n K cs T x c) (hp:T<+:T'):ExOK n K cs T' x c:=
 ⟨h.case,h.clt,h.word,h.len,h.rows,fun k hk q hq=>by
  obtain ⟨u,h1,h2,h3⟩:=h.at' k hk q hq
  exact ⟨u,Nat.lt_of_lt_of_le h1 hp.length_le,h2,by rw[qs hp h1];exact h3⟩⟩
structure RunOK (n K:Nat) (cs:List CaseD) (a:List (List Int)×List ExecD):Prop where
 ex:∀x∈a.2,∃c,ExOK n K cs a.1 x c
 occ:∀v,v<a.1.length→∃x∈a.2,∃k,k≤K∧∃q,q<n∧nth (nthL x.vs k) q=(v:Nat)
 nodup:a.1.Nodup
 refs:Refs a.1
theorem RunOK.step {n K:Nat} {cs:List CaseD} {a:List (List Int)×List ExecD} (h:RunOK n K cs a) (x:Nat×List (List Int)) (hx:x.1<cs.length∧x.2.length=K):RunOK n K cs (stepE n cs a x):=by
 have hp:=za6 n (nthC cs x.1).inn x.2 a.1 x.2.length
 rw[hx.2]at hp
 unfold stepE
 rw[hx.2]
 generalize playV n (nthC cs x.1).inn x.2 a.1 K=P at hp ⊢
 refine ⟨fun y hy=>?_,fun v hv=>?_,hp.nodup h.nodup,hp.refs h.refs⟩
 ·rcases List.mem_append.1 hy with hy | hy
  ·obtain ⟨c,hc⟩:=h.ex y hy
   exact ⟨c,hc.grow hp.pre⟩
  ·rw[List.mem_singleton.1 hy]
   exact ⟨x.1,rfl,hx.1,hx.2,hp.len,hp.rows,hp.at'⟩
 ·rcases hp.new v hv with h1 | ⟨k,h1,q,h2,h3⟩
  ·obtain ⟨y,hy,hr⟩:=h.occ v h1
   exact ⟨y,List.mem_append_left _ hy,hr⟩
  ·exact ⟨_,List.mem_append_right _ (List.mem_singleton.2 rfl),k,h1,q,h2,h3⟩
theorem zec {n K:Nat} {cs:List CaseD} {l:List (Nat×List (List Int))} (h:∀x∈l,x.1<cs.length∧x.2.length=K):RunOK n K cs (runE n cs l):=by
 have key:∀(l:List (Nat×List (List Int))) (a:List (List Int)×List ExecD),RunOK n K cs a→(∀x∈l,x.1<cs.length∧x.2.length=K)→RunOK n K cs (l.foldl (stepE n cs) a):=by
  intro l
  induction l with
  | nil=>intro a h _;exact h
  | cons x r ih=>intro a h hx;rw[List.foldl_cons];exact ih _ (h.step x (hx x (by simp))) fun y hy=>hx y (by simp[hy])
 exact key l _ ⟨fun x hx=>by simp at hx,fun v hv=>by simp at hv,by simp,fun v hv=>by simp at hv⟩ h
theorem zbf (n:Nat) (cs:List CaseD) (l:List (Nat×List (List Int))):(runE n cs l).2.map (fun x=>(x.case,x.word))=l.map fun x=>((x.1:Int),x.2):=by
 have key:∀(l:List (Nat×List (List Int))) (a:List (List Int)×List ExecD),(l.foldl (stepE n cs) a).2.map (fun x=>(x.case,x.word))=a.2.map (fun x=>(x.case,x.word))++l.map fun x=>((x.1:Int),x.2):=by
  intro l
  induction l with
  | nil=>intro a;simp
  | cons x r ih=>intro a;rw[List.foldl_cons,ih];simp[stepE,ExecD.case,ExecD.word]
 have:=key l ([],[])
 unfold runE
 rw[this];rfl
structure GoodS (s:SysF) (N K:Nat):Prop where
 pok:ProbOK s.p N
 tn:s.tn=N
 rnd:s.p.rounds=K
 K6:K≤6
 ex:∀e,e<s.ex.length→∃c,ExOK N K s.p.cs s.tab (nthX s.ex e) c
 words:∀e,e<s.ex.length→∀k,k<K→RoundOK N (nthL (nthX s.ex e).word k)
 occ:∀v,v<s.tab.length→∃e,e<s.ex.length∧∃k,k≤K∧∃q,q<N∧nth (nthL (nthX s.ex e).vs k) q=(v:Nat)
 nodup:s.tab.Nodup
 refs:Refs s.tab
 num:s.ex.length=s.p.num
theorem zeF {s:SysF} (h:verE s=0) (h8:Moves8 s.p.st):∃N K,GoodS s N K:=by
 unfold verE at h
 by_cases h0:buildE s.p=0
 case neg=>rw[if_neg h0]at h;exact absurd h h0
 rw[if_pos h0]at h
 by_cases h1:s.tn=s.p.n∧s.tab=s.p.sys.1∧s.ex=s.p.sys.2
 case neg=>rw[if_neg h1]at h;cases h
 have hz:checkPr s.p=0:=by
  unfold buildE at h0
  by_cases hc:checkPr s.p=0
  ·exact hc
  ·rw[if_neg hc]at h0;exact h0
 obtain ⟨N,hok⟩:=probOK hz
 obtain ⟨K,hK⟩:∃K:Nat,s.p.rounds=K:=⟨s.p.rounds.toNat,by have:=hok.r;omega⟩
 have eN:s.p.n.toNat=N:=by rw[hok.n];exact Int.toNat_natCast N
 have eK:s.p.rounds.toNat=K:=by rw[hK];exact Int.toNat_natCast K
 obtain ⟨h2,h3,h4⟩:=h1
 have hrun:RunOK N K s.p.cs (s.tab,s.ex):=by
  rw[h3,h4]
  have:=zec (n:=N) (K:=K) (cs:=s.p.cs) (l:=s.p.pairs) fun x hx=>⟨s.p.pairs_case x hx,by rw[s.p.pairs_word x hx,eK]⟩
  unfold ProbD.sys
  rw[eN];exact this
 refine ⟨N,K,hok,by rw[h2,hok.n],hK,by have:=hok.r;omega,fun e he=>hrun.ex _ (YA he),fun e he k hk=>?_,fun v hv=>?_,hrun.nodup,hrun.refs,?_⟩
 ·have hm:=zbf s.p.n.toNat s.p.cs s.p.pairs
  have hx:((nthX s.ex e).case,(nthX s.ex e).word)∈s.p.pairs.map fun x=>((x.1:Int),x.2):=by
   rw[←hm];exact List.mem_map.2 ⟨_,by have:=YA he;rw[h4]at this ⊢;exact this,rfl⟩
  obtain ⟨x,hx,he2⟩:=List.mem_map.1 hx
  have e2:x.2=(nthX s.ex e).word:=congrArg Prod.snd he2
  unfold ProbD.pairs pairsW at hx
  obtain ⟨i,hi,hx⟩:=List.mem_flatMap.1 hx
  obtain ⟨w,hw,rfl⟩:=List.mem_map.1 hx
  obtain ⟨c,hc⟩:=hrun.ex _ (YA he)
  have h5:=hok.words h8 s.p.rounds.toNat w hw (nthL w k) (yl (by have:=hc.word;rw[←e2]at this;dsimp only at this;omega))
  rw[hok.n]at h5
  rw[←e2];exact h5
 ·obtain ⟨x,hx,hr⟩:=hrun.occ v hv
  obtain ⟨e,he,rfl⟩:=List.getElem_of_mem hx
  exact ⟨e,he,by rw[YI he];exact hr⟩
 ·rw[h4];unfold ProbD.sys;rw[xz];exact s.p.pairs_len
end Go.Proofs.YtjpakklplhabdaaGreat
