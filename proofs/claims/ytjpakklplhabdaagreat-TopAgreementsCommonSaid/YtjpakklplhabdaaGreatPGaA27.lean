/- Part of the proof that the laws answer true for every input. -/
import Derived.Test.YtjpakklplhabdaaGreatPGaA26
set_option linter.unusedSimpArgs false
set_option linter.unnecessarySimpa false
set_option linter.unusedVariables false
set_option maxRecDepth 100000
set_option maxHeartbeats 40000000
namespace Go.Proofs.YtjpakklplhabdaaGreat
open Go.RowKit
attribute [local go_sem ↓] Go.wp_at_zero Go.wp_at_succ
theorem qG {l1 l2:List (List Int)} {k:Nat} (hk1:k<l1.length) (hk2:k<l2.length) (h:l1.take k=l2.take k) (e:nthL l1 k=nthL l2 k):l1.take (k+1)=l2.take (k+1):=by
 rw[yP hk1,yP hk2,h,e]
theorem yB:(Tryz.prog.info? 134).map (fun i=>i.size)=some 8:=by kernel_rfl
theorem zas {S S':Nat→Prop} {w:World} {v1 v2:Value} {l1 l2:List (List Int)} (h1:Sl (kFlat 8) S w v1 l1) (h2:Sl (kFlat 8) S' w v2 l2):
  Calls Tryz.prog 96 #[v1,v2] w (QuietP w (.bool (decide (l1=l2)))):=by
 obtain ⟨a1,cap1,rfl,ha1,_,hm1,hf1⟩:=h1.form2
 obtain ⟨a2,cap2,rfl,ha2,_,_,_⟩:=h2.form2
 have H1:=zhd h1
 have H2:=zhd h2
 obtain ⟨i0,hi,hz1⟩:=zL yB
 have hix1:=zJ Tryz.underlying34 hi hz1 ha1
 have hix2:=zJ Tryz.underlying34 hi hz1 ha2
 clear hi hz1 h1 h2 hm1
 by_cases hlen:l1.length=l2.length
 ·have hne:((l1.length:Int) !=l2.length)=false:=by simp[hlen]
  have HL:=zhd hlen
  clear hlen
  go_enter Tryz.func96,Tryz.ntmps96
  go_wp2
  go_loopw [13] (fun i wr=>∃k:Nat,k≤l1.length∧i=.int .i64 k∧(∃m,wr=w.drewN m)∧l1.take k=l2.take k) (fun i _=>l1.length - (intOf i).toNat)
  case atStart=>exact ⟨0,by omega,rfl,⟨0,rfl⟩,rfl⟩
  case round=>
   obtain ⟨k,hk,rfl,⟨m,rfl⟩,hrel⟩:=hrel
   have H:=zhd hrel
   clear hrel
   by_cases hlt:k<l1.length
   ·have hlt2:k<l2.length:=by have:=HL.out;omega
    have q1:=hix1 k hlt
    have q2:=hix2 k hlt2
    have z1:=H1.out.nums hlt (by decide)
    have z2:=H2.out.nums hlt2 (by decide)
    have g1:=(H1.out.num hlt).1
    have g2:=(H2.out.num hlt2).1
    obtain ⟨x,hx⟩:∃x,x=nthL l1 k:=⟨_,rfl⟩
    obtain ⟨y,hy⟩:∃y,y=nthL l2 k:=⟨_,rfl⟩
    rw[←hx]at z1 g1
    rw[←hy]at z2 g2
    have p0:=z1.1
    have r0:=z2.1
    have p1:=z1.2 1 (by decide)
    have p2:=z1.2 2 (by decide)
    have p3:=z1.2 3 (by decide)
    have p4:=z1.2 4 (by decide)
    have p5:=z1.2 5 (by decide)
    have p6:=z1.2 6 (by decide)
    have p7:=z1.2 7 (by decide)
    have r1:=z2.2 1 (by decide)
    have r2:=z2.2 2 (by decide)
    have r3:=z2.2 3 (by decide)
    have r4:=z2.2 4 (by decide)
    have r5:=z2.2 5 (by decide)
    have r6:=z2.2 6 (by decide)
    have r7:=z2.2 7 (by decide)
    have EQ:∀W:World,(Op.equalIn 10000 134 (.agg #[.int .i64 (nth x 0),.int .i64 (nth x 1),.int .i64 (nth x 2),.int .i64 (nth x 3),.int .i64 (nth x 4),.int .i64 (nth x 5),.int .i64 (nth x 6),.int .i64 (nth x 7)]) (.agg #[.int .i64 (nth y 0),.int .i64 (nth y 1),.int .i64 (nth y 2),.int .i64 (nth y 3),.int .i64 (nth y 4),.int .i64 (nth y 5),.int .i64 (nth y 6),.int .i64 (nth y 7)])).run Tryz.prog W=.ok (decide (x=y)) W:=fun W=>by rw[←Yf g1 g2];exact xE 9997 x y W
    clear hix1 hix2 z1 z2 g1 g2
    have HXY:=zhd (And.intro hx hy)
    clear hx hy
    by_cases he:x=y
    ·have he':decide (x=y)=true:=decide_eq_true he
     rw[he']at EQ
     have HE:=zhd he
     clear he he'
     go_wp2
     go_quiet (fail)
     go_wp2
     go_roundw
     case rel=>exact ⟨k+1,by omega,by go_num,⟨_,rfl⟩,qG hlt hlt2 H.out (by rw[←HXY.out.1,←HXY.out.2];exact HE.out)⟩
     case measure=>simp[intOf];omega
    ·have he':decide (x=y)=false:=decide_eq_false he
     rw[he']at EQ
     have HE:=zhd he
     clear he he'
     go_wp2
     go_quiet (fail)
     go_wp2
     go_ret
     rw[World.drewN_drewN]
     exact .of (zv (decide_eq_false (fun (e:l1=l2)=>HE.out (by rw[HXY.out.1,HXY.out.2,e]))).symm) _
   ·go_wp2
    go_ret
    refine .of (zv ?_) _
    have:=H.out
    have h2:=HL.out
    rw[List.take_of_length_le (by omega),List.take_of_length_le (by omega)]at this
    exact (decide_eq_true this).symm
 ·have hne:((l1.length:Int) !=l2.length)=true:=by simp;omega
  go_enter Tryz.func96,Tryz.ntmps96
  go_wp2
  go_ret
  exact .of (zv (decide_eq_false (fun (e:l1=l2)=>hlen (by rw[e]))).symm) 0
theorem Qy:(Tryz.prog.info? 67).map (fun i=>i.size)=some 7:=by kernel_rfl
theorem QH {S S':Nat→Prop} {w:World} {v1 v2:Value} {l1 l2:List (List Int)} (h1:Sl (kFlat 7) S w v1 l1) (h2:Sl (kFlat 7) S' w v2 l2):
  Calls Tryz.prog 125 #[v1,v2] w (QuietP w (.bool (decide (l1=l2)))):=by
 obtain ⟨a1,cap1,rfl,ha1,_,hm1,hf1⟩:=h1.form2
 obtain ⟨a2,cap2,rfl,ha2,_,_,_⟩:=h2.form2
 have H1:=zhd h1
 have H2:=zhd h2
 obtain ⟨i0,hi,hz1⟩:=zL Qy
 have hix1:=zJ Tryz.underlying46 hi hz1 ha1
 have hix2:=zJ Tryz.underlying46 hi hz1 ha2
 clear hi hz1 h1 h2 hm1
 by_cases hlen:l1.length=l2.length
 ·have hne:((l1.length:Int) !=l2.length)=false:=by simp[hlen]
  have HL:=zhd hlen
  clear hlen
  go_enter Tryz.func125,Tryz.ntmps125
  go_wp2
  go_loopw [13] (fun i wr=>∃k:Nat,k≤l1.length∧i=.int .i64 k∧(∃m,wr=w.drewN m)∧l1.take k=l2.take k) (fun i _=>l1.length - (intOf i).toNat)
  case atStart=>exact ⟨0,by omega,rfl,⟨0,rfl⟩,rfl⟩
  case round=>
   obtain ⟨k,hk,rfl,⟨m,rfl⟩,hrel⟩:=hrel
   have H:=zhd hrel
   clear hrel
   by_cases hlt:k<l1.length
   ·have hlt2:k<l2.length:=by have:=HL.out;omega
    have q1:=hix1 k hlt
    have q2:=hix2 k hlt2
    have z1:=H1.out.nums hlt (by decide)
    have z2:=H2.out.nums hlt2 (by decide)
    have g1:=(H1.out.num hlt).1
    have g2:=(H2.out.num hlt2).1
    obtain ⟨x,hx⟩:∃x,x=nthL l1 k:=⟨_,rfl⟩
    obtain ⟨y,hy⟩:∃y,y=nthL l2 k:=⟨_,rfl⟩
    rw[←hx]at z1 g1
    rw[←hy]at z2 g2
    have p0:=z1.1
    have r0:=z2.1
    have p1:=z1.2 1 (by decide)
    have p2:=z1.2 2 (by decide)
    have p3:=z1.2 3 (by decide)
    have p4:=z1.2 4 (by decide)
    have p5:=z1.2 5 (by decide)
    have p6:=z1.2 6 (by decide)
    have r1:=z2.2 1 (by decide)
    have r2:=z2.2 2 (by decide)
    have r3:=z2.2 3 (by decide)
    have r4:=z2.2 4 (by decide)
    have r5:=z2.2 5 (by decide)
    have r6:=z2.2 6 (by decide)
    have EQ:∀W:World,(Op.equalIn 10000 67 (.agg #[.int .i64 (nth x 0),.int .i64 (nth x 1),.int .i64 (nth x 2),.int .i64 (nth x 3),.int .i64 (nth x 4),.int .i64 (nth x 5),.int .i64 (nth x 6)]) (.agg #[.int .i64 (nth y 0),.int .i64 (nth y 1),.int .i64 (nth y 2),.int .i64 (nth y 3),.int .i64 (nth y 4),.int .i64 (nth y 5),.int .i64 (nth y 6)])).run Tryz.prog W=.ok (decide (x=y)) W:=fun W=>by rw[←Yf g1 g2];exact yW 9996 x y W
    clear hix1 hix2 z1 z2 g1 g2
    have HXY:=zhd (And.intro hx hy)
    clear hx hy
    by_cases he:x=y
    ·have he':decide (x=y)=true:=decide_eq_true he
     rw[he']at EQ
     have HE:=zhd he
     clear he he'
     go_wp2
     go_quiet (fail)
     go_wp2
     go_roundw
     case rel=>exact ⟨k+1,by omega,by go_num,⟨_,rfl⟩,qG hlt hlt2 H.out (by rw[←HXY.out.1,←HXY.out.2];exact HE.out)⟩
     case measure=>simp[intOf];omega
    ·have he':decide (x=y)=false:=decide_eq_false he
     rw[he']at EQ
     have HE:=zhd he
     clear he he'
     go_wp2
     go_quiet (fail)
     go_wp2
     go_ret
     rw[World.drewN_drewN]
     exact .of (zv (decide_eq_false (fun (e:l1=l2)=>HE.out (by rw[HXY.out.1,HXY.out.2,e]))).symm) _
   ·go_wp2
    go_ret
    refine .of (zv ?_) _
    have:=H.out
    have h2:=HL.out
    rw[List.take_of_length_le (by omega),List.take_of_length_le (by omega)]at this
    exact (decide_eq_true this).symm
 ·have hne:((l1.length:Int) !=l2.length)=true:=by simp;omega
  go_enter Tryz.func125,Tryz.ntmps125
  go_wp2
  go_ret
  exact .of (zv (decide_eq_false (fun (e:l1=l2)=>hlen (by rw[e]))).symm) 0
theorem Xg {S S':Nat→Prop} {w:World} {v1 v2:Value} {l1 l2:List (List Int)} (h1:Lists S w v1 l1) (h2:Lists S' w v2 l2):
  Calls Tryz.prog 126 #[v1,v2,.func (.func 115) #[] #[]] w (Post w fun _ r=>r=.bool (decide (l1=l2))):=by
 obtain ⟨a1,cap1,rfl,ha1,hle1,hm1⟩:=h1.form
 obtain ⟨a2,cap2,rfl,ha2,_,_⟩:=h2.form
 unfold maxLen at hm1
 have H1:=zhd h1
 have H2:=zhd h2
 obtain ⟨i0,hi,hz0,hz1,hz2⟩:=info_parts zF
 have hix1:=zz Tryz.underlying47 hi hz1 ha1
 have hix2:=zz Tryz.underlying47 hi hz1 ha2
 clear hi hz0 hz1 hz2 h1 h2
 by_cases hlen:l1.length=l2.length
 ·have hne:((l1.length:Int) !=l2.length)=false:=by simp[hlen]
  have HL:=zhd hlen
  clear hlen
  go_enter Tryz.func126,Tryz.ntmps126
  go_wp2
  go_loopw [7,8,9,17] (fun _ _ _ i wr=>∃k:Nat,k≤l1.length∧i=.int .i64 k∧Below w.heap.size w wr∧Hid (l1.take k=l2.take k)) (fun _ _ _ i _=>l1.length - (intOf i).toNat)
  case atStart=>exact ⟨0,by omega,rfl,.refl _ _,zhd rfl⟩
  case round=>
   obtain ⟨k,hk,rfl,hb,H⟩:=hrel
   by_cases hlt:k<l1.length
   ·have hlt2:k<l2.length:=by have:=HL.out;omega
    have q1:=hix1 k hlt
    have q2:=hix2 k hlt2
    obtain ⟨u1,c1,i1⟩:=H1.out.at hb hlt
    have b1:=World.block_lt_of_cell? _ _ c1
    obtain ⟨u2,c2,i2⟩:=H2.out.at hb hlt2
    have b2:=World.block_lt_of_cell? _ _ c2
    have KE:=zhd (X5 i1 i2)
    obtain ⟨x,hx⟩:∃x,x=nthL l1 k:=⟨_,rfl⟩
    obtain ⟨y,hy⟩:∃y,y=nthL l2 k:=⟨_,rfl⟩
    rw[←hx,←hy]at KE
    obtain ⟨ua1,uc1,rfl,_⟩:=i1.form
    obtain ⟨ua2,uc2,rfl,_⟩:=i2.form
    rw[←hx]at c1 KE
    rw[←hy]at c2 KE
    have HXY:=zhd (And.intro hx hy)
    clear hx hy i1 i2
    obtain ⟨bb,hbb⟩:∃bb,bb=decide (x=y):=⟨_,rfl⟩
    rw[←hbb]at KE
    have HB:=zhd hbb
    clear hbb
    go_wp2_with fail
    refine KE.out.mono ?_
    rintro _ w1 ⟨_,rfl,hb1,rfl⟩
    have hb2:=za hb hb1
    clear q1 q2 c1 c2 b1 b2 hb1 KE
    cases bb with
    | true=>
     have HE:Hid (x=y):=zhd (by have:=HB.out;simpa using this.symm)
     go_wp2
     go_roundw
     case rel=>exact ⟨k+1,by omega,by go_num,hb2,zhd (qG hlt hlt2 H.out (by rw[←HXY.out.1,←HXY.out.2];exact HE.out))⟩
     case measure=>simp[intOf];omega
    | false=>
     have HE:Hid (x≠y):=zhd (by have:=HB.out;simpa using this.symm)
     go_wp2
     go_ret
     exact .mk hb2 (zv (decide_eq_false (fun (e:l1=l2)=>HE.out (by rw[HXY.out.1,HXY.out.2,e]))).symm)
   ·go_wp2
    go_ret
    refine .mk hb (zv ?_)
    have:=H.out
    have h2:=HL.out
    rw[List.take_of_length_le (by omega),List.take_of_length_le (by omega)]at this
    exact (decide_eq_true this).symm
 ·have hne:((l1.length:Int) !=l2.length)=true:=by simp;omega
  go_enter Tryz.func126,Tryz.ntmps126
  go_wp2
  go_ret
  exact .same (zv (decide_eq_false (fun (e:l1=l2)=>hlen (by rw[e]))).symm)
theorem zch (x y:ExecD):decide (x=y)=(decide (x.case=y.case)&&(decide (x.word=y.word)&&decide (x.vs=y.vs))):=by
 obtain ⟨a,b,c⟩:=x
 obtain ⟨a',b',c'⟩:=y
 rw[Bool.eq_iff_iff]
 rw[Bool.and_eq_true,Bool.and_eq_true,decide_eq_true_iff,decide_eq_true_iff,decide_eq_true_iff,decide_eq_true_iff]
 simp[ExecD.case,ExecD.word,ExecD.vs]
theorem XS {S S':Nat→Prop} {w:World} {v1 v2 u1 u2:Value} {x y:ExecD} (h1:Sl (kFlat 7) S w v1 x.word) (h2:Lists S w v2 x.vs) (g1:Sl (kFlat 7) S' w u1 y.word) (g2:Lists S' w u2 y.vs):
  Calls Tryz.prog 98 #[.agg #[.int .i64 x.case,v1,v2],.agg #[.int .i64 y.case,u1,u2]] w (Post w fun _ r=>r=.bool (decide (x=y))):=by
 obtain ⟨a1,c1,rfl,_⟩:=h1.form
 obtain ⟨a2,c2,rfl,_⟩:=h2.form
 obtain ⟨d1,e1,rfl,_⟩:=g1.form
 obtain ⟨d2,e2,rfl,_⟩:=g2.form
 have HXE:=zhd (zch x y)
 obtain ⟨r,hr⟩:∃r,r=decide (x=y):=⟨_,rfl⟩
 rw[←hr]at HXE ⊢
 clear hr
 have K1:Hid (∀W,Below w.heap.size w W→Calls Tryz.prog 125 #[.slice a1 x.word.length c1,.slice d1 y.word.length e1] W (Post W fun _ r=>r=.bool (decide (x.word=y.word)))):=zhd fun W hW=>(QH (h1.ext hW) (g1.ext hW)).mono fun _ _ h=>h.post
 have K2:Hid (∀W,Below w.heap.size w W→Calls Tryz.prog 126 #[.slice a2 x.vs.length c2,.slice d2 y.vs.length e2,.func (.func 115) #[] #[]] W (Post W fun _ r=>r=.bool (decide (x.vs=y.vs)))):=zhd fun W hW=>Xg (h2.ext hW) (g2.ext hW)
 obtain ⟨b1,hb1⟩:∃b,b=decide (x.word=y.word):=⟨_,rfl⟩
 obtain ⟨b2,hb2⟩:∃b,b=decide (x.vs=y.vs):=⟨_,rfl⟩
 rw[←hb1]at K1 HXE
 rw[←hb2]at K2 HXE
 clear hb1 hb2 h1 h2 g1 g2
 obtain ⟨cx,hcx⟩:∃c,c=x.case:=⟨_,rfl⟩
 obtain ⟨cy,hcy⟩:∃c,c=y.case:=⟨_,rfl⟩
 rw[←hcx,←hcy]at HXE ⊢
 clear hcx hcy
 have ex:=zg (zb w (.cells #[.int .i64 cx,.slice a1 x.word.length c1,.slice a2 x.vs.length c2] 49)) (.cells #[.int .i64 cy,.slice d1 y.word.length e1,.slice d2 y.vs.length e2] 49)
 have R1:=(ze w [.int .i64 cx,.slice a1 x.word.length c1,.slice a2 x.vs.length c2] 49).alloc (.cells #[.int .i64 cy,.slice d1 y.word.length e1,.slice d2 y.vs.length e2] 49)
 have R2:=ze (w.alloc (.cells #[.int .i64 cx,.slice a1 x.word.length c1,.slice a2 x.vs.length c2] 49)) [.int .i64 cy,.slice d1 y.word.length e1,.slice d2 y.vs.length e2] 49
 rw[World.size_alloc]at R2
 by_cases hc:cx=cy
 case neg=>
  have d1:(cx==cy)=false:=by simp[hc]
  have RR:Hid (r=false):=zhd (by rw[HXE.out];simp[hc])
  clear hc
  go_enter Tryz.func98,Tryz.ntmps98
  go_wp2
  go_ret
  exact .mk ex (zv RR.out.symm)
 have d1:(cx==cy)=true:=by simp[hc]
 have HXF:Hid (r=(b1&&b2)):=zhd (by rw[HXE.out];simp[hc])
 clear HXE hc
 go_enter Tryz.func98,Tryz.ntmps98
 go_wp2_with fail
 refine (K1.out _ ex).mono ?_
 rintro _ w1 ⟨_,rfl,hb1,rfl⟩
 replace R1:=R1.ext hb1
 replace R2:=R2.ext hb1
 replace ex:=za ex hb1
 clear hb1 d1
 cases b1 with
 | false=>
  have RR:Hid (r=false):=zhd (by rw[HXF.out];rfl)
  go_wp2
  go_ret
  exact .mk ex (zv RR.out.symm)
 | true=>
  have RR:Hid (r=b2):=zhd (by rw[HXF.out];rfl)
  have t1:=R1.zc 2 rfl
  have t2:=R2.zc 2 rfl
  go_wp2_with fail
  refine (K2.out _ ex).mono ?_
  rintro _ w2 ⟨_,rfl,hb2,rfl⟩
  replace ex:=za ex hb2
  clear t1 t2 hb2
  go_wp2
  go_ret
  exact .mk ex (zv RR.out.symm)
theorem Sl.exec {S:Nat→Prop} {w:World} {a:Option Addr} {m cap:Nat} {l:List ExecD} (h:Sl kExec S w (.slice a m cap) l) {k:Nat} (hk:k<l.length):
  ∃a1 c1 a2 c2,w.cell? (adr a (k * 3))=some (.int .i64 (nthX l k).case)∧w.cell? ⟨(adr a (k * 3)).block,(adr a (k * 3)).off+1,none⟩=some (.slice a1 (nthX l k).word.length c1)∧w.cell? ⟨(adr a (k * 3)).block,(adr a (k * 3)).off+2,none⟩=some (.slice a2 (nthX l k).vs.length c2)∧
   Sl (kFlat 7) S w (.slice a1 (nthX l k).word.length c1) (nthX l k).word∧Lists S w (.slice a2 (nthX l k).vs.length c2) (nthX l k).vs:=by
 obtain ⟨cs,h1,⟨v1,v2,rfl,i1,i2⟩,_⟩:=h.at hk
 have e:nthX l k=l[k]:=YI hk
 rw[←e]at i1 i2 h1
 obtain ⟨a1,c1,rfl,_⟩:=i1.form
 obtain ⟨a2,c2,rfl,_⟩:=i2.form
 have q0:=h1 0 (by show 0<3;omega)
 have q1:=h1 1 (by show 1<3;omega)
 have q2:=h1 2 (by show 2<3;omega)
 have sz:kExec.size=3:=rfl
 rw[sz]at q0 q1 q2
 have ha:=h.ad.1
 rcases ha with ⟨h0,_⟩ | ⟨b,off,rfl,_,_⟩
 ·omega
 ·refine ⟨a1,c1,a2,c2,by simpa using q0,?_,?_,i1,i2⟩
  ·simpa[adr,Nat.add_assoc] using q1
  ·simpa[adr,Nat.add_assoc] using q2
theorem zbz:(Tryz.prog.info? 49).map (fun i=>i.size)=some 3:=by kernel_rfl
theorem yg {S:Nat→Prop} {w:World} {a:Option Addr} {n cap:Nat} (h:Ad S w a n cap):∀k:Nat,k<n→∀W:World,(Instr.indexAt 37 (.slice a n cap) (.int .i64 k)).run Tryz.prog W=.ok (.pointer (some (adr a (k * 3)))) W:=by
 obtain ⟨i,hi,hz⟩:=zL zbz
 exact zJ Tryz.underlying37 hi hz h
theorem zaQ {l1 l2:List ExecD} {k:Nat} (hk1:k<l1.length) (hk2:k<l2.length) (h:l1.take k=l2.take k) (e:nthX l1 k=nthX l2 k):l1.take (k+1)=l2.take (k+1):=by
 rw[Q8 hk1,Q8 hk2,h,e]
theorem Y0 {S S':Nat→Prop} {w:World} {v1 v2:Value} {l1 l2:List ExecD} (h1:Sl kExec S w v1 l1) (h2:Sl kExec S' w v2 l2):
  Calls Tryz.prog 97 #[v1,v2,.func (.func 98) #[] #[]] w (Post w fun _ r=>r=.bool (decide (l1=l2))):=by
 obtain ⟨aa1,cap1,rfl,ha1,hle1,hm1,hf1⟩:=h1.form2
 obtain ⟨aa2,cap2,rfl,ha2,_⟩:=h2.form2
 have H1:=zhd h1
 have H2:=zhd h2
 have hix1:=yg ha1
 have hix2:=yg ha2
 clear h1 h2 hm1
 by_cases hlen:l1.length=l2.length
 ·have hne:((l1.length:Int) !=l2.length)=false:=by simp[hlen]
  have HL:=zhd hlen
  clear hlen
  go_enter Tryz.func97,Tryz.ntmps97
  go_wp2
  go_loopw [7,8,9,17] (fun _ _ _ i wr=>∃k:Nat,k≤l1.length∧i=.int .i64 k∧Below w.heap.size w wr∧Hid (l1.take k=l2.take k)) (fun _ _ _ i _=>l1.length - (intOf i).toNat)
  case atStart=>exact ⟨0,by omega,rfl,.refl _ _,zhd rfl⟩
  case round=>
   obtain ⟨k,hk,rfl,hb,H⟩:=hrel
   by_cases hlt:k<l1.length
   ·have hlt2:k<l2.length:=by have:=HL.out;omega
    have q1:=hix1 k hlt
    have q2:=hix2 k hlt2
    obtain ⟨a1,c1,a2,c2,t0,t1,t2,i1,i2⟩:=(H1.out.ext hb).exec hlt
    obtain ⟨d1,e1,d2,e2,s0,s1,s2,j1,j2⟩:=(H2.out.ext hb).exec hlt2
    have b1:=zI (H1.out.ext hb).ad.1 (by omega) (k * 3)
    have b2:=zI (H2.out.ext hb).ad.1 (by omega) (k * 3)
    have KE:Hid (∀W,Below wr.heap.size wr W→Calls Tryz.prog 98 #[.agg #[.int .i64 (nthX l1 k).case,.slice a1 (nthX l1 k).word.length c1,.slice a2 (nthX l1 k).vs.length c2],.agg #[.int .i64 (nthX l2 k).case,.slice d1 (nthX l2 k).word.length e1,.slice d2 (nthX l2 k).vs.length e2]] W (Post W fun _ r=>r=.bool (decide (nthX l1 k=nthX l2 k)))):=zhd fun W hW=>XS (i1.ext hW) (i2.ext hW) (j1.ext hW) (j2.ext hW)
    obtain ⟨x,hx⟩:∃x,x=nthX l1 k:=⟨_,rfl⟩
    obtain ⟨y,hy⟩:∃y,y=nthX l2 k:=⟨_,rfl⟩
    rw[←hx]at t0 t1 t2 KE
    rw[←hy]at s0 s1 s2 KE
    have HXY:=zhd (And.intro hx hy)
    clear hx hy i1 i2 j1 j2
    obtain ⟨bb,hbb⟩:∃bb,bb=decide (x=y):=⟨_,rfl⟩
    rw[←hbb]at KE
    have HB:=zhd hbb
    clear hbb
    have R1:=(ze wr [.int .i64 x.case,.slice a1 x.word.length c1,.slice a2 x.vs.length c2] 49).alloc (.cells #[.int .i64 y.case,.slice d1 y.word.length e1,.slice d2 y.vs.length e2] 49)
    have R2:=ze (wr.alloc (.cells #[.int .i64 x.case,.slice a1 x.word.length c1,.slice a2 x.vs.length c2] 49)) [.int .i64 y.case,.slice d1 y.word.length e1,.slice d2 y.vs.length e2] 49
    rw[World.size_alloc]at R2
    have hx2:=zg (zb wr (.cells #[.int .i64 x.case,.slice a1 x.word.length c1,.slice a2 x.vs.length c2] 49)) (.cells #[.int .i64 y.case,.slice d1 y.word.length e1,.slice d2 y.vs.length e2] 49)
    go_wp2_with fail
    refine (KE.out _ hx2).mono ?_
    rintro _ w1 ⟨_,rfl,hb1,rfl⟩
    have hb2:=za (za hb hx2) hb1
    clear q1 q2 t0 t1 t2 s0 s1 s2 b1 b2 hb1 KE R1 R2 hx2
    cases bb with
    | true=>
     have HE:Hid (x=y):=zhd (by have:=HB.out;simpa using this.symm)
     go_wp2
     go_roundw
     case rel=>exact ⟨k+1,by omega,by go_num,hb2,zhd (zaQ hlt hlt2 H.out (by rw[←HXY.out.1,←HXY.out.2];exact HE.out))⟩
     case measure=>simp[intOf];omega
    | false=>
     have HE:Hid (x≠y):=zhd (by have:=HB.out;simpa using this.symm)
     go_wp2
     go_ret
     exact .mk hb2 (zv (decide_eq_false (fun (e:l1=l2)=>HE.out (by rw[HXY.out.1,HXY.out.2,e]))).symm)
   ·go_wp2
    go_ret
    refine .mk hb (zv ?_)
    have:=H.out
    have h2:=HL.out
    rw[List.take_of_length_le (by omega),List.take_of_length_le (by omega)]at this
    exact (decide_eq_true this).symm
 ·have hne:((l1.length:Int) !=l2.length)=true:=by simp;omega
  go_enter Tryz.func97,Tryz.ntmps97
  go_wp2
  go_ret
  exact .same (zv (decide_eq_false (fun (e:l1=l2)=>hlen (by rw[e]))).symm)
def BuildR (p:ProbD) (w':World) (r:Value):Prop:=
 (buildE p=0∧∃v,r=.tuple #[v,.int .i64 0]∧SysV TT w' v p.full)∨(buildE p≠0∧r=.tuple #[zeroSys,.int .i64 (buildE p)])
structure PFew (p:ProbD):Prop where
 cp:CopyOK p
 st:p.st.length≤1000
 small:SmallP p
theorem yk {p:ProbD} (h:buildE p=0):checkPr p=0∧p.num≤4096:=by
 unfold buildE at h
 by_cases h1:checkPr p=0
 ·rw[if_pos h1]at h
  by_cases h2:4096<p.num
  ·rw[if_pos h2]at h;cases h
  ·exact ⟨h1,by omega⟩
 ·rw[if_neg h1]at h;exact absurd h h1
theorem Xm {S:Nat→Prop} {w:World} {vc vs:Value} {p:ProbD} (hc:Sl kCase S w vc p.cs) (hs:Sl (kSl (kFlat 8)) S w vs p.st) (hf:PFew p):
  Calls Tryz.prog 15 #[.agg #[.int .i64 p.n,.int .i64 p.ins,.int .i64 p.outs,vc,.int .i64 p.an,vs,.int .i64 p.rounds]] w (Post w (BuildR p)):=by
 by_cases h0:buildE p=0
 ·obtain ⟨h1,h2⟩:=yk h0
  obtain ⟨N,hok⟩:=probOK h1
  obtain ⟨h3,h4⟩:=hf.small h1 h2
  obtain ⟨n,ins,outs,cs,an,st,rounds⟩:=p
  obtain ⟨K,hK⟩:∃K:Nat,rounds=K:=⟨rounds.toNat,by have:=hok.r;dsimp only at this;omega⟩
  have e1:=hok.n
  have e2:=hok.an
  dsimp only at e1 e2
  subst e1 e2 hK
  refine (zbq (hc.block.mono fun b hb=>hb.2) (hs.block.mono fun b hb=>hb.2) hok hf.cp h1 h3 (by dsimp only at h4;omega)).mono fun e w' h=>?_
  obtain ⟨v,rfl,hb,hr⟩:=h
  exact ⟨v,rfl,hb,.inl ⟨h0,hr⟩⟩
 ·refine (zbn hc hs hf.st h0).mono fun e w' h=>?_
  obtain ⟨v,rfl,hb,hr⟩:=h
  exact ⟨v,rfl,hb,.inr ⟨h0,hr⟩⟩
theorem zcx {s:SysF} (h:buildE s.p=0):verE s=if s.tn=s.p.n∧s.tab=s.p.full.tab∧s.ex=s.p.full.ex then 0 else 3:=by unfold verE;rw[if_pos h];rfl
theorem zaN {s:SysF} (h:buildE s.p≠0):verE s=buildE s.p:=by unfold verE;rw[if_neg h]
theorem yX {S:Nat→Prop} {w:World} {v:Value} {s:SysF} (h:SysV S w v s) (hf:PFew s.p):
  Calls Tryz.prog 66 #[v] w (Post w fun _ r=>r=.int .i64 (verE s)):=by
 obtain ⟨vc,vs,vt,vx,rfl,hc,hs,ht,hx⟩:=h
 obtain ⟨ca,cc,rfl,_⟩:=hc.form
 obtain ⟨sa,sc,rfl,_⟩:=hs.form
 obtain ⟨ta,tc,rfl,_⟩:=ht.form
 obtain ⟨xa,xc,rfl,_⟩:=hx.form
 have KB:Hid (∀W,Below w.heap.size w W→Calls Tryz.prog 15 #[.agg #[.int .i64 s.p.n,.int .i64 s.p.ins,.int .i64 s.p.outs,.slice ca s.p.cs.length cc,.int .i64 s.p.an,.slice sa s.p.st.length sc,.int .i64 s.p.rounds]] W (Post W (BuildR s.p))):=zhd fun W hW=>Xm (hc.ext hW) (hs.ext hW) hf
 have HT:=zhd ht
 have HX:=zhd hx
 obtain ⟨e,he⟩:∃e,e=verE s:=⟨_,rfl⟩
 rw[←he]
 have HV1:Hid (buildE s.p=0→e=if s.tn=s.p.n∧s.tab=s.p.full.tab∧s.ex=s.p.full.ex then 0 else 3):=zhd fun h=>by rw[he];exact zcx h
 have HV2:Hid (buildE s.p≠0→e=buildE s.p):=zhd fun h=>by rw[he];exact zaN h
 clear hc hs ht hx he hf
 have ex:=zb w (.cells #[.int .i64 s.p.n,.int .i64 s.p.ins,.int .i64 s.p.outs,.slice ca s.p.cs.length cc,.int .i64 s.p.an,.slice sa s.p.st.length sc,.int .i64 s.p.rounds,.int .i64 s.tn,.slice ta s.tab.length tc,.slice xa s.ex.length xc] 39)
 have R1:=ze w [.int .i64 s.p.n,.int .i64 s.p.ins,.int .i64 s.p.outs,.slice ca s.p.cs.length cc,.int .i64 s.p.an,.slice sa s.p.st.length sc,.int .i64 s.p.rounds,.int .i64 s.tn,.slice ta s.tab.length tc,.slice xa s.ex.length xc] 39
 obtain ⟨c0,c1,c2,c3,c4,c5,c6,c7,c8,c9⟩:=R1.ten
 have hl1:=R1.lt
 go_enter Tryz.func66,Tryz.ntmps66
 go_wp2_with fail
 refine (KB.out _ ex).mono ?_
 rintro _ w1 ⟨r,rfl,hb1,hr⟩
 clear c0 c1 c2 c3 c4 c5 c6 c7 c8 c9 hl1 KB
 have ex1:=za ex hb1
 replace R1:=R1.ext hb1
 clear hb1 ex
 rcases hr with ⟨h0,v,rfl,hv⟩ | ⟨h0,rfl⟩
 case inr=>
  have RR:=zhd (HV2.out h0)
  obtain ⟨y,hy⟩:∃y,y=buildE s.p:=⟨_,rfl⟩
  rw[←hy]at RR h0 ⊢
  have d1:(y !=0)=true:=by simp[h0]
  clear hy h0 HV1 HV2
  unfold zeroSys
  go_wp2
  go_ret
  exact .mk (zg ex1 _) (zi RR.out.symm)
 have RR:=zhd (HV1.out h0)
 clear HV1 HV2 h0
 obtain ⟨vc2,vs2,vt2,vx2,rfl,hc2,hs2,ht2,hx2⟩:=hv
 obtain ⟨ca2,cc2,rfl,_⟩:=hc2.form
 obtain ⟨sa2,sc2,rfl,_⟩:=hs2.form
 obtain ⟨ta2,tc2,rfl,_⟩:=ht2.form
 obtain ⟨xa2,xc2,rfl,_⟩:=hx2.form
 have e1:s.p.full.p.n=s.p.n∧s.p.full.p.ins=s.p.ins∧s.p.full.p.outs=s.p.outs∧s.p.full.p.an=s.p.an∧s.p.full.p.rounds=s.p.rounds∧s.p.full.tn=s.p.n:=⟨rfl,rfl,rfl,rfl,rfl,rfl⟩
 rw[e1.1,e1.2.1,e1.2.2.1,e1.2.2.2.1,e1.2.2.2.2.1,e1.2.2.2.2.2]
 clear e1 hc2 hs2
 have R2:=ze w1 [.int .i64 s.p.n,.int .i64 s.p.ins,.int .i64 s.p.outs,.slice ca2 s.p.full.p.cs.length cc2,.int .i64 s.p.an,.slice sa2 s.p.full.p.st.length sc2,.int .i64 s.p.rounds,.int .i64 s.p.n,.slice ta2 s.p.full.tab.length tc2,.slice xa2 s.p.full.ex.length xc2] 39
 have KT:Hid (∀W,Below w1.heap.size w1 W→Calls Tryz.prog 96 #[.slice ta s.tab.length tc,.slice ta2 s.p.full.tab.length tc2] W (Post W fun _ r=>r=.bool (decide (s.tab=s.p.full.tab)))):=zhd fun W hW=>(zas ((HT.out.ext ex1).ext hW) (ht2.ext hW)).mono fun _ _ h=>h.post
 have KX:Hid (∀W,Below w1.heap.size w1 W→Calls Tryz.prog 97 #[.slice xa s.ex.length xc,.slice xa2 s.p.full.ex.length xc2,.func (.func 98) #[] #[]] W (Post W fun _ r=>r=.bool (decide (s.ex=s.p.full.ex)))):=zhd fun W hW=>Y0 ((HX.out.ext ex1).ext hW) (hx2.ext hW)
 obtain ⟨b1,hb1⟩:∃b,b=decide (s.tab=s.p.full.tab):=⟨_,rfl⟩
 obtain ⟨b2,hb2⟩:∃b,b=decide (s.ex=s.p.full.ex):=⟨_,rfl⟩
 have HRR:Hid (e=if s.tn=s.p.n∧b1=true∧b2=true then 0 else 3):=zhd (by rw[RR.out,hb1,hb2];simp only[decide_eq_true_eq])
 rw[←hb1]at KT
 rw[←hb2]at KX
 clear hb1 hb2 RR HT HX ht2 hx2
 have hx3:=zb w1 (.cells #[.int .i64 s.p.n,.int .i64 s.p.ins,.int .i64 s.p.outs,.slice ca2 s.p.full.p.cs.length cc2,.int .i64 s.p.an,.slice sa2 s.p.full.p.st.length sc2,.int .i64 s.p.rounds,.int .i64 s.p.n,.slice ta2 s.p.full.tab.length tc2,.slice xa2 s.p.full.ex.length xc2] 39)
 replace R1:=R1.alloc (.cells #[.int .i64 s.p.n,.int .i64 s.p.ins,.int .i64 s.p.outs,.slice ca2 s.p.full.p.cs.length cc2,.int .i64 s.p.an,.slice sa2 s.p.full.p.st.length sc2,.int .i64 s.p.rounds,.int .i64 s.p.n,.slice ta2 s.p.full.tab.length tc2,.slice xa2 s.p.full.ex.length xc2] 39)
 have ex2:=zg ex1 (.cells #[.int .i64 s.p.n,.int .i64 s.p.ins,.int .i64 s.p.outs,.slice ca2 s.p.full.p.cs.length cc2,.int .i64 s.p.an,.slice sa2 s.p.full.p.st.length sc2,.int .i64 s.p.rounds,.int .i64 s.p.n,.slice ta2 s.p.full.tab.length tc2,.slice xa2 s.p.full.ex.length xc2] 39)
 obtain ⟨n1,hn1⟩:∃n,n=s.tn:=⟨_,rfl⟩
 obtain ⟨n2,hn2⟩:∃n,n=s.p.n:=⟨_,rfl⟩
 rw[←hn1]at R1 HRR
 rw[←hn2]at R1 R2 HRR hx3 ex2 ⊢
 have c7:=R1.zc 7 rfl
 have c8:=R1.zc 8 rfl
 have d7:=R2.zc 7 rfl
 have d8:=R2.zc 8 rfl
 clear hn1 hn2 ex1
 by_cases hn:n1=n2
 case neg=>
  have d1:(n1 !=n2)=true:=by simp[hn]
  have RR:Hid (e=3):=zhd (by rw[HRR.out,if_neg (fun h=>hn h.1)])
  clear hn HRR
  go_wp2
  go_ret
  exact .mk ex2 (zi RR.out.symm)
 have d1:(n1 !=n2)=false:=by simp[hn]
 have HRB:Hid (e=if b1=true∧b2=true then 0 else 3):=zhd (by
  rw[HRR.out]
  by_cases hb:b1=true∧b2=true
  ·rw[if_pos hb,if_pos ⟨hn,hb⟩]
  ·rw[if_neg hb,if_neg fun h=>hb h.2])
 clear HRR hn
 go_wp2_with fail
 refine (KT.out _ hx3).mono ?_
 rintro _ w3 ⟨_,rfl,hb3,rfl⟩
 replace R1:=R1.ext hb3
 replace R2:=R2.ext hb3
 replace hx3:=za hx3 hb3
 replace ex2:=za ex2 hb3
 clear c7 c8 d7 d8 d1 hb3 KT
 cases b1 with
 | false=>
  have RR:Hid (e=3):=zhd (by rw[HRB.out];simp)
  go_wp2
  go_ret
  exact .mk ex2 (zi RR.out.symm)
 | true=>
  have c9:=R1.zc 9 rfl
  have d9:=R2.zc 9 rfl
  go_wp2_with fail
  refine (KX.out _ hx3).mono ?_
  rintro _ w4 ⟨_,rfl,hb4,rfl⟩
  replace ex2:=za ex2 hb4
  clear c9 d9 hb4 KX
  cases b2 with
  | false=>
   have RR:Hid (e=3):=zhd (by rw[HRB.out];simp)
   go_wp2
   go_ret
   exact .mk ex2 (zi RR.out.symm)
  | true=>
   have RR:Hid (e=0):=zhd (by rw[HRB.out];simp)
   go_wp2
   go_ret
   exact .mk ex2 (zi RR.out.symm)
end Go.Proofs.YtjpakklplhabdaaGreat
