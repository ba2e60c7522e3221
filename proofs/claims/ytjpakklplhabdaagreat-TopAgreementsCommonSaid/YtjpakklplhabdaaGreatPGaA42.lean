/- Part of the proof that the laws answer true for every input. -/
import Derived.Test.YtjpakklplhabdaaGreatPGaA40
set_option linter.unusedSimpArgs false
set_option linter.unnecessarySimpa false
set_option linter.unusedVariables false
set_option maxRecDepth 100000
set_option maxHeartbeats 40000000
namespace Go.Proofs.YtjpakklplhabdaaGreat
open Go.RowKit
attribute [local go_sem ↓] Go.wp_at_zero Go.wp_at_succ
def TryQ (p:ProbD) (ch:List Int) (w':World) (r:Value):Prop:=∃v b,r=.tuple #[v,.bool b]∧(b=true→SysV TT w' v p.full∧RightP p∧verE p.full=0∧ruleE p.full ch=0∧failE p.full ch<0)∧∃s,SysV TT w' v s
theorem QE {S S2':Nat→Prop} {w:World} {vc vs vch:Value} {p:ProbD} {ch:List Int} (hc:Sl kCase S w vc p.cs) (hs:Sl (kSl (kFlat 8)) S w vs p.st) (h2:Ints S2' w vch ch):
  Calls Tryz.prog 5 #[.agg #[.int .i64 p.n,.int .i64 p.ins,.int .i64 p.outs,vc,.int .i64 p.an,vs,.int .i64 p.rounds],.agg #[vch]] w (Post w (TryQ p ch)):=by
 obtain ⟨ca,cc,rfl,_⟩:=hc.form
 obtain ⟨sa,sc,rfl,_⟩:=hs.form
 obtain ⟨a2,c2,rfl,_⟩:=h2.form
 have KR:Hid (∀W,Below w.heap.size w W→Calls Tryz.prog 17 #[.agg #[.int .i64 p.n,.int .i64 p.ins,.int .i64 p.outs,.slice ca p.cs.length cc,.int .i64 p.an,.slice sa p.st.length sc,.int .i64 p.rounds]] W (Post W fun _ r=>Tells (RightP p) r)):=zhd fun W hW=>zaB (hc.ext hW) (hs.ext hW)
 have KB:Hid (RightP p→∀W,Below w.heap.size w W→Calls Tryz.prog 15 #[.agg #[.int .i64 p.n,.int .i64 p.ins,.int .i64 p.outs,.slice ca p.cs.length cc,.int .i64 p.an,.slice sa p.st.length sc,.int .i64 p.rounds]] W (Post W fun w' r=>∃v,r=.tuple #[v,.int .i64 0]∧SysV (fun b=>((S b∧b<w.heap.size)∧b<W.heap.size)∨W.heap.size≤b) w' v p.full)):=zhd fun hr W hW=>pbuild25 (hc.block.ext hW) (hs.block.ext hW) hr.1.few hr.2
 have HI2:=zhd h2
 have ex:=zg (zg (zb w (.cells #[.int .i64 p.n,.int .i64 p.ins,.int .i64 p.outs,.slice ca p.cs.length cc,.int .i64 p.an,.slice sa p.st.length sc,.int .i64 p.rounds] 29)) (.cells #[.slice a2 ch.length c2] 32)) (.cells #[.int .i64 0,.int .i64 0,.int .i64 0,.slice none 0 0,.int .i64 0,.slice none 0 0,.int .i64 0,.int .i64 0,.slice none 0 0,.slice none 0 0] 39)
 have R1:=((ze w [.int .i64 p.n,.int .i64 p.ins,.int .i64 p.outs,.slice ca p.cs.length cc,.int .i64 p.an,.slice sa p.st.length sc,.int .i64 p.rounds] 29).alloc (.cells #[.slice a2 ch.length c2] 32)).alloc (.cells #[.int .i64 0,.int .i64 0,.int .i64 0,.slice none 0 0,.int .i64 0,.slice none 0 0,.int .i64 0,.int .i64 0,.slice none 0 0,.slice none 0 0] 39)
 have RU1:=(ze (w.alloc (.cells #[.int .i64 p.n,.int .i64 p.ins,.int .i64 p.outs,.slice ca p.cs.length cc,.int .i64 p.an,.slice sa p.st.length sc,.int .i64 p.rounds] 29)) [.slice a2 ch.length c2] 32).alloc (.cells #[.int .i64 0,.int .i64 0,.int .i64 0,.slice none 0 0,.int .i64 0,.slice none 0 0,.int .i64 0,.int .i64 0,.slice none 0 0,.slice none 0 0] 39)
 have RS:=ze ((w.alloc (.cells #[.int .i64 p.n,.int .i64 p.ins,.int .i64 p.outs,.slice ca p.cs.length cc,.int .i64 p.an,.slice sa p.st.length sc,.int .i64 p.rounds] 29)).alloc (.cells #[.slice a2 ch.length c2] 32)) [.int .i64 0,.int .i64 0,.int .i64 0,.slice none 0 0,.int .i64 0,.slice none 0 0,.int .i64 0,.int .i64 0,.slice none 0 0,.slice none 0 0] 39
 simp only[World.size_alloc]at RS RU1
 obtain ⟨S2,hS2'⟩:∃S2,S2=w.heap.size+1+1:=⟨_,rfl⟩
 obtain ⟨B1,hB1'⟩:∃B1,B1=w.heap.size+1:=⟨_,rfl⟩
 have hS2:w.heap.size≤S2:=by omega
 have hB1S:S2≠B1:=by omega
 rw[←hS2']at RS
 rw[←hB1']at RU1
 have HS2:=zhd hS2'
 have HB1:=zhd hB1'
 have hcl:(ch.length:Int)≤9223372036854775807:=by
  obtain ⟨_,_,hee,_,l1,l2⟩:=h2.form
  cases hee
  unfold maxLen at l2
  omega
 clear hc hs h2 hS2' hB1'
 have c0:=R1.zc 0 rfl
 have c1:=R1.zc 1 rfl
 have c2x:=R1.zc 2 rfl
 have c3:=R1.zc 3 rfl
 have c4:=R1.zc 4 rfl
 have c5:=R1.zc 5 rfl
 have c6:=R1.zc 6 rfl
 have lR1:=R1.lt
 have u0:=RU1.zc 0 rfl
 have lu:=RU1.lt
 go_enter Tryz.func5,Tryz.ntmps5
 go_wp2_with fail
 refine (KR.out _ ex).mono ?_
 rintro _ w1 ⟨_,rfl,hb1,b0,rfl,hb0⟩
 replace R1:=R1.ext hb1
 replace RU1:=RU1.ext hb1
 replace RS:=RS.ext hb1
 replace ex:=za ex hb1
 clear c0 c1 c2x c3 c4 c5 c6 lR1 hb1 KR u0 lu
 rw[←HS2.out,←HB1.out]
 cases b0 with
 | false=>
  clear R1 RU1
  obtain ⟨d0,d1,d2,d3,d4,d5,d6,d7,d8,d9⟩:=RS.ten
  have f0:=RS.free 0
  have f1:=RS.free 1
  have f2:=RS.free 2
  have f3:=RS.free 3
  have f4:=RS.free 4
  have f5:=RS.free 5
  have f6:=RS.free 6
  have f7:=RS.free 7
  have f8:=RS.free 8
  have f9:=RS.free 9
  have l2:=RS.lt
  have HRS:=zhd (RS.sets [(0,.int .i64 0),(1,.int .i64 0),(2,.int .i64 0),(3,.slice none 0 0),(4,.int .i64 0),(5,.slice none 0 0),(6,.int .i64 0),(7,.int .i64 0),(8,.slice none 0 0),(9,.slice none 0 0)])
  have HBS:=zhd (zD hS2 [(0,.int .i64 0),(1,.int .i64 0),(2,.int .i64 0),(3,.slice none 0 0),(4,.int .i64 0),(5,.slice none 0 0),(6,.int .i64 0),(7,.int .i64 0),(8,.slice none 0 0),(9,.slice none 0 0)] w1 ex)
  obtain ⟨W7,hW7⟩:∃W7,W7=sets S2 [(0,.int .i64 0),(1,.int .i64 0),(2,.int .i64 0),(3,.slice none 0 0),(4,.int .i64 0),(5,.slice none 0 0),(6,.int .i64 0),(7,.int .i64 0),(8,.slice none 0 0),(9,.slice none 0 0)] w1:=⟨_,rfl⟩
  rw[←hW7]at HRS HBS
  unfold sets at hW7
  simp only[List.foldl_cons,List.foldl_nil]at hW7
  clear RS
  go_wp2
  rw[←hW7]
  clear hW7
  have q0:W7.cell? ⟨S2,0,none⟩=some _:=HRS.out.zc 0 rfl
  have q1:W7.cell? ⟨S2,1,none⟩=some _:=HRS.out.zc 1 rfl
  have q2:W7.cell? ⟨S2,2,none⟩=some _:=HRS.out.zc 2 rfl
  have q3:W7.cell? ⟨S2,3,none⟩=some _:=HRS.out.zc 3 rfl
  have q4:W7.cell? ⟨S2,4,none⟩=some _:=HRS.out.zc 4 rfl
  have q5:W7.cell? ⟨S2,5,none⟩=some _:=HRS.out.zc 5 rfl
  have q6:W7.cell? ⟨S2,6,none⟩=some _:=HRS.out.zc 6 rfl
  have q7:W7.cell? ⟨S2,7,none⟩=some _:=HRS.out.zc 7 rfl
  have q8:W7.cell? ⟨S2,8,none⟩=some _:=HRS.out.zc 8 rfl
  have q9:W7.cell? ⟨S2,9,none⟩=some _:=HRS.out.zc 9 rfl
  refine bodyPost_ret (v:=.tuple #[.agg #[.int .i64 0,.int .i64 0,.int .i64 0,.slice none 0 0,.int .i64 0,.slice none 0 0,.int .i64 0,.int .i64 0,.slice none 0 0,.slice none 0 0],.bool false]) (by simp[results,Tryz.results5,go_sem,q0,q1,q2,q3,q4,q5,q6,q7,q8,q9]) rfl ?_
  exact .mk HBS.out ⟨_,_,rfl,fun h=>by simp at h,⟨⟨0,0,0,[],0,[],0⟩,0,[],[]⟩,_,_,_,_,rfl,Sl.nil _ _ _,Sl.nil _ _ _,Sl.nil _ _ _,Sl.nil _ _ _⟩
 | true=>
 have HR:=zhd (hb0 rfl)
 clear hb0
 have u0:=RU1.zc 0 rfl
 have lu:=RU1.lt
 by_cases hch:2000<ch.length
 ·have dch:(2000:Int)<(ch.length:Int):=by omega
  clear R1
  obtain ⟨d0,d1,d2,d3,d4,d5,d6,d7,d8,d9⟩:=RS.ten
  have f0:=RS.free 0
  have f1:=RS.free 1
  have f2:=RS.free 2
  have f3:=RS.free 3
  have f4:=RS.free 4
  have f5:=RS.free 5
  have f6:=RS.free 6
  have f7:=RS.free 7
  have f8:=RS.free 8
  have f9:=RS.free 9
  have l2:=RS.lt
  have HRS:=zhd (RS.sets [(0,.int .i64 0),(1,.int .i64 0),(2,.int .i64 0),(3,.slice none 0 0),(4,.int .i64 0),(5,.slice none 0 0),(6,.int .i64 0),(7,.int .i64 0),(8,.slice none 0 0),(9,.slice none 0 0)])
  have HBS:=zhd (zD hS2 [(0,.int .i64 0),(1,.int .i64 0),(2,.int .i64 0),(3,.slice none 0 0),(4,.int .i64 0),(5,.slice none 0 0),(6,.int .i64 0),(7,.int .i64 0),(8,.slice none 0 0),(9,.slice none 0 0)] w1 ex)
  obtain ⟨W7,hW7⟩:∃W7,W7=sets S2 [(0,.int .i64 0),(1,.int .i64 0),(2,.int .i64 0),(3,.slice none 0 0),(4,.int .i64 0),(5,.slice none 0 0),(6,.int .i64 0),(7,.int .i64 0),(8,.slice none 0 0),(9,.slice none 0 0)] w1:=⟨_,rfl⟩
  rw[←hW7]at HRS HBS
  unfold sets at hW7
  simp only[List.foldl_cons,List.foldl_nil]at hW7
  clear RS
  go_wp2
  rw[←hW7]
  clear hW7
  have q0:W7.cell? ⟨S2,0,none⟩=some _:=HRS.out.zc 0 rfl
  have q1:W7.cell? ⟨S2,1,none⟩=some _:=HRS.out.zc 1 rfl
  have q2:W7.cell? ⟨S2,2,none⟩=some _:=HRS.out.zc 2 rfl
  have q3:W7.cell? ⟨S2,3,none⟩=some _:=HRS.out.zc 3 rfl
  have q4:W7.cell? ⟨S2,4,none⟩=some _:=HRS.out.zc 4 rfl
  have q5:W7.cell? ⟨S2,5,none⟩=some _:=HRS.out.zc 5 rfl
  have q6:W7.cell? ⟨S2,6,none⟩=some _:=HRS.out.zc 6 rfl
  have q7:W7.cell? ⟨S2,7,none⟩=some _:=HRS.out.zc 7 rfl
  have q8:W7.cell? ⟨S2,8,none⟩=some _:=HRS.out.zc 8 rfl
  have q9:W7.cell? ⟨S2,9,none⟩=some _:=HRS.out.zc 9 rfl
  refine bodyPost_ret (v:=.tuple #[.agg #[.int .i64 0,.int .i64 0,.int .i64 0,.slice none 0 0,.int .i64 0,.slice none 0 0,.int .i64 0,.int .i64 0,.slice none 0 0,.slice none 0 0],.bool false]) (by simp[results,Tryz.results5,go_sem,q0,q1,q2,q3,q4,q5,q6,q7,q8,q9]) rfl ?_
  exact .mk HBS.out ⟨_,_,rfl,fun h=>by simp at h,⟨⟨0,0,0,[],0,[],0⟩,0,[],[]⟩,_,_,_,_,rfl,Sl.nil _ _ _,Sl.nil _ _ _,Sl.nil _ _ _,Sl.nil _ _ _⟩
 have dch:¬((2000:Int)<(ch.length:Int)):=by omega
 have c0:=R1.zc 0 rfl
 have c1:=R1.zc 1 rfl
 have c2x:=R1.zc 2 rfl
 have c3:=R1.zc 3 rfl
 have c4:=R1.zc 4 rfl
 have c5:=R1.zc 5 rfl
 have c6:=R1.zc 6 rfl
 have lR1:=R1.lt
 go_wp2_with fail
 refine (KB.out HR.out _ ex).mono ?_
 rintro _ w3 ⟨_,rfl,hb3,bv,rfl,hsy0⟩
 have hlt1:=RS.lt
 have hsy:SysV (fun b=>b≠S2) w3 bv p.full:=hsy0.mono fun b hb=>by have:=HS2.out;rcases hb with h | h<;>omega
 clear hsy0 c0 c1 c2x c3 c4 c5 c6 lR1 KB R1 u0 lu
 replace RS:=RS.ext hb3
 replace RU1:=RU1.ext hb3
 replace ex:=za ex hb3
 have h:=hsy
 obtain ⟨vc,vs,vt,vx,rfl,hc,hs,ht,hx⟩:=h
 obtain ⟨ca2,cc2,rfl,_⟩:=hc.form
 obtain ⟨sa2,sc2,rfl,_⟩:=hs.form
 obtain ⟨ta2,tc2,rfl,_⟩:=ht.form
 obtain ⟨xa2,xc2,rfl,_⟩:=hx.form2
 have e4:=zb w3 (.cells #[.int .i64 p.full.p.n,.int .i64 p.full.p.ins,.int .i64 p.full.p.outs,.slice ca2 p.full.p.cs.length cc2,.int .i64 p.full.p.an,.slice sa2 p.full.p.st.length sc2,.int .i64 p.full.p.rounds,.int .i64 p.full.tn,.slice ta2 p.full.tab.length tc2,.slice xa2 p.full.ex.length xc2] 39)
 have HSY:=zhd (hsy.ext e4)
 have R7:=ze w3 [.int .i64 p.full.p.n,.int .i64 p.full.p.ins,.int .i64 p.full.p.outs,.slice ca2 p.full.p.cs.length cc2,.int .i64 p.full.p.an,.slice sa2 p.full.p.st.length sc2,.int .i64 p.full.p.rounds,.int .i64 p.full.tn,.slice ta2 p.full.tab.length tc2,.slice xa2 p.full.ex.length xc2] 39
 have hw3:=RS.lt
 replace RS:=RS.alloc (.cells #[.int .i64 p.full.p.n,.int .i64 p.full.p.ins,.int .i64 p.full.p.outs,.slice ca2 p.full.p.cs.length cc2,.int .i64 p.full.p.an,.slice sa2 p.full.p.st.length sc2,.int .i64 p.full.p.rounds,.int .i64 p.full.tn,.slice ta2 p.full.tab.length tc2,.slice xa2 p.full.ex.length xc2] 39)
 replace RU1:=RU1.alloc (.cells #[.int .i64 p.full.p.n,.int .i64 p.full.p.ins,.int .i64 p.full.p.outs,.slice ca2 p.full.p.cs.length cc2,.int .i64 p.full.p.an,.slice sa2 p.full.p.st.length sc2,.int .i64 p.full.p.rounds,.int .i64 p.full.tn,.slice ta2 p.full.tab.length tc2,.slice xa2 p.full.ex.length xc2] 39)
 replace ex:=zg ex (.cells #[.int .i64 p.full.p.n,.int .i64 p.full.p.ins,.int .i64 p.full.p.outs,.slice ca2 p.full.p.cs.length cc2,.int .i64 p.full.p.an,.slice sa2 p.full.p.st.length sc2,.int .i64 p.full.p.rounds,.int .i64 p.full.tn,.slice ta2 p.full.tab.length tc2,.slice xa2 p.full.ex.length xc2] 39)
 have HFS:Hid (SmallP p.full.p):=zhd HR.out.1.few.small
 have HVE:=zhd (full25 HR.out.2)
 clear hsy hc hs ht hx e4 hb3 hlt1
 go_upto_region 4 with fail
 obtain ⟨w4,hw4⟩:∃w4,w4=w3.alloc (.cells #[.int .i64 p.full.p.n,.int .i64 p.full.p.ins,.int .i64 p.full.p.outs,.slice ca2 p.full.p.cs.length cc2,.int .i64 p.full.p.an,.slice sa2 p.full.p.st.length sc2,.int .i64 p.full.p.rounds,.int .i64 p.full.tn,.slice ta2 p.full.tab.length tc2,.slice xa2 p.full.ex.length xc2] 39):=⟨_,rfl⟩
 obtain ⟨B7,hB7⟩:∃B7,B7=w3.heap.size:=⟨_,rfl⟩
 rw[←hw4]at R7 RS RU1 ex HSY
 rw[←hB7]at R7
 have hB7n:S2≠B7:=by omega
 rw[←hw4,←hB7]
 clear hw4 hB7 hw3
 have d00:((0:Int) !=0)=false:=rfl
 have KC:Hid (∀W,Below w4.heap.size w4 W→Calls Tryz.prog 18 #[.agg #[.int .i64 p.full.p.n,.int .i64 p.full.p.ins,.int .i64 p.full.p.outs,.slice ca2 p.full.p.cs.length cc2,.int .i64 p.full.p.an,.slice sa2 p.full.p.st.length sc2,.int .i64 p.full.p.rounds,.int .i64 p.full.tn,.slice ta2 p.full.tab.length tc2,.slice xa2 p.full.ex.length xc2],.agg #[.slice a2 ch.length c2]] W (Post W fun _ r=>r=.int .i64 (ruleE p.full ch))):=zhd fun W hW=>Qr (HSY.out.ext hW) HFS.out (HI2.out.ext (za ex hW))
 have KF:Hid (ruleE p.full ch=0→∀W,Below w4.heap.size w4 W→Calls Tryz.prog 19 #[.agg #[.int .i64 p.full.p.n,.int .i64 p.full.p.ins,.int .i64 p.full.p.outs,.slice ca2 p.full.p.cs.length cc2,.int .i64 p.full.p.an,.slice sa2 p.full.p.st.length sc2,.int .i64 p.full.p.rounds,.int .i64 p.full.tn,.slice ta2 p.full.tab.length tc2,.slice xa2 p.full.ex.length xc2],.agg #[.slice a2 ch.length c2]] W (Post W fun _ r=>r=.int .i64 (failE p.full ch))):=zhd fun h0 W hW=>Xe (HSY.out.ext hW) (qF HVE.out HSY.out.moves8) (HI2.out.ext (za ex hW)) (xf h0).2.1
 obtain ⟨eR,heR⟩:∃eR,eR=ruleE p.full ch:=⟨_,rfl⟩
 obtain ⟨eF,heF⟩:∃eF,eF=failE p.full ch:=⟨_,rfl⟩
 rw[←heR]at KC KF
 rw[←heF]at KF
 have HER:=zhd heR
 have HEF:=zhd heF
 have T0:=Below.refl w4.heap.size w4
 clear heR heF HFS HI2
 obtain ⟨s0,s1,s2,s3,s4,s5,s6,s7,s8,s9⟩:=R7.ten
 have ls:=R7.lt
 have u0:=RU1.zc 0 rfl
 have lu:=RU1.lt
 go_wp2_with fail
 refine (KC.out _ T0).mono ?_
 rintro _ w5 ⟨_,rfl,hb,rfl⟩
 replace RS:=RS.ext hb
 replace R7:=R7.ext hb
 replace RU1:=RU1.ext hb
 replace HSY:=zhd (HSY.out.ext hb)
 replace ex:=za ex hb
 replace T0:=za T0 hb
 clear hb KC s0 s1 s2 s3 s4 s5 s6 s7 s8 s9 ls u0 lu
 by_cases he:eR=0
 case neg=>
  have de:(eR !=0)=true:=by simp[he]
  clear he KF R7 RU1 HSY
  obtain ⟨d0,d1,d2,d3,d4,d5,d6,d7,d8,d9⟩:=RS.ten
  have f0:=RS.free 0
  have f1:=RS.free 1
  have f2:=RS.free 2
  have f3:=RS.free 3
  have f4:=RS.free 4
  have f5:=RS.free 5
  have f6:=RS.free 6
  have f7:=RS.free 7
  have f8:=RS.free 8
  have f9:=RS.free 9
  have l2:=RS.lt
  have HRS:=zhd (RS.sets [(0,.int .i64 0),(1,.int .i64 0),(2,.int .i64 0),(3,.slice none 0 0),(4,.int .i64 0),(5,.slice none 0 0),(6,.int .i64 0),(7,.int .i64 0),(8,.slice none 0 0),(9,.slice none 0 0)])
  have HBS:=zhd (zD hS2 [(0,.int .i64 0),(1,.int .i64 0),(2,.int .i64 0),(3,.slice none 0 0),(4,.int .i64 0),(5,.slice none 0 0),(6,.int .i64 0),(7,.int .i64 0),(8,.slice none 0 0),(9,.slice none 0 0)] w5 ex)
  obtain ⟨W7,hW7⟩:∃W7,W7=sets S2 [(0,.int .i64 0),(1,.int .i64 0),(2,.int .i64 0),(3,.slice none 0 0),(4,.int .i64 0),(5,.slice none 0 0),(6,.int .i64 0),(7,.int .i64 0),(8,.slice none 0 0),(9,.slice none 0 0)] w5:=⟨_,rfl⟩
  rw[←hW7]at HRS HBS
  unfold sets at hW7
  simp only[List.foldl_cons,List.foldl_nil]at hW7
  clear RS
  go_wp2
  rw[←hW7]
  clear hW7
  have q0:W7.cell? ⟨S2,0,none⟩=some _:=HRS.out.zc 0 rfl
  have q1:W7.cell? ⟨S2,1,none⟩=some _:=HRS.out.zc 1 rfl
  have q2:W7.cell? ⟨S2,2,none⟩=some _:=HRS.out.zc 2 rfl
  have q3:W7.cell? ⟨S2,3,none⟩=some _:=HRS.out.zc 3 rfl
  have q4:W7.cell? ⟨S2,4,none⟩=some _:=HRS.out.zc 4 rfl
  have q5:W7.cell? ⟨S2,5,none⟩=some _:=HRS.out.zc 5 rfl
  have q6:W7.cell? ⟨S2,6,none⟩=some _:=HRS.out.zc 6 rfl
  have q7:W7.cell? ⟨S2,7,none⟩=some _:=HRS.out.zc 7 rfl
  have q8:W7.cell? ⟨S2,8,none⟩=some _:=HRS.out.zc 8 rfl
  have q9:W7.cell? ⟨S2,9,none⟩=some _:=HRS.out.zc 9 rfl
  refine bodyPost_ret (v:=.tuple #[.agg #[.int .i64 0,.int .i64 0,.int .i64 0,.slice none 0 0,.int .i64 0,.slice none 0 0,.int .i64 0,.int .i64 0,.slice none 0 0,.slice none 0 0],.bool false]) (by simp[results,Tryz.results5,go_sem,q0,q1,q2,q3,q4,q5,q6,q7,q8,q9]) rfl ?_
  exact .mk HBS.out ⟨_,_,rfl,fun h=>by simp at h,⟨⟨0,0,0,[],0,[],0⟩,0,[],[]⟩,_,_,_,_,rfl,Sl.nil _ _ _,Sl.nil _ _ _,Sl.nil _ _ _,Sl.nil _ _ _⟩
 subst he
 obtain ⟨s0,s1,s2,s3,s4,s5,s6,s7,s8,s9⟩:=R7.ten
 have ls:=R7.lt
 have u0:=RU1.zc 0 rfl
 have lu:=RU1.lt
 go_wp2_with fail
 refine (KF.out (by first | exact trivial | rfl) _ T0).mono ?_
 rintro _ w6 ⟨_,rfl,hb,rfl⟩
 replace RS:=RS.ext hb
 replace R7:=R7.ext hb
 replace HSY:=zhd (HSY.out.ext hb)
 replace ex:=za ex hb
 clear hb KF s0 s1 s2 s3 s4 s5 s6 s7 s8 s9 ls u0 lu T0 RU1
 by_cases hf:0≤eF
 case pos=>
  clear R7 HSY
  obtain ⟨d0,d1,d2,d3,d4,d5,d6,d7,d8,d9⟩:=RS.ten
  have f0:=RS.free 0
  have f1:=RS.free 1
  have f2:=RS.free 2
  have f3:=RS.free 3
  have f4:=RS.free 4
  have f5:=RS.free 5
  have f6:=RS.free 6
  have f7:=RS.free 7
  have f8:=RS.free 8
  have f9:=RS.free 9
  have l2:=RS.lt
  have HRS:=zhd (RS.sets [(0,.int .i64 0),(1,.int .i64 0),(2,.int .i64 0),(3,.slice none 0 0),(4,.int .i64 0),(5,.slice none 0 0),(6,.int .i64 0),(7,.int .i64 0),(8,.slice none 0 0),(9,.slice none 0 0)])
  have HBS:=zhd (zD hS2 [(0,.int .i64 0),(1,.int .i64 0),(2,.int .i64 0),(3,.slice none 0 0),(4,.int .i64 0),(5,.slice none 0 0),(6,.int .i64 0),(7,.int .i64 0),(8,.slice none 0 0),(9,.slice none 0 0)] w6 ex)
  obtain ⟨W7,hW7⟩:∃W7,W7=sets S2 [(0,.int .i64 0),(1,.int .i64 0),(2,.int .i64 0),(3,.slice none 0 0),(4,.int .i64 0),(5,.slice none 0 0),(6,.int .i64 0),(7,.int .i64 0),(8,.slice none 0 0),(9,.slice none 0 0)] w6:=⟨_,rfl⟩
  rw[←hW7]at HRS HBS
  unfold sets at hW7
  simp only[List.foldl_cons,List.foldl_nil]at hW7
  clear RS
  go_wp2
  rw[←hW7]
  clear hW7
  have q0:W7.cell? ⟨S2,0,none⟩=some _:=HRS.out.zc 0 rfl
  have q1:W7.cell? ⟨S2,1,none⟩=some _:=HRS.out.zc 1 rfl
  have q2:W7.cell? ⟨S2,2,none⟩=some _:=HRS.out.zc 2 rfl
  have q3:W7.cell? ⟨S2,3,none⟩=some _:=HRS.out.zc 3 rfl
  have q4:W7.cell? ⟨S2,4,none⟩=some _:=HRS.out.zc 4 rfl
  have q5:W7.cell? ⟨S2,5,none⟩=some _:=HRS.out.zc 5 rfl
  have q6:W7.cell? ⟨S2,6,none⟩=some _:=HRS.out.zc 6 rfl
  have q7:W7.cell? ⟨S2,7,none⟩=some _:=HRS.out.zc 7 rfl
  have q8:W7.cell? ⟨S2,8,none⟩=some _:=HRS.out.zc 8 rfl
  have q9:W7.cell? ⟨S2,9,none⟩=some _:=HRS.out.zc 9 rfl
  refine bodyPost_ret (v:=.tuple #[.agg #[.int .i64 0,.int .i64 0,.int .i64 0,.slice none 0 0,.int .i64 0,.slice none 0 0,.int .i64 0,.int .i64 0,.slice none 0 0,.slice none 0 0],.bool false]) (by simp[results,Tryz.results5,go_sem,q0,q1,q2,q3,q4,q5,q6,q7,q8,q9]) rfl ?_
  exact .mk HBS.out ⟨_,_,rfl,fun h=>by simp at h,⟨⟨0,0,0,[],0,[],0⟩,0,[],[]⟩,_,_,_,_,rfl,Sl.nil _ _ _,Sl.nil _ _ _,Sl.nil _ _ _,Sl.nil _ _ _⟩
 have hf':¬(0≤eF):=hf
 have HNEG:Hid (eF<0):=zhd (by omega)
 obtain ⟨s0,s1,s2,s3,s4,s5,s6,s7,s8,s9⟩:=R7.ten
 have ls:=R7.lt
 obtain ⟨d0,d1,d2,d3,d4,d5,d6,d7,d8,d9⟩:=RS.ten
 have f0:=RS.free 0
 have f1:=RS.free 1
 have f2:=RS.free 2
 have f3:=RS.free 3
 have f4:=RS.free 4
 have f5:=RS.free 5
 have f6:=RS.free 6
 have f7:=RS.free 7
 have f8:=RS.free 8
 have f9:=RS.free 9
 have l2:=RS.lt
 have HRS:=zhd (RS.sets [(0,.int .i64 p.full.p.n),(1,.int .i64 p.full.p.ins),(2,.int .i64 p.full.p.outs),(3,.slice ca2 p.full.p.cs.length cc2),(4,.int .i64 p.full.p.an),(5,.slice sa2 p.full.p.st.length sc2),(6,.int .i64 p.full.p.rounds),(7,.int .i64 p.full.tn),(8,.slice ta2 p.full.tab.length tc2),(9,.slice xa2 p.full.ex.length xc2)])
 have HBS:=zhd (zD hS2 [(0,.int .i64 p.full.p.n),(1,.int .i64 p.full.p.ins),(2,.int .i64 p.full.p.outs),(3,.slice ca2 p.full.p.cs.length cc2),(4,.int .i64 p.full.p.an),(5,.slice sa2 p.full.p.st.length sc2),(6,.int .i64 p.full.p.rounds),(7,.int .i64 p.full.tn),(8,.slice ta2 p.full.tab.length tc2),(9,.slice xa2 p.full.ex.length xc2)] w6 ex)
 have HFI:=zhd ((HSY.out.agree (zQ S2 [(0,.int .i64 p.full.p.n),(1,.int .i64 p.full.p.ins),(2,.int .i64 p.full.p.outs),(3,.slice ca2 p.full.p.cs.length cc2),(4,.int .i64 p.full.p.an),(5,.slice sa2 p.full.p.st.length sc2),(6,.int .i64 p.full.p.rounds),(7,.int .i64 p.full.tn),(8,.slice ta2 p.full.tab.length tc2),(9,.slice xa2 p.full.ex.length xc2)] w6)).mono (S':=TT) fun _ _=>trivial)
 obtain ⟨W7,hW7⟩:∃W7,W7=sets S2 [(0,.int .i64 p.full.p.n),(1,.int .i64 p.full.p.ins),(2,.int .i64 p.full.p.outs),(3,.slice ca2 p.full.p.cs.length cc2),(4,.int .i64 p.full.p.an),(5,.slice sa2 p.full.p.st.length sc2),(6,.int .i64 p.full.p.rounds),(7,.int .i64 p.full.tn),(8,.slice ta2 p.full.tab.length tc2),(9,.slice xa2 p.full.ex.length xc2)] w6:=⟨_,rfl⟩
 rw[←hW7]at HRS HBS HFI
 unfold sets at hW7
 simp only[List.foldl_cons,List.foldl_nil]at hW7
 clear RS R7 HSY
 go_wp2
 rw[←hW7]
 clear hW7
 have q0:W7.cell? ⟨S2,0,none⟩=some _:=HRS.out.zc 0 rfl
 have q1:W7.cell? ⟨S2,1,none⟩=some _:=HRS.out.zc 1 rfl
 have q2:W7.cell? ⟨S2,2,none⟩=some _:=HRS.out.zc 2 rfl
 have q3:W7.cell? ⟨S2,3,none⟩=some _:=HRS.out.zc 3 rfl
 have q4:W7.cell? ⟨S2,4,none⟩=some _:=HRS.out.zc 4 rfl
 have q5:W7.cell? ⟨S2,5,none⟩=some _:=HRS.out.zc 5 rfl
 have q6:W7.cell? ⟨S2,6,none⟩=some _:=HRS.out.zc 6 rfl
 have q7:W7.cell? ⟨S2,7,none⟩=some _:=HRS.out.zc 7 rfl
 have q8:W7.cell? ⟨S2,8,none⟩=some _:=HRS.out.zc 8 rfl
 have q9:W7.cell? ⟨S2,9,none⟩=some _:=HRS.out.zc 9 rfl
 refine bodyPost_ret (v:=.tuple #[.agg #[.int .i64 p.full.p.n,.int .i64 p.full.p.ins,.int .i64 p.full.p.outs,.slice ca2 p.full.p.cs.length cc2,.int .i64 p.full.p.an,.slice sa2 p.full.p.st.length sc2,.int .i64 p.full.p.rounds,.int .i64 p.full.tn,.slice ta2 p.full.tab.length tc2,.slice xa2 p.full.ex.length xc2],.bool true]) (by simp[results,Tryz.results5,go_sem,q0,q1,q2,q3,q4,q5,q6,q7,q8,q9]) rfl ?_
 exact .mk HBS.out ⟨_,_,rfl,fun _=>⟨HFI.out,HR.out,HVE.out,HER.out.symm,by rw[←HEF.out];exact HNEG.out⟩,p.full,HFI.out⟩
end Go.Proofs.YtjpakklplhabdaaGreat
namespace Go.Proofs.YtjpakklplhabdaaGreat
def setX (s:SysF) (ch:List Int) (d:Int) (x:Nat):List Bool:=(List.range (pntN s)).map fun i=>decide (i / (s.K+1)<x)&&setB s ch d i
theorem yu (s:SysF) (ch:List Int) (d:Int) (x:Nat):(setX s ch d x).length=pntN s:=by simp[setX]
theorem Yx {s:SysF} {ch:List Int} {d:Int} {x i:Nat} (h:i<pntN s):nthB (setX s ch d x) i=(decide (i / (s.K+1)<x)&&setB s ch d i):=by simp[setX,nthB,h]
theorem zc6 (s:SysF) (ch:List Int) (d:Int):setX s ch d 0=List.replicate (pntN s) false:=yr (by rw[yu,List.length_replicate]) fun i hi=>by
 rw[yu]at hi
 rw[Yx hi]
 simp[nthB,hi]
theorem zdL (s:SysF) (ch:List Int) (d:Int):setX s ch d s.ex.length=setL s ch d:=yr (by rw[yu,xA]) fun i hi=>by
 rw[yu]at hi
 rw[Yx hi,zat hi,decide_eq_true (Q6 hi).1,Bool.true_and]
theorem zdv {s:SysF} {ch:List Int} {d:Int} {x:Nat} (hl:(finL s x).length=s.N):(!(valsL ch (finL s x)).any fun y=> !decide (y=d))=(List.range s.N).all fun q=>decide (decV s ch x q=d):=by
 rw[Bool.eq_iff_iff,Bool.not_eq_true',List.any_eq_false,List.all_eq_true]
 constructor
 ·intro h q hq
  have hq:=List.mem_range.1 hq
  have:=h (nth (valsL ch (finL s x)) q) (by rw[yq (by rw[yO];omega)];exact List.getElem_mem _)
  rw[Yv (by omega)]at this
  rw[decide_eq_true_iff]
  simpa[decV] using this
 ·intro h y hy
  obtain ⟨q,hq,rfl⟩:=List.getElem_of_mem hy
  rw[yO]at hq
  have:=h q (List.mem_range.2 (by omega))
  rw[←yq (by rw[yO];exact hq),Yv hq]
  rw[decide_eq_true_iff]at this
  simpa[decV] using this
theorem zaR {s:SysF} {x:Nat} (hx:x<s.ex.length):x * (s.K+1)+s.K<pntN s:=by
 have h1:(x+1) * (s.K+1)≤s.ex.length * (s.K+1):=Nat.mul_le_mul hx (Nat.le_refl _)
 rw[Nat.succ_mul]at h1
 unfold pntN
 omega
theorem zc4 {s:SysF} {ch:List Int} {d:Int} {x:Nat} (hl:(finL s x).length=s.N) (hx:x<s.ex.length):
  setX s ch d (x+1)=(setX s ch d x).set (x * (s.K+1)+s.K) (!(valsL ch (finL s x)).any fun y=> !decide (y=d)):=by
 have hp:=zaR hx
 have d1:(x * (s.K+1)+s.K) / (s.K+1)=x:=by rw[Nat.mul_comm,Nat.mul_add_div (by omega),Nat.div_eq_of_lt (by omega),Nat.add_zero]
 have d2:(x * (s.K+1)+s.K) % (s.K+1)=s.K:=by rw[Nat.mul_comm,Nat.mul_add_mod,Nat.mod_eq_of_lt (by omega)]
 refine yr (by rw[List.length_set,yu,yu]) fun i hi=>?_
 rw[yu]at hi
 rw[Yx hi]
 by_cases e:x * (s.K+1)+s.K=i
 ·subst e
  rw[ZC (by rw[yu];exact hp),d1,zdv hl]
  unfold setB
  rw[d1,d2]
  simp
 ·rw[ZE e,Yx hi]
  by_cases h1:i / (s.K+1)<x
  ·rw[decide_eq_true h1,decide_eq_true (show i / (s.K+1)<x+1 by omega)]
  ·rw[decide_eq_false h1]
   by_cases h2:i / (s.K+1)<x+1
   ·have h3:i / (s.K+1)=x:=by omega
    have h4:i % (s.K+1)≠s.K:=fun h4=>e (by rw[←h3,←h4];have:=Nat.div_add_mod i (s.K+1);rw[h4]at this ⊢;rw[Nat.mul_comm];exact this)
    unfold setB
    rw[decide_eq_false h4];simp
   ·rw[decide_eq_false h2]
theorem zea {s:SysF} {ch:List Int} (h:failE s ch<0):∀e,e<s.ex.length→okE s ch e=true:=fun e he=>by
 unfold failE at h
 rcases minF (fun e=> !okE s ch e) s.ex.length 0 with ⟨_,h1⟩ | ⟨t,h1,_⟩
 ·simpa using h1 e (Nat.zero_le _) (by omega)
 ·rw[h1]at h;omega
theorem zdy {s:SysF} {ch:List Int} {e:Nat} (h:ruleE s ch=0) (he:e<s.ex.length):sceneE s ch (e:Int)=0:=by
 unfold sceneE
 rw[if_pos h,if_neg (by omega)]
theorem zaz {p:ProbD} {N K:Nat} (h:RightP p) (hg:GoodS p.full N K):(N=1∨N=2∨N=3)∧p.full.ex.length≤60:=by
 obtain ⟨h1,h2⟩:=yk h.2
 obtain ⟨h3,h4⟩:=h.1.few.small h1 h2
 have h5:=hg.pok.n
 have h6:=hg.pok.n1
 have h7:=hg.num
 have e:p.full.p=p:=rfl
 rw[e]at h5 h7
 refine ⟨?_,by omega⟩
 omega
end Go.Proofs.YtjpakklplhabdaaGreat
