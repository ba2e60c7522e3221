/- Part of the proof that the laws answer true for every input. -/
import Derived.Test.YtaijafjfafbcfaaGreatPXb50
set_option linter.unusedSimpArgs false
set_option linter.unnecessarySimpa false
set_option linter.unusedVariables false
set_option maxRecDepth 100000
set_option maxHeartbeats 40000000
namespace Go.Proofs.YtaijafjfafbcfaaGreat
open Go.RowKit
attribute [local go_sem ↓] Go.wp_at_zero Go.wp_at_succ
theorem self25 {s:SysF} (hg:GoodS s s.N s.K) {e:Nat} (he:e<s.ex.length):byN s e e=maskW s.N (nthX s.ex e).word:=by
 apply Nat.eq_of_testBit_eq
 intro q
 rw[byN_bit]
 by_cases hq:q<s.N
 ·rw[decide_eq_true hq,Bool.true_and]
  have h1:=fvw_nn hg he hq
  unfold oblB at h1
  rw[Bool.eq_iff_iff,lkB_iff,←h1]
  exact ⟨fun h=>h.1,fun h=>⟨h,rfl⟩⟩
 ·rw[decide_eq_false hq,Bool.false_and]
  unfold maskW
  rw[testBit_without,Nat.testBit_two_pow_sub_one,decide_eq_false hq,Bool.false_and]
theorem sub25 {s:SysF} (hg:GoodS s s.N s.K) {e f:Nat} (he:e<s.ex.length):without (byN s e f) (maskW s.N (nthX s.ex e).word)=0:=by
 apply Nat.eq_of_testBit_eq
 intro q
 rw[testBit_without,byN_bit,Nat.zero_testBit]
 by_cases hq:q<s.N
 ·rw[decide_eq_true hq,Bool.true_and]
  cases hl:lkB s q e f with
  | false=>rfl
  | true=>
   have h1:=fvw_nn hg he hq
   unfold oblB at h1
   rw[h1.1 (lkB_iff.1 hl).1]
   rfl
 ·rw[decide_eq_false hq,Bool.false_and,Bool.false_and]
theorem byN_small {s:SysF} (hN:s.N≤5) (e f:Nat):byN s e f<4294967296:=Nat.lt_of_lt_of_le (setTo_lt _ _) (Nat.le_trans (Nat.pow_le_pow_right (by decide) hN) (by decide))
theorem walkIndistinctClasses {S:Nat→Prop} {w:World} {vc vs:Value} {p:ProbD} {x y:Nat} (hc:Sl kCase S w vc p.cs) (hs:Sl (kSl (kFlat 8)) S w vs p.st) (hx:x<256) (hy:y<256):
  Calls Tryz.prog 9 #[.agg #[.int .i64 p.n,.int .i64 p.ins,.int .i64 p.outs,vc,.int .i64 p.an,vs,.int .i64 p.rounds],.int .u8 x,.int .u8 y] w (Post w fun _ r=>r=.bool true):=by
 obtain ⟨ca,cc,rfl,_⟩:=hc.form
 obtain ⟨sa,sc,rfl,_⟩:=hs.form
 have KSY:Hid (∀W,Below w.heap.size w W→Calls Tryz.prog 26 #[.agg #[.int .i64 p.n,.int .i64 p.ins,.int .i64 p.outs,.slice ca p.cs.length cc,.int .i64 p.an,.slice sa p.st.length sc,.int .i64 p.rounds]] W (Post W (SysR p))):=Lib.hid fun W hW=>system_calls (hc.ext hW) (hs.ext hW)
 have ex:=ext_alloc w (.cells #[.int .i64 p.n,.int .i64 p.ins,.int .i64 p.outs,.slice ca p.cs.length cc,.int .i64 p.an,.slice sa p.st.length sc,.int .i64 p.rounds] 29)
 have RP:=row_new w [.int .i64 p.n,.int .i64 p.ins,.int .i64 p.outs,.slice ca p.cs.length cc,.int .i64 p.an,.slice sa p.st.length sc,.int .i64 p.rounds] 29
 clear hc hs
 have tRP0:=RP.cell (j:=0) rfl
 have tRP1:=RP.cell (j:=1) rfl
 have tRP2:=RP.cell (j:=2) rfl
 have tRP3:=RP.cell (j:=3) rfl
 have tRP4:=RP.cell (j:=4) rfl
 have tRP5:=RP.cell (j:=5) rfl
 have tRP6:=RP.cell (j:=6) rfl
 have lRP:=RP.lt
 go_enter Tryz.func9,Tryz.ntmps9
 go_wp2_with fail
 refine (KSY.out _ ex).mono ?_
 rintro _ w1 ⟨_,rfl,hb,v,b0,s,rfl,hsy,hgd⟩
 replace RP:=RP.ext hb
 replace ex:=ext_trans ex hb
 clear hb KSY tRP0 tRP1 tRP2 tRP3 tRP4 tRP5 tRP6 lRP
 have h:=hsy
 obtain ⟨vc2,vs2,vt2,vx2,rfl,hc,hs,ht,hx⟩:=h
 obtain ⟨ca2,cc2,rfl,_⟩:=hc.form
 obtain ⟨sa2,sc2,rfl,_⟩:=hs.form
 obtain ⟨ta2,tc2,rfl,_⟩:=ht.form
 obtain ⟨xa2,xc2,rfl,_⟩:=hx.form2
 obtain ⟨n,hnn⟩:∃n,n=s.ex.length:=⟨_,rfl⟩
 rw[←hnn]at hsy hgd ⊢
 have e1:=ext_alloc w1 (.cells #[.int .i64 s.p.n,.int .i64 s.p.ins,.int .i64 s.p.outs,.slice ca2 s.p.cs.length cc2,.int .i64 s.p.an,.slice sa2 s.p.st.length sc2,.int .i64 s.p.rounds,.int .i64 s.tn,.slice ta2 s.tab.length tc2,.slice xa2 n xc2] 35)
 have R5:=row_new w1 [.int .i64 s.p.n,.int .i64 s.p.ins,.int .i64 s.p.outs,.slice ca2 s.p.cs.length cc2,.int .i64 s.p.an,.slice sa2 s.p.st.length sc2,.int .i64 s.p.rounds,.int .i64 s.tn,.slice ta2 s.tab.length tc2,.slice xa2 n xc2] 35
 have HSY:=Lib.hid (hsy.ext e1)
 replace ex:=ext_alloc' ex (.cells #[.int .i64 s.p.n,.int .i64 s.p.ins,.int .i64 s.p.outs,.slice ca2 s.p.cs.length cc2,.int .i64 s.p.an,.slice sa2 s.p.st.length sc2,.int .i64 s.p.rounds,.int .i64 s.tn,.slice ta2 s.tab.length tc2,.slice xa2 n xc2] 35)
 replace RP:=RP.alloc (.cells #[.int .i64 s.p.n,.int .i64 s.p.ins,.int .i64 s.p.outs,.slice ca2 s.p.cs.length cc2,.int .i64 s.p.an,.slice sa2 s.p.st.length sc2,.int .i64 s.p.rounds,.int .i64 s.tn,.slice ta2 s.tab.length tc2,.slice xa2 n xc2] 35)
 have HNN:=Lib.hid hnn
 clear hsy hc hs ht hx e1 hnn
 cases b0 with
 | false=>
  clear R5 RP hgd
  go_wp2_with fail
  refine (awake_calls _).mono ?_
  rintro _ w99 ⟨_,rfl,hb,rfl⟩
  have HE:=Lib.hid (ext_trans ex hb)
  clear hb ex
  go_wp2
  go_ret
  exact .mk HE.out rfl
 | true=>
 have HG:=Lib.hid (hgd rfl)
 clear hgd
 have hn:=HG.out.2.2.2
 obtain ⟨w2,hw2⟩:∃w2,w2=w1.alloc (.cells #[.int .i64 s.p.n,.int .i64 s.p.ins,.int .i64 s.p.outs,.slice ca2 s.p.cs.length cc2,.int .i64 s.p.an,.slice sa2 s.p.st.length sc2,.int .i64 s.p.rounds,.int .i64 s.tn,.slice ta2 s.tab.length tc2,.slice xa2 n xc2] 35):=⟨_,rfl⟩
 obtain ⟨B5,hB5⟩:∃B5,B5=w1.heap.size:=⟨_,rfl⟩
 rw[←hw2]at R5 HSY ex RP
 rw[←hB5]at R5
 have HEX:=Lib.hid ex
 have HW2:=Lib.hid hw2
 have HB5:=Lib.hid hB5
 clear ex hw2 hB5
 have HFW:Hid (PFew s.p):=Lib.hid HG.out.2.2.1.few
 have HV0:=Lib.hid HG.out.2.1
 have HGS:=Lib.hid (good_sys HV0.out HSY.out.moves8)
 have HX4:Hid (s.ex.length≤4096):=Lib.hid (ex_le HV0.out HGS.out)
 have hn4:n≤4096:=by rw[HNN.out];exact HX4.out
 obtain ⟨e,hee⟩:∃e,e=x % n:=⟨_,rfl⟩
 obtain ⟨f,hff⟩:∃f,f=y % n:=⟨_,rfl⟩
 have wx:=wrap25 x hx
 have wy:=wrap25 y hy
 have m1:Int.tmod (x:Int) (n:Int)=(e:Int):=by rw[tmod25,hee]
 have m2:Int.tmod (y:Int) (n:Int)=(f:Int):=by rw[tmod25,hff]
 have HE:Hid (e<n):=Lib.hid (by rw[hee];exact Nat.mod_lt _ hn)
 have HF:Hid (f<n):=Lib.hid (by rw[hff];exact Nat.mod_lt _ hn)
 have hn0:¬(n:Int)=0:=by omega
 have HE2:Hid (e<s.ex.length):=Lib.hid (by rw[←HNN.out];exact HE.out)
 have HF2:Hid (f<s.ex.length):=Lib.hid (by rw[←HNN.out];exact HF.out)
 have HTef:=Lib.hid (thE_ok25 HV0.out HE2.out HF2.out)
 have HTfe:=Lib.hid (thE_ok25 HV0.out HF2.out HE2.out)
 have HTee:=Lib.hid (thE_ok25 HV0.out HE2.out HE2.out)
 have HLL:Hid ((cmpL s (s.N - 1)).length=n):=Lib.hid (by rw[cmpL_len,HNN.out])
 have HCL:Hid (∀q,(clsL s q).length=n):=Lib.hid fun q=>by rw[clsL_len,HNN.out]
 have HN1:Hid (0<s.N):=Lib.hid (Nat.lt_of_lt_of_le Nat.zero_lt_one HGS.out.pok.n1.1)
 have HN5:Hid (s.N≤5):=Lib.hid HGS.out.pok.n1.2
 have WFE:Hid (WF (e:Int)):=Lib.hid (WF.small (by have:=HE.out;omega))
 have WFF:Hid (WF (f:Int)):=Lib.hid (WF.small (by have:=HF.out;omega))
 have KL1:Hid (∀W,Below w2.heap.size w2 W→Calls Tryz.prog 12 #[.agg #[.int .i64 s.p.n,.int .i64 s.p.ins,.int .i64 s.p.outs,.slice ca2 s.p.cs.length cc2,.int .i64 s.p.an,.slice sa2 s.p.st.length sc2,.int .i64 s.p.rounds,.int .i64 s.tn,.slice ta2 s.tab.length tc2,.slice xa2 n xc2],.int .i64 e,.int .i64 f] W (Post W fun _ r=>r=.tuple #[.int .i64 (byN s e f:Nat),.int .i64 0])):=Lib.hid fun W hW=>by
  have:=pLinked_calls e f WFE.out WFF.out (HSY.out.ext hW) HFW.out
  unfold LnkR lnkA at this
  rw[HTef.out,if_pos rfl]at this
  simp only[Int.toNat_natCast]at this
  exact this
 have KL2:Hid (∀W,Below w2.heap.size w2 W→Calls Tryz.prog 12 #[.agg #[.int .i64 s.p.n,.int .i64 s.p.ins,.int .i64 s.p.outs,.slice ca2 s.p.cs.length cc2,.int .i64 s.p.an,.slice sa2 s.p.st.length sc2,.int .i64 s.p.rounds,.int .i64 s.tn,.slice ta2 s.tab.length tc2,.slice xa2 n xc2],.int .i64 f,.int .i64 e] W (Post W fun _ r=>r=.tuple #[.int .i64 (byN s f e:Nat),.int .i64 0])):=Lib.hid fun W hW=>by
  have:=pLinked_calls f e WFF.out WFE.out (HSY.out.ext hW) HFW.out
  unfold LnkR lnkA at this
  rw[HTfe.out,if_pos rfl]at this
  simp only[Int.toNat_natCast]at this
  exact this
 have KL3:Hid (∀W,Below w2.heap.size w2 W→Calls Tryz.prog 12 #[.agg #[.int .i64 s.p.n,.int .i64 s.p.ins,.int .i64 s.p.outs,.slice ca2 s.p.cs.length cc2,.int .i64 s.p.an,.slice sa2 s.p.st.length sc2,.int .i64 s.p.rounds,.int .i64 s.tn,.slice ta2 s.tab.length tc2,.slice xa2 n xc2],.int .i64 e,.int .i64 e] W (Post W fun _ r=>r=.tuple #[.int .i64 (byN s e e:Nat),.int .i64 0])):=Lib.hid fun W hW=>by
  have:=pLinked_calls e e WFE.out WFE.out (HSY.out.ext hW) HFW.out
  unfold LnkR lnkA at this
  rw[HTee.out,if_pos rfl]at this
  simp only[Int.toNat_natCast]at this
  exact this
 have KO:Hid (∀W,Below w2.heap.size w2 W→Calls Tryz.prog 27 #[.agg #[.int .i64 s.p.n,.int .i64 s.p.ins,.int .i64 s.p.outs,.slice ca2 s.p.cs.length cc2,.int .i64 s.p.an,.slice sa2 s.p.st.length sc2,.int .i64 s.p.rounds,.int .i64 s.tn,.slice ta2 s.tab.length tc2,.slice xa2 n xc2],.int .i64 e] W (Post W fun _ r=>r=.tuple #[.int .i64 (maskW s.N (nthX s.ex e).word),.int .i64 0])):=Lib.hid fun W hW=>pobl_calls (HSY.out.ext hW) HFW.out HV0.out HGS.out HE2.out
 have KC:Hid (∀W,Below w2.heap.size w2 W→Calls Tryz.prog 17 #[.agg #[.int .i64 s.p.n,.int .i64 s.p.ins,.int .i64 s.p.outs,.slice ca2 s.p.cs.length cc2,.int .i64 s.p.an,.slice sa2 s.p.st.length sc2,.int .i64 s.p.rounds,.int .i64 s.tn,.slice ta2 s.tab.length tc2,.slice xa2 n xc2]] W (Post W fun w' r=>∃a c,r=.tuple #[.slice a n c,.int .i64 0]∧Ints TT w' (.slice a n c) (cmpL s (s.N - 1)))):=Lib.hid fun W hW=>(pComps_calls (HSY.out.ext hW) HFW.out).mono fun _ _ h=>post_mono25 h fun _ _ hr=>by
  rcases hr with ⟨_,u,rfl,hu⟩ | ⟨h,_⟩
  ·obtain ⟨a,c,rfl,_⟩:=hu.form
   rw[HLL.out]at hu ⊢
   exact ⟨a,c,rfl,hu.mono fun _ _=>trivial⟩
  ·exact absurd HV0.out h
 have KQ:Hid (∀q:Nat,q<s.N→∀W,Below w2.heap.size w2 W→Calls Tryz.prog 14 #[.agg #[.int .i64 s.p.n,.int .i64 s.p.ins,.int .i64 s.p.outs,.slice ca2 s.p.cs.length cc2,.int .i64 s.p.an,.slice sa2 s.p.st.length sc2,.int .i64 s.p.rounds,.int .i64 s.tn,.slice ta2 s.tab.length tc2,.slice xa2 n xc2],.int .i64 q] W (Post W fun w' r=>∃a c,r=.tuple #[.slice a n c,.int .i64 0]∧Ints TT w' (.slice a n c) (clsL s q))):=Lib.hid fun q hq W hW=>(pClasses_calls q (HSY.out.ext hW) HFW.out).mono fun _ _ h=>post_mono25 h fun _ _ hr=>by
  rcases hr with ⟨_,u,rfl,hu⟩ | ⟨h,_⟩
  ·obtain ⟨a,c,rfl,_⟩:=hu.form
   rw[Int.toNat_natCast,HCL.out]at hu
   rw[Int.toNat_natCast,HCL.out]
   exact ⟨a,c,rfl,hu.mono fun _ _=>trivial⟩
  ·refine absurd ?_ h
   unfold clE
   rw[if_pos HV0.out,if_neg (by omega)]
 have htn:s.tn=(s.N:Int):=HGS.out.tn
 rw[htn]at R5 KL1 KL2 KL3 KO KC KQ
 have HTN:=Lib.hid htn
 have HCM:=Lib.hid (byN_comm s f e)
 have HSF:=Lib.hid (self25 HGS.out HE2.out)
 have HSB:=Lib.hid (sub25 (f:=f) HGS.out HE2.out)
 rw[HCM.out]at KL2
 rw[HSF.out]at KL3
 have HBT:=Lib.hid (fun q=>byN_bit s e f q)
 have hb1:=byN_small HN5.out e f
 have hm1:=maskW_lt HN5.out (nthX s.ex e).word
 obtain ⟨a,haa⟩:∃a,a=byN s e f:=⟨_,rfl⟩
 obtain ⟨own,how⟩:∃o,o=maskW s.N (nthX s.ex e).word:=⟨_,rfl⟩
 rw[←haa]at KL1 KL2 HSB HBT hb1
 rw[←how]at KL3 KO HSB hm1
 have han:bits .andNot .i64 (a:Int) (own:Int)=0:=by rw[andNot_nat hb1 hm1,HSB.out];rfl
 clear hee hff RP HSY HFW HG haa how hb1 hm1 HCM HSF HSB htn
 have t0:=R5.cell (j:=0) rfl
 have t1:=R5.cell (j:=1) rfl
 have t2:=R5.cell (j:=2) rfl
 have t3:=R5.cell (j:=3) rfl
 have t4:=R5.cell (j:=4) rfl
 have t5:=R5.cell (j:=5) rfl
 have t6:=R5.cell (j:=6) rfl
 have t7:=R5.cell (j:=7) rfl
 have t8:=R5.cell (j:=8) rfl
 have t9:=R5.cell (j:=9) rfl
 have lR5:=R5.lt
 go_upto_region 5 with fail
 rw[←HW2.out,←HB5.out,HTN.out]
 go_quiet (fail)
 clear wx wy m1 m2 hx hy hn0 HW2 HB5
 go_wp2_with fail
 refine (KL1.out _ (drewN_below _ _ _)).mono ?_
 rintro _ w4 ⟨_,rfl,hb,rfl⟩
 have ex:=ext_trans (drewN_below w2.heap.size w2 _) hb
 replace R5:=R5.ext ex
 clear hb KL1 t0 t1 t2 t3 t4 t5 t6 t7 t8 t9 lR5
 have t0:=R5.cell (j:=0) rfl
 have t1:=R5.cell (j:=1) rfl
 have t2:=R5.cell (j:=2) rfl
 have t3:=R5.cell (j:=3) rfl
 have t4:=R5.cell (j:=4) rfl
 have t5:=R5.cell (j:=5) rfl
 have t6:=R5.cell (j:=6) rfl
 have t7:=R5.cell (j:=7) rfl
 have t8:=R5.cell (j:=8) rfl
 have t9:=R5.cell (j:=9) rfl
 have lR5:=R5.lt
 go_wp2_with fail
 refine (KL2.out _ ex).mono ?_
 rintro _ w5 ⟨_,rfl,hb,rfl⟩
 replace ex:=ext_trans ex hb
 replace R5:=R5.ext hb
 clear hb KL2 t0 t1 t2 t3 t4 t5 t6 t7 t8 t9 lR5
 have t0:=R5.cell (j:=0) rfl
 have t1:=R5.cell (j:=1) rfl
 have t2:=R5.cell (j:=2) rfl
 have t3:=R5.cell (j:=3) rfl
 have t4:=R5.cell (j:=4) rfl
 have t5:=R5.cell (j:=5) rfl
 have t6:=R5.cell (j:=6) rfl
 have t7:=R5.cell (j:=7) rfl
 have t8:=R5.cell (j:=8) rfl
 have t9:=R5.cell (j:=9) rfl
 have lR5:=R5.lt
 go_wp2_with fail
 refine (KO.out _ ex).mono ?_
 rintro _ w6 ⟨_,rfl,hb,rfl⟩
 replace ex:=ext_trans ex hb
 replace R5:=R5.ext hb
 clear hb KO t0 t1 t2 t3 t4 t5 t6 t7 t8 t9 lR5
 have t0:=R5.cell (j:=0) rfl
 have t1:=R5.cell (j:=1) rfl
 have t2:=R5.cell (j:=2) rfl
 have t3:=R5.cell (j:=3) rfl
 have t4:=R5.cell (j:=4) rfl
 have t5:=R5.cell (j:=5) rfl
 have t6:=R5.cell (j:=6) rfl
 have t7:=R5.cell (j:=7) rfl
 have t8:=R5.cell (j:=8) rfl
 have t9:=R5.cell (j:=9) rfl
 have lR5:=R5.lt
 go_wp2_with fail
 refine (KL3.out _ ex).mono ?_
 rintro _ w7 ⟨_,rfl,hb,rfl⟩
 replace ex:=ext_trans ex hb
 replace R5:=R5.ext hb
 clear hb KL3 t0 t1 t2 t3 t4 t5 t6 t7 t8 t9 lR5
 have t0:=R5.cell (j:=0) rfl
 have t1:=R5.cell (j:=1) rfl
 have t2:=R5.cell (j:=2) rfl
 have t3:=R5.cell (j:=3) rfl
 have t4:=R5.cell (j:=4) rfl
 have t5:=R5.cell (j:=5) rfl
 have t6:=R5.cell (j:=6) rfl
 have t7:=R5.cell (j:=7) rfl
 have t8:=R5.cell (j:=8) rfl
 have t9:=R5.cell (j:=9) rfl
 have lR5:=R5.lt
 go_wp2_with fail
 refine (KC.out _ ex).mono ?_
 rintro _ w8 ⟨_,rfl,hb,ap,cp,rfl,hi⟩
 replace ex:=ext_trans ex hb
 replace R5:=R5.ext hb
 have H1:=Lib.hid hi
 clear hi
 clear hb KC t0 t1 t2 t3 t4 t5 t6 t7 t8 t9 lR5
 have t0:=R5.cell (j:=0) rfl
 have t1:=R5.cell (j:=1) rfl
 have t2:=R5.cell (j:=2) rfl
 have t3:=R5.cell (j:=3) rfl
 have t4:=R5.cell (j:=4) rfl
 have t5:=R5.cell (j:=5) rfl
 have t6:=R5.cell (j:=6) rfl
 have t7:=R5.cell (j:=7) rfl
 have t8:=R5.cell (j:=8) rfl
 have t9:=R5.cell (j:=9) rfl
 have lR5:=R5.lt
 have HR5:=Lib.hid R5
 have HEX8:=Lib.hid ex
 have H8:=Lib.hid (Below.refl w8.heap.size w8)
 go_wp2
 clear t0 t1 t2 t3 t4 t5 t6 t7 t8 t9 lR5 R5 ex
 go_loopw [22,23,24,25,112] (fun b _ _ _ i wr=>∃k:Nat,k≤s.N∧i=.int .i64 k∧Below w8.heap.size w8 wr∧Hid (0<k→∃a c,b=.slice a n c∧Ints TT wr b (cmpL s (k - 1)))) (fun _ _ _ _ i _=>s.N - (intOf i).toNat)
 case atStart=>exact ⟨0,Nat.zero_le _,rfl,H8.out,Lib.hid fun h=>absurd h (by decide)⟩
 case round=>
  obtain ⟨k,hk,rfl,eb,hJ⟩:=hrel
  by_cases hlt:k<s.N
  case neg=>
   obtain rfl:k=s.N:=by omega
   obtain ⟨ja,jc,rfl,hj⟩:=hJ.out HN1.out
   have HJ2:=Lib.hid hj
   have HP2:=Lib.hid (H1.out.ext eb)
   have HXX:=Lib.hid (ext_trans HEX.out (ext_trans HEX8.out eb))
   clear hJ hj eb hk hlt han
   go_wp2_with fail
   refine (equal25 HJ2.out HP2.out).mono ?_
   rintro _ w90 ⟨_,rfl,hb,rfl⟩
   have HX2:=Lib.hid (ext_trans HXX.out hb)
   clear hb
   go_wp2_with fail
   refine (awake_calls _).mono ?_
   rintro _ w99 ⟨_,rfl,hb,rfl⟩
   have HXE:=Lib.hid (ext_trans HX2.out hb)
   clear hb
   go_wp2
   go_ret
   exact .mk HXE.out rfl
  have hk5:k<5:=Nat.lt_of_lt_of_le hlt HN5.out
  have R5:=HR5.out.ext eb
  have ex:=ext_trans HEX8.out eb
  have HEB:=Lib.hid eb
  have HTB:=Lib.hid (bit_nat a k)
  have HTL:Hid (a.testBit k=lkB s k e f):=Lib.hid (by rw[HBT.out k,decide_eq_true hlt,Bool.true_and])
  clear eb
  have t0:=R5.cell (j:=0) rfl
  have t1:=R5.cell (j:=1) rfl
  have t2:=R5.cell (j:=2) rfl
  have t3:=R5.cell (j:=3) rfl
  have t4:=R5.cell (j:=4) rfl
  have t5:=R5.cell (j:=5) rfl
  have t6:=R5.cell (j:=6) rfl
  have t7:=R5.cell (j:=7) rfl
  have t8:=R5.cell (j:=8) rfl
  have t9:=R5.cell (j:=9) rfl
  have lR5:=R5.lt
  go_wp2_with fail
  refine (KQ.out k hlt _ ex).mono ?_
  rintro _ w9 ⟨_,rfl,hb,qa,qc,rfl,hi⟩
  have HEB2:=Lib.hid (ext_trans HEB.out hb)
  have hJ2:Hid (0<k→∃a c,u22=.slice a n c∧Ints TT w9 u22 (cmpL s (k - 1))):=Lib.hid fun h=>by
   obtain ⟨a,c,h1,h2⟩:=hJ.out h
   exact ⟨a,c,h1,h2.ext hb⟩
  have HQ:=Lib.hid hi
  have hie:=hi.idx (k:=e) (by rw[HCL.out];exact HE.out)
  have hce:=hi.cellN (k:=e) (by rw[HCL.out];exact HE.out)
  have hif:=hi.idx (k:=f) (by rw[HCL.out];exact HF.out)
  have hcf:=hi.cellN (k:=f) (by rw[HCL.out];exact HF.out)
  have HEQ:=Lib.hid (clsL_eq (s:=s) (q:=k) HE2.out HF2.out)
  obtain ⟨le,hle⟩:∃u,u=nth (clsL s k) e:=⟨_,rfl⟩
  obtain ⟨lf,hlf⟩:∃u,u=nth (clsL s k) f:=⟨_,rfl⟩
  rw[←hle]at hce HEQ
  rw[←hlf]at hcf HEQ
  have bce:=World.block_lt_of_cell? _ _ hce
  have bcf:=World.block_lt_of_cell? _ _ hcf
  clear hb hi hJ hle hlf R5 ex t0 t1 t2 t3 t4 t5 t6 t7 t8 t9 lR5 HEB
  by_cases hef:e=f
  ·have hll:le=lf:=HEQ.out.2 (.inl hef)
   have g1:(le==lf)=true:=by rw[beq_iff_eq];exact hll
   have g2:((e:Int)==(f:Int))=true:=by rw[beq_iff_eq,hef]
   clear hll hef
   by_cases hk0:k=0
   ·have hk2:((k:Int)==0)=true:=by rw[beq_iff_eq];omega
    have HQ0:Hid (Ints TT w9 (.slice qa n qc) (cmpL s (k+1 - 1))):=Lib.hid (by have h:=HQ.out;rw[hk0]at h ⊢;exact h)
    clear hk0
    go_wp2
    go_quiet (fail)
    go_wp2
    go_roundw
    case rel=>exact ⟨k+1,hlt,by go_num,ext_drewN HEB2.out _,Lib.hid fun _=>⟨_,_,rfl,HQ0.out.ext (drewN_below _ _ _)⟩⟩
    case measure=>simp[intOf]<;>omega
   have hk1:0<k:=Nat.pos_of_ne_zero hk0
   obtain ⟨ja,jc,hu,hj⟩:=hJ2.out hk1
   subst hu
   have HJ3:=Lib.hid hj
   obtain ⟨m,hm⟩:∃m,k=m+1:=⟨k - 1,by omega⟩
   have HJM:Hid (joinR (cmpL s (k - 1)) (clsL s k)=(cmpL s k,0)):=Lib.hid (by rw[hm];exact join_ok HX4.out m)
   have hk2:((k:Int)==0)=false:=by rw[beq_eq_false_iff_ne];omega
   clear hj hm
   go_wp2
   go_quiet (fail)
   clear hie hce hif hcf bce bcf g1 g2
   go_wp2_with fail
   refine (join_calls (HJ3.out.ext (drewN_below _ _ _)) (HQ.out.ext (drewN_below _ _ _))).mono ?_
   rw[HJM.out]
   rintro _ w10 ⟨_,rfl,hb,gv,rfl,hi⟩
   have HI:=Lib.hid (hi.mono (S':=TT) fun _ _=>trivial)
   have HFM:Hid (∃a c,gv=.slice a n c):=Lib.hid (by
    obtain ⟨a,c,h,_⟩:=hi.form
    have hl:(cmpL s k).length=n:=by rw[cmpL_len,HNN.out]
    dsimp only at h
    rw[hl]at h
    exact ⟨a,c,h⟩)
   have HE9:=Lib.hid (ext_trans (ext_drewN HEB2.out _) hb)
   clear hb hi
   go_wp2
   go_roundw
   case rel=>exact ⟨k+1,hlt,by go_num,HE9.out,Lib.hid fun _=>by obtain ⟨a,c,h⟩:=HFM.out;exact ⟨a,c,h,HI.out⟩⟩
   case measure=>simp[intOf]<;>omega
  ·have g2:((e:Int)==(f:Int))=false:=by rw[beq_eq_false_iff_ne];omega
   cases hbt:a.testBit k with
   | true=>
    have g1:(le==lf)=true:=by rw[beq_iff_eq];exact HEQ.out.2 (.inr (by rw[←HTL.out];exact hbt))
    have g3:(bits .and .i64 ((a:Int) / 2 ^ k) 1==1)=true:=by rw[HTB.out];exact hbt
    clear hbt hef
    by_cases hk0:k=0
    ·have hk2:((k:Int)==0)=true:=by rw[beq_iff_eq];omega
     have HQ0:Hid (Ints TT w9 (.slice qa n qc) (cmpL s (k+1 - 1))):=Lib.hid (by have h:=HQ.out;rw[hk0]at h ⊢;exact h)
     clear hk0
     go_wp2
     go_quiet (fail)
     go_wp2
     go_roundw
     case rel=>exact ⟨k+1,hlt,by go_num,ext_drewN HEB2.out _,Lib.hid fun _=>⟨_,_,rfl,HQ0.out.ext (drewN_below _ _ _)⟩⟩
     case measure=>simp[intOf]<;>omega
    have hk1:0<k:=Nat.pos_of_ne_zero hk0
    obtain ⟨ja,jc,hu,hj⟩:=hJ2.out hk1
    subst hu
    have HJ3:=Lib.hid hj
    obtain ⟨m,hm⟩:∃m,k=m+1:=⟨k - 1,by omega⟩
    have HJM:Hid (joinR (cmpL s (k - 1)) (clsL s k)=(cmpL s k,0)):=Lib.hid (by rw[hm];exact join_ok HX4.out m)
    have hk2:((k:Int)==0)=false:=by rw[beq_eq_false_iff_ne];omega
    clear hj hm
    go_wp2
    go_quiet (fail)
    clear hie hce hif hcf bce bcf g1 g2 g3
    go_wp2_with fail
    refine (join_calls (HJ3.out.ext (drewN_below _ _ _)) (HQ.out.ext (drewN_below _ _ _))).mono ?_
    rw[HJM.out]
    rintro _ w10 ⟨_,rfl,hb,gv,rfl,hi⟩
    have HI:=Lib.hid (hi.mono (S':=TT) fun _ _=>trivial)
    have HFM:Hid (∃a c,gv=.slice a n c):=Lib.hid (by
     obtain ⟨a,c,h,_⟩:=hi.form
     have hl:(cmpL s k).length=n:=by rw[cmpL_len,HNN.out]
     dsimp only at h
     rw[hl]at h
     exact ⟨a,c,h⟩)
    have HE9:=Lib.hid (ext_trans (ext_drewN HEB2.out _) hb)
    clear hb hi
    go_wp2
    go_roundw
    case rel=>exact ⟨k+1,hlt,by go_num,HE9.out,Lib.hid fun _=>by obtain ⟨a,c,h⟩:=HFM.out;exact ⟨a,c,h,HI.out⟩⟩
    case measure=>simp[intOf]<;>omega
   | false=>
    have g1:(le==lf)=false:=by
     rw[beq_eq_false_iff_ne]
     intro h
     rcases HEQ.out.1 h with h1 | h1
     ·exact hef h1
     ·rw[←HTL.out,hbt]at h1;cases h1
    have g3:(bits .and .i64 ((a:Int) / 2 ^ k) 1==1)=false:=by rw[HTB.out];exact hbt
    clear hbt hef
    by_cases hk0:k=0
    ·have hk2:((k:Int)==0)=true:=by rw[beq_iff_eq];omega
     have HQ0:Hid (Ints TT w9 (.slice qa n qc) (cmpL s (k+1 - 1))):=Lib.hid (by have h:=HQ.out;rw[hk0]at h ⊢;exact h)
     clear hk0
     go_wp2
     go_quiet (fail)
     go_wp2
     go_roundw
     case rel=>exact ⟨k+1,hlt,by go_num,ext_drewN HEB2.out _,Lib.hid fun _=>⟨_,_,rfl,HQ0.out.ext (drewN_below _ _ _)⟩⟩
     case measure=>simp[intOf]<;>omega
    have hk1:0<k:=Nat.pos_of_ne_zero hk0
    obtain ⟨ja,jc,hu,hj⟩:=hJ2.out hk1
    subst hu
    have HJ3:=Lib.hid hj
    obtain ⟨m,hm⟩:∃m,k=m+1:=⟨k - 1,by omega⟩
    have HJM:Hid (joinR (cmpL s (k - 1)) (clsL s k)=(cmpL s k,0)):=Lib.hid (by rw[hm];exact join_ok HX4.out m)
    have hk2:((k:Int)==0)=false:=by rw[beq_eq_false_iff_ne];omega
    clear hj hm
    go_wp2
    go_quiet (fail)
    clear hie hce hif hcf bce bcf g1 g2 g3
    go_wp2_with fail
    refine (join_calls (HJ3.out.ext (drewN_below _ _ _)) (HQ.out.ext (drewN_below _ _ _))).mono ?_
    rw[HJM.out]
    rintro _ w10 ⟨_,rfl,hb,gv,rfl,hi⟩
    have HI:=Lib.hid (hi.mono (S':=TT) fun _ _=>trivial)
    have HFM:Hid (∃a c,gv=.slice a n c):=Lib.hid (by
     obtain ⟨a,c,h,_⟩:=hi.form
     have hl:(cmpL s k).length=n:=by rw[cmpL_len,HNN.out]
     dsimp only at h
     rw[hl]at h
     exact ⟨a,c,h⟩)
    have HE9:=Lib.hid (ext_trans (ext_drewN HEB2.out _) hb)
    clear hb hi
    go_wp2
    go_roundw
    case rel=>exact ⟨k+1,hlt,by go_num,HE9.out,Lib.hid fun _=>by obtain ⟨a,c,h⟩:=HFM.out;exact ⟨a,c,h,HI.out⟩⟩
    case measure=>simp[intOf]<;>omega
end Go.Proofs.YtaijafjfafbcfaaGreat
