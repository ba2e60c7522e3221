/- Part of the proof that the laws answer true for every input. -/
import Derived.Test.YtaijafjfafbcfaaGreatPXb49
set_option linter.unusedSimpArgs false
set_option linter.unnecessarySimpa false
set_option linter.unusedVariables false
set_option maxRecDepth 100000
set_option maxHeartbeats 40000000
namespace Go.Proofs.YtaijafjfafbcfaaGreat
open Go.RowKit
attribute [local go_sem ↓] Go.wp_at_zero Go.wp_at_succ
def onB (s:SysF) (f e k j:Nat):Bool:=(List.range k).any fun i=>xsE s f e i==j
theorem onB_succ (s:SysF) (f e k j:Nat):onB s f e (k+1) j=(onB s f e k j||xsE s f e k==j):=by unfold onB;rw[List.range_succ,List.any_append];simp
theorem onB_new {s:SysF} {f e d k:Nat} (he:e<s.ex.length) (h:dstV s f e=d) (hk:k≤d):onB s f e k (xsE s f e k)=false:=by
 unfold onB
 rw[List.any_eq_false]
 intro i hi
 have hi':=List.mem_range.1 hi
 intro hx
 have:=xs_inj he h (i:=i) (j:=k) (by omega) hk (by simpa using hx)
 omega
theorem xsE_zero (s:SysF) (f e:Nat):xsE s f e 0=e:=rfl
theorem parts25 {s:SysF} {e f:Nat} (hN:0<s.N) (he:e<s.ex.length) (hf:f<s.ex.length):nth (cmpL s (s.N - 1)) e=nth (cmpL s (s.N - 1)) f↔0≤dstV s f e:=(cmp_iff _ he hf).trans (cn_stp hN he hf)
theorem walkIndistinctConnects {S:Nat→Prop} {w:World} {vc vs:Value} {p:ProbD} {x y:Nat} (hc:Sl kCase S w vc p.cs) (hs:Sl (kSl (kFlat 8)) S w vs p.st) (hx:x<256) (hy:y<256):
  Calls Tryz.prog 7 #[.agg #[.int .i64 p.n,.int .i64 p.ins,.int .i64 p.outs,vc,.int .i64 p.an,vs,.int .i64 p.rounds],.int .u8 x,.int .u8 y] w (Post w fun _ r=>r=.bool true):=by
 obtain ⟨ca,cc,rfl,_⟩:=hc.form
 obtain ⟨sa,sc,rfl,_⟩:=hs.form
 have KSY:Hid (∀W,Below w.heap.size w W→Calls Tryz.prog 26 #[.agg #[.int .i64 p.n,.int .i64 p.ins,.int .i64 p.outs,.slice ca p.cs.length cc,.int .i64 p.an,.slice sa p.st.length sc,.int .i64 p.rounds]] W (Post W (SysR p))):=Lib.hid fun W hW=>system_calls (hc.ext hW) (hs.ext hW)
 have ex:=ext_alloc w (.cells #[.int .i64 p.n,.int .i64 p.ins,.int .i64 p.outs,.slice ca p.cs.length cc,.int .i64 p.an,.slice sa p.st.length sc,.int .i64 p.rounds] 29)
 have RP:=row_new w [.int .i64 p.n,.int .i64 p.ins,.int .i64 p.outs,.slice ca p.cs.length cc,.int .i64 p.an,.slice sa p.st.length sc,.int .i64 p.rounds] 29
 clear hc hs
 have tRP0:=RP.cell (j:=0) rfl
 have tRP1:=RP.cell (j:=1) rfl
 have tRP2:=RP.cell (j:=2) rfl
 have tRP3:=RP.cell (j:=3) rfl
 have tRP4:=RP.cell (j:=4) rfl
 have tRP5:=RP.cell (j:=5) rfl
 have tRP6:=RP.cell (j:=6) rfl
 have lRP:=RP.lt
 go_enter Tryz.func7,Tryz.ntmps7
 go_wp2_with fail
 refine (KSY.out _ ex).mono ?_
 rintro _ w1 ⟨_,rfl,hb,v,b0,s,rfl,hsy,hgd⟩
 replace RP:=RP.ext hb
 replace ex:=ext_trans ex hb
 clear hb KSY tRP0 tRP1 tRP2 tRP3 tRP4 tRP5 tRP6 lRP
 have h:=hsy
 obtain ⟨vc2,vs2,vt2,vx2,rfl,hc,hs,ht,hx⟩:=h
 obtain ⟨ca2,cc2,rfl,_⟩:=hc.form
 obtain ⟨sa2,sc2,rfl,_⟩:=hs.form
 obtain ⟨ta2,tc2,rfl,_⟩:=ht.form
 obtain ⟨xa2,xc2,rfl,_⟩:=hx.form2
 obtain ⟨n,hnn⟩:∃n,n=s.ex.length:=⟨_,rfl⟩
 rw[←hnn]at hsy hgd ⊢
 have e1:=ext_alloc w1 (.cells #[.int .i64 s.p.n,.int .i64 s.p.ins,.int .i64 s.p.outs,.slice ca2 s.p.cs.length cc2,.int .i64 s.p.an,.slice sa2 s.p.st.length sc2,.int .i64 s.p.rounds,.int .i64 s.tn,.slice ta2 s.tab.length tc2,.slice xa2 n xc2] 35)
 have R5:=row_new w1 [.int .i64 s.p.n,.int .i64 s.p.ins,.int .i64 s.p.outs,.slice ca2 s.p.cs.length cc2,.int .i64 s.p.an,.slice sa2 s.p.st.length sc2,.int .i64 s.p.rounds,.int .i64 s.tn,.slice ta2 s.tab.length tc2,.slice xa2 n xc2] 35
 have HSY:=Lib.hid (hsy.ext e1)
 replace ex:=ext_alloc' ex (.cells #[.int .i64 s.p.n,.int .i64 s.p.ins,.int .i64 s.p.outs,.slice ca2 s.p.cs.length cc2,.int .i64 s.p.an,.slice sa2 s.p.st.length sc2,.int .i64 s.p.rounds,.int .i64 s.tn,.slice ta2 s.tab.length tc2,.slice xa2 n xc2] 35)
 replace RP:=RP.alloc (.cells #[.int .i64 s.p.n,.int .i64 s.p.ins,.int .i64 s.p.outs,.slice ca2 s.p.cs.length cc2,.int .i64 s.p.an,.slice sa2 s.p.st.length sc2,.int .i64 s.p.rounds,.int .i64 s.tn,.slice ta2 s.tab.length tc2,.slice xa2 n xc2] 35)
 have HNN:=Lib.hid hnn
 clear hsy hc hs ht hx e1 hnn
 cases b0 with
 | false=>
  clear R5 RP hgd
  go_wp2_with fail
  refine (awake_calls _).mono ?_
  rintro _ w99 ⟨_,rfl,hb,rfl⟩
  have HE:=Lib.hid (ext_trans ex hb)
  clear hb ex
  go_wp2
  go_ret
  exact .mk HE.out rfl
 | true=>
 have HG:=Lib.hid (hgd rfl)
 clear hgd
 have hn:=HG.out.2.2.2
 obtain ⟨w2,hw2⟩:∃w2,w2=w1.alloc (.cells #[.int .i64 s.p.n,.int .i64 s.p.ins,.int .i64 s.p.outs,.slice ca2 s.p.cs.length cc2,.int .i64 s.p.an,.slice sa2 s.p.st.length sc2,.int .i64 s.p.rounds,.int .i64 s.tn,.slice ta2 s.tab.length tc2,.slice xa2 n xc2] 35):=⟨_,rfl⟩
 obtain ⟨B5,hB5⟩:∃B5,B5=w1.heap.size:=⟨_,rfl⟩
 rw[←hw2]at R5 HSY ex RP
 rw[←hB5]at R5
 have HEX:=Lib.hid ex
 have HW2:=Lib.hid hw2
 have HB5:=Lib.hid hB5
 clear ex hw2 hB5
 have HFW:Hid (PFew s.p):=Lib.hid HG.out.2.2.1.few
 have HV0:=Lib.hid HG.out.2.1
 have HGS:=Lib.hid (good_sys HV0.out HSY.out.moves8)
 have HX4:Hid (s.ex.length≤4096):=Lib.hid (ex_le HV0.out HGS.out)
 have hn4:n≤4096:=by rw[HNN.out];exact HX4.out
 obtain ⟨e,hee⟩:∃e,e=x % n:=⟨_,rfl⟩
 obtain ⟨f,hff⟩:∃f,f=y % n:=⟨_,rfl⟩
 have wx:=wrap25 x hx
 have wy:=wrap25 y hy
 have m1:Int.tmod (x:Int) (n:Int)=(e:Int):=by rw[tmod25,hee]
 have m2:Int.tmod (y:Int) (n:Int)=(f:Int):=by rw[tmod25,hff]
 have HE:Hid (e<n):=Lib.hid (by rw[hee];exact Nat.mod_lt _ hn)
 have HF:Hid (f<n):=Lib.hid (by rw[hff];exact Nat.mod_lt _ hn)
 have hn0:¬(n:Int)=0:=by omega
 have HE2:Hid (e<s.ex.length):=Lib.hid (by rw[←HNN.out];exact HE.out)
 have HF2:Hid (f<s.ex.length):=Lib.hid (by rw[←HNN.out];exact HF.out)
 have HTH:=Lib.hid (thE_ok25 HV0.out HE2.out HF2.out)
 have HLL:Hid ((cmpL s (s.N - 1)).length=n):=Lib.hid (by rw[cmpL_len,HNN.out])
 have HPP:=Lib.hid (parts25 (Nat.lt_of_lt_of_le Nat.zero_lt_one HGS.out.pok.n1.1) HE2.out HF2.out)
 have WFE:Hid (WF (e:Int)):=Lib.hid (WF.small (by have:=HE.out;omega))
 have WFF:Hid (WF (f:Int)):=Lib.hid (WF.small (by have:=HF.out;omega))
 have KC:Hid (∀W,Below w2.heap.size w2 W→Calls Tryz.prog 17 #[.agg #[.int .i64 s.p.n,.int .i64 s.p.ins,.int .i64 s.p.outs,.slice ca2 s.p.cs.length cc2,.int .i64 s.p.an,.slice sa2 s.p.st.length sc2,.int .i64 s.p.rounds,.int .i64 s.tn,.slice ta2 s.tab.length tc2,.slice xa2 n xc2]] W (Post W fun w' r=>∃a c,r=.tuple #[.slice a n c,.int .i64 0]∧Ints TT w' (.slice a n c) (cmpL s (s.N - 1)))):=Lib.hid fun W hW=>(pComps_calls (HSY.out.ext hW) HFW.out).mono fun _ _ h=>post_mono25 h fun _ _ hr=>by
  rcases hr with ⟨_,u,rfl,hu⟩ | ⟨h,_⟩
  ·obtain ⟨a,c,rfl,_⟩:=hu.form
   rw[HLL.out]at hu ⊢
   exact ⟨a,c,rfl,hu.mono fun _ _=>trivial⟩
  ·exact absurd HV0.out h
 have KW:Hid (∀W,Below w2.heap.size w2 W→Calls Tryz.prog 19 #[.agg #[.int .i64 s.p.n,.int .i64 s.p.ins,.int .i64 s.p.outs,.slice ca2 s.p.cs.length cc2,.int .i64 s.p.an,.slice sa2 s.p.st.length sc2,.int .i64 s.p.rounds,.int .i64 s.tn,.slice ta2 s.tab.length tc2,.slice xa2 n xc2],.int .i64 e,.int .i64 f] W (Post W fun w' r=>∃a c,r=.tuple #[.slice a (wlkL s f e).length c,.bool (decide (0≤dstV s f e)),.int .i64 0]∧Sl (kFlat 2) TT w' (.slice a (wlkL s f e).length c) (wlkL s f e))):=Lib.hid fun W hW=>(pWalk_calls e f WFE.out WFF.out (HSY.out.ext hW) HFW.out).mono fun _ _ h=>post_mono25 h fun _ _ hr=>by
  rcases hr with ⟨_,u,rfl,hu⟩ | ⟨h,_⟩
  ·obtain ⟨a,c,rfl,_⟩:=hu.form
   exact ⟨a,c,rfl,hu.mono fun _ _=>trivial⟩
  ·exact absurd HTH.out h
 have KD:Hid (∀W,Below w2.heap.size w2 W→Calls Tryz.prog 21 #[.agg #[.int .i64 s.p.n,.int .i64 s.p.ins,.int .i64 s.p.outs,.slice ca2 s.p.cs.length cc2,.int .i64 s.p.an,.slice sa2 s.p.st.length sc2,.int .i64 s.p.rounds,.int .i64 s.tn,.slice ta2 s.tab.length tc2,.slice xa2 n xc2],.int .i64 e,.int .i64 f] W (Post W fun w' r=>r=.tuple #[.int .i64 (if 0≤dstV s f e then dstV s f e else 0),.bool (decide (0≤dstV s f e)),.int .i64 0])):=Lib.hid fun W hW=>by
  have:=pDist_calls e f WFE.out WFF.out (HSY.out.ext hW) HFW.out
  unfold DstR at this
  rw[HTH.out,dstA_nat HTH.out,dstB_nat HTH.out]at this
  exact this
 have KV:Hid (∀l,chkW s l=0→∀W u,Below w2.heap.size w2 W→Sl (kFlat 2) TT W u l→Calls Tryz.prog 24 #[.agg #[.int .i64 s.p.n,.int .i64 s.p.ins,.int .i64 s.p.outs,.slice ca2 s.p.cs.length cc2,.int .i64 s.p.an,.slice sa2 s.p.st.length sc2,.int .i64 s.p.rounds,.int .i64 s.tn,.slice ta2 s.tab.length tc2,.slice xa2 n xc2],u] W (Post W fun _ r=>r=.int .i64 0)):=Lib.hid fun l hl W u hW hu=>by
  have:=pVerifyW_calls (HSY.out.ext hW) HFW.out hu
  unfold verW at this
  rw[if_pos HV0.out,hl]at this
  exact this
 clear hee hff RP HSY HFW HG
 have t0:=R5.cell (j:=0) rfl
 have t1:=R5.cell (j:=1) rfl
 have t2:=R5.cell (j:=2) rfl
 have t3:=R5.cell (j:=3) rfl
 have t4:=R5.cell (j:=4) rfl
 have t5:=R5.cell (j:=5) rfl
 have t6:=R5.cell (j:=6) rfl
 have t7:=R5.cell (j:=7) rfl
 have t8:=R5.cell (j:=8) rfl
 have t9:=R5.cell (j:=9) rfl
 have lR5:=R5.lt
 go_upto_region 5 with fail
 rw[←HW2.out,←HB5.out]
 go_quiet (fail)
 clear wx wy m1 m2 hx hy hn0 HW2 HB5
 go_wp2_with fail
 refine (KC.out _ (drewN_below _ _ _)).mono ?_
 rintro _ w4 ⟨_,rfl,hb,ap,cp,rfl,hi⟩
 have ex:=ext_trans (drewN_below w2.heap.size w2 _) hb
 replace R5:=R5.ext ex
 have H1:=Lib.hid hi
 clear hb KC hi t0 t1 t2 t3 t4 t5 t6 t7 t8 t9 lR5
 by_cases hd0:0≤dstV s f e
 case neg=>
  rw[decide_eq_false hd0]at KW KD
  rw[if_neg hd0]at KD
  have HWE:Hid (wlkL s f e=[]):=Lib.hid (by unfold wlkL;rw[if_pos (by omega)])
  rw[HWE.out]at KW
  have HDN:=Lib.hid hd0
  clear hd0
  have t0:=R5.cell (j:=0) rfl
  have t1:=R5.cell (j:=1) rfl
  have t2:=R5.cell (j:=2) rfl
  have t3:=R5.cell (j:=3) rfl
  have t4:=R5.cell (j:=4) rfl
  have t5:=R5.cell (j:=5) rfl
  have t6:=R5.cell (j:=6) rfl
  have t7:=R5.cell (j:=7) rfl
  have t8:=R5.cell (j:=8) rfl
  have t9:=R5.cell (j:=9) rfl
  have lR5:=R5.lt
  go_wp2_with fail
  refine (KW.out _ ex).mono ?_
  rintro _ w5 ⟨_,rfl,hb,aw,cw,rfl,hi⟩
  replace ex:=ext_trans ex hb
  replace R5:=R5.ext hb
  replace H1:=Lib.hid (H1.out.ext hb)
  clear hb KW t0 t1 t2 t3 t4 t5 t6 t7 t8 t9 lR5
  have t0:=R5.cell (j:=0) rfl
  have t1:=R5.cell (j:=1) rfl
  have t2:=R5.cell (j:=2) rfl
  have t3:=R5.cell (j:=3) rfl
  have t4:=R5.cell (j:=4) rfl
  have t5:=R5.cell (j:=5) rfl
  have t6:=R5.cell (j:=6) rfl
  have t7:=R5.cell (j:=7) rfl
  have t8:=R5.cell (j:=8) rfl
  have t9:=R5.cell (j:=9) rfl
  have lR5:=R5.lt
  go_wp2_with fail
  refine (KD.out _ ex).mono ?_
  rintro _ w6 ⟨_,rfl,hb,rfl⟩
  replace ex:=ext_trans ex hb
  replace R5:=R5.ext hb
  replace H1:=Lib.hid (H1.out.ext hb)
  clear hb KD t0 t1 t2 t3 t4 t5 t6 t7 t8 t9 lR5
  have hie:=H1.out.idx (k:=e) (by rw[HLL.out];exact HE.out)
  have hce:=H1.out.cellN (k:=e) (by rw[HLL.out];exact HE.out)
  have hif:=H1.out.idx (k:=f) (by rw[HLL.out];exact HF.out)
  have hcf:=H1.out.cellN (k:=f) (by rw[HLL.out];exact HF.out)
  obtain ⟨pe,hpe⟩:∃u,u=nth (cmpL s (s.N - 1)) e:=⟨_,rfl⟩
  obtain ⟨pf,hpf⟩:∃u,u=nth (cmpL s (s.N - 1)) f:=⟨_,rfl⟩
  rw[←hpe]at hce
  rw[←hpf]at hcf
  have bce:=World.block_lt_of_cell? _ _ hce
  have bcf:=World.block_lt_of_cell? _ _ hcf
  have hpp:(pe==pf)=false:=by rw[beq_eq_false_iff_ne,hpe,hpf];exact fun h=>by have h1:=HPP.out.1 h;have h2:=HDN.out;omega
  have HXX:=Lib.hid (ext_trans HEX.out ex)
  clear R5 ex hpe hpf
  go_wp2
  go_quiet (fail)
  clear hpp hie hce hif hcf bce bcf
  go_wp2_with fail
  refine (awake_calls _).mono ?_
  rintro _ w99 ⟨_,rfl,hb,rfl⟩
  have HXE:=Lib.hid (ext_trans (ext_drewN HXX.out _) hb)
  clear hb
  go_wp2
  go_ret
  exact .mk HXE.out rfl
 obtain ⟨d,hd⟩:∃d:Nat,dstV s f e=d:=⟨(dstV s f e).toNat,by omega⟩
 have HD:=Lib.hid hd
 have hdn:d<s.ex.length:=by have:=dst_bound (s:=s) f HE2.out;omega
 obtain ⟨m,hm⟩:∃m,m=d+1:=⟨_,rfl⟩
 have HWE:Hid (wlkL s f e=wlkTo s f e d):=Lib.hid (wlkL_of HD.out)
 have HML:Hid ((wlkTo s f e d).length=m):=Lib.hid (by rw[wlkTo_len,hm])
 rw[HWE.out,HML.out,decide_eq_true hd0]at KW
 rw[if_pos hd0,decide_eq_true hd0,hd]at KD
 have hmn:m≤n:=by rw[HNN.out];omega
 have hdm:d<m:=by omega
 have HM:=Lib.hid hm
 have HD0:=Lib.hid hd0
 clear hd0 hd hdn hm
 have t0:=R5.cell (j:=0) rfl
 have t1:=R5.cell (j:=1) rfl
 have t2:=R5.cell (j:=2) rfl
 have t3:=R5.cell (j:=3) rfl
 have t4:=R5.cell (j:=4) rfl
 have t5:=R5.cell (j:=5) rfl
 have t6:=R5.cell (j:=6) rfl
 have t7:=R5.cell (j:=7) rfl
 have t8:=R5.cell (j:=8) rfl
 have t9:=R5.cell (j:=9) rfl
 have lR5:=R5.lt
 go_wp2_with fail
 refine (KW.out _ ex).mono ?_
 rintro _ w5 ⟨_,rfl,hb,aw,cw,rfl,hi⟩
 replace ex:=ext_trans ex hb
 replace R5:=R5.ext hb
 replace H1:=Lib.hid (H1.out.ext hb)
 have H2:=Lib.hid hi
 clear hi
 clear hb KW t0 t1 t2 t3 t4 t5 t6 t7 t8 t9 lR5
 have t0:=R5.cell (j:=0) rfl
 have t1:=R5.cell (j:=1) rfl
 have t2:=R5.cell (j:=2) rfl
 have t3:=R5.cell (j:=3) rfl
 have t4:=R5.cell (j:=4) rfl
 have t5:=R5.cell (j:=5) rfl
 have t6:=R5.cell (j:=6) rfl
 have t7:=R5.cell (j:=7) rfl
 have t8:=R5.cell (j:=8) rfl
 have t9:=R5.cell (j:=9) rfl
 have lR5:=R5.lt
 go_wp2_with fail
 refine (KD.out _ ex).mono ?_
 rintro _ w6 ⟨_,rfl,hb,rfl⟩
 replace ex:=ext_trans ex hb
 replace R5:=R5.ext hb
 replace H1:=Lib.hid (H1.out.ext hb)
 replace H2:=Lib.hid (H2.out.ext hb)
 clear hb KD t0 t1 t2 t3 t4 t5 t6 t7 t8 t9 lR5
 have hie:=H1.out.idx (k:=e) (by rw[HLL.out];exact HE.out)
 have hce:=H1.out.cellN (k:=e) (by rw[HLL.out];exact HE.out)
 have hif:=H1.out.idx (k:=f) (by rw[HLL.out];exact HF.out)
 have hcf:=H1.out.cellN (k:=f) (by rw[HLL.out];exact HF.out)
 obtain ⟨pe,hpe⟩:∃u,u=nth (cmpL s (s.N - 1)) e:=⟨_,rfl⟩
 obtain ⟨pf,hpf⟩:∃u,u=nth (cmpL s (s.N - 1)) f:=⟨_,rfl⟩
 rw[←hpe]at hce
 rw[←hpf]at hcf
 have bce:=World.block_lt_of_cell? _ _ hce
 have bcf:=World.block_lt_of_cell? _ _ hcf
 have hpp:(pe==pf)=true:=by rw[beq_iff_eq,hpe,hpf];exact HPP.out.2 HD0.out
 clear hpe hpf
 go_wp2
 go_quiet (fail)
 clear hpp hie hce hif hcf bce bcf H1 HPP HLL HD0
 obtain ⟨wQ,hwQ⟩:∃wQ,wQ=w6.drewN nq:=⟨_,rfl⟩
 have hbq:Below w6.heap.size w6 wQ:=by rw[hwQ];exact drewN_below _ _ _
 rw[←hwQ]
 clear hwQ
 replace R5:=R5.ext hbq
 replace H2:=Lib.hid (H2.out.ext hbq)
 replace ex:=ext_trans ex hbq
 have hm:=HM.out
 subst hm
 have hd4:d<4096:=by omega
 have HIX:Hid (∀k,k<d+1→∀W:World,(Instr.indexAt 53 (.slice aw (d+1) cw) (.int .i64 k)).run Tryz.prog W=.ok (.pointer (some (adr aw (k * 2)))) W):=Lib.hid (by
  obtain ⟨_,_,he,ad,_⟩:=H2.out.form2
  rw[HML.out]at he ad
  cases he
  exact idx_link ad)
 have HCX:Hid (∀k,k≤d→wQ.cell? (adr aw (k * 2))=some (.int .i64 (xsE s f e k))∧wQ.cell? ⟨(adr aw (k * 2)).block,(adr aw (k * 2)).off+1,none⟩=some (.int .i64 (nth (wlkR s f e k) 1))):=Lib.hid fun k hk=>by
  have h:=H2.out.nums (k:=k) (by rw[HML.out];exact Nat.lt_of_le_of_lt hk hdm) (by decide)
  rw[wlkTo_at s f e hk]at h
  exact ⟨by rw[←wlkR_ex s f e k];exact h.1,h.2 1 (by decide)⟩
 have HCW:Hid (∀k,k≤d→WF (nth (wlkR s f e k) 0)∧WF (nth (wlkR s f e k) 1)):=Lib.hid fun k hk=>by
  obtain ⟨h1,h2,_⟩:=H2.out.num (k:=k) (by rw[HML.out];exact Nat.lt_succ_of_le hk)
  rw[wlkTo_at s f e hk]at h1 h2
  have key:∀i,i<2→WF (nth (wlkR s f e k) i):=fun i hi=>h2 _ (nth_mem (by rw[h1];exact hi))
  exact ⟨key 0 (by decide),key 1 (by decide)⟩
 have q0:∀W:World,(Instr.indexAt 53 (.slice aw (d+1) cw) (.int .i64 0)).run Tryz.prog W=.ok (.pointer (some (adr aw 0))) W:=by
  have h:=HIX.out 0 (Nat.lt_of_le_of_lt (Nat.zero_le d) hdm)
  rw[Nat.zero_mul]at h
  exact h
 have c0:wQ.cell? (adr aw 0)=some (.int .i64 e):=by
  have h:=(HCX.out 0 (Nat.zero_le d)).1
  rw[Nat.zero_mul,xsE_zero]at h
  exact h
 have qd:=HIX.out d hdm
 have cd:=(HCX.out d (Nat.le_refl _)).1
 rw[xs_last HE2.out HD.out]at cd
 have b0:=World.block_lt_of_cell? _ _ c0
 have bd:=World.block_lt_of_cell? _ _ cd
 clear hbq
 have t0:=R5.cell (j:=0) rfl
 have t1:=R5.cell (j:=1) rfl
 have t2:=R5.cell (j:=2) rfl
 have t3:=R5.cell (j:=3) rfl
 have t4:=R5.cell (j:=4) rfl
 have t5:=R5.cell (j:=5) rfl
 have t6:=R5.cell (j:=6) rfl
 have t7:=R5.cell (j:=7) rfl
 have t8:=R5.cell (j:=8) rfl
 have t9:=R5.cell (j:=9) rfl
 have lR5:=R5.lt
 go_wp2_with fail
 refine (KV.out _ (walk_ok HE2.out HD.out HX4.out) _ _ ex H2.out).mono ?_
 rintro _ wM ⟨_,rfl,hb,rfl⟩
 replace ex:=ext_trans ex hb
 replace R5:=R5.ext hb
 replace HCX:=Lib.hid (fun k hk=>(⟨cell_ext (HCX.out k hk).1 hb,cell_ext (HCX.out k hk).2 hb⟩:wM.cell? (adr aw (k * 2))=some (.int .i64 (xsE s f e k))∧wM.cell? ⟨(adr aw (k * 2)).block,(adr aw (k * 2)).off+1,none⟩=some (.int .i64 (nth (wlkR s f e k) 1))))
 clear hb q0 c0 qd cd b0 bd t0 t1 t2 t3 t4 t5 t6 t7 t8 t9 lR5 H2
 have hmk:=run_make_row' 71 4 (.bool false) 1 Tryz.underlying71 info_bool1 rfl .i64 .i64 n (by omega) (by omega)
 have SR:=(Row.made wM (.bool false) n 4).alloc (.cells #[.int .i64 f,.int .i64 (-1)] 70)
 have BR:=row_new (wM.alloc (.cells (madeCells #[.bool false] n) 4)) [.int .i64 f,.int .i64 (-1)] 70
 rw[World.size_alloc]at BR
 rw[←yesRow_none n]at SR
 have e0:=ext_alloc' (ext_alloc wM (.cells (madeCells #[.bool false] n) 4)) (.cells #[.int .i64 f,.int .i64 (-1)] 70)
 have HBO:OwnK (kFlat 2) 70 (wM.heap.size+1) (fun _=>False) ((wM.alloc (.cells (madeCells #[.bool false] n) 4)).alloc (.cells #[.int .i64 f,.int .i64 (-1)] 70)) (.slice (some ⟨wM.heap.size+1,0,none⟩) 1 1) (bakTo s f e d (min 0 d)):=by
  rw[Nat.zero_min]
  exact own_word (l:=[[(f:Int), -1]]) (BR.ownsW (n:=1) (z:=2) (Nat.le_refl _) rfl (by decide)) (fun r hr=>by
   rw[List.mem_singleton.1 hr]
   exact ⟨rfl,fun z hz=>by
    rcases List.mem_cons.1 hz with rfl | hz
    ·exact WFF.out
    ·rw[List.mem_singleton.1 hz];exact WF.small (by decide)⟩)
 have HR5:=Lib.hid R5
 have HEM:=Lib.hid ex
 clear R5 ex BR
 go_wp2
 clear hmk
 go_loopw [21,22,23,141] (fun b _ _ i wr=>∃k:Nat,k≤d+1∧i=.int .i64 k∧Below wM.heap.size wM wr∧Row wr wM.heap.size 4 (yesRow (onB s f e k) n)∧OwnK (kFlat 2) 70 (wM.heap.size+1) (fun _=>False) wr b (bakTo s f e d (min k d))) (fun _ _ _ i _=>d+1 - (intOf i).toNat)
 case atStart=>exact ⟨0,Nat.zero_le _,rfl,e0,SR,HBO⟩
 case round=>
  clear e0 SR HBO
  obtain ⟨k,hk,rfl,eb,SR,hO⟩:=hrel
  by_cases hlt:k<d+1
  case neg=>
   obtain rfl:k=d+1:=by omega
   rw[Nat.min_eq_right (Nat.le_succ d)]at hO
   obtain ⟨ba,bc,rfl,_⟩:=hO.form
   have hsl:=(hO.sl (by rw[bakTo_len];omega)).mono (S':=TT) fun _ _=>trivial
   have R5:=HR5.out.ext eb
   have ex:=ext_trans HEM.out eb
   have HS:=Lib.hid hsl
   clear hO eb SR hsl hlt hk
   have t0:=R5.cell (j:=0) rfl
   have t1:=R5.cell (j:=1) rfl
   have t2:=R5.cell (j:=2) rfl
   have t3:=R5.cell (j:=3) rfl
   have t4:=R5.cell (j:=4) rfl
   have t5:=R5.cell (j:=5) rfl
   have t6:=R5.cell (j:=6) rfl
   have t7:=R5.cell (j:=7) rfl
   have t8:=R5.cell (j:=8) rfl
   have t9:=R5.cell (j:=9) rfl
   have lR5:=R5.lt
   go_wp2_with fail
   refine (KV.out _ (back_ok HE2.out HD.out HX4.out) _ _ ex HS.out).mono ?_
   rintro _ w8 ⟨_,rfl,hb,rfl⟩
   have HXX:=Lib.hid (ext_trans HEX.out (ext_trans ex hb))
   clear hb ex R5 t0 t1 t2 t3 t4 t5 t6 t7 t8 t9 lR5
   go_wp2_with fail
   refine (awake_calls _).mono ?_
   rintro _ w99 ⟨_,rfl,hb,rfl⟩
   have HXE:=Lib.hid (ext_trans HXX.out hb)
   clear hb
   go_wp2
   go_ret
   exact .mk HXE.out rfl
  have hkd':k≤d:=Nat.le_of_lt_succ hlt
  have hxb:=(xs_spec HE2.out HD.out k hkd').1
  have hxo:=onB_new HE2.out HD.out hkd'
  have qk:=HIX.out k hlt
  have ck:=cell_ext (HCX.out k hkd').1 eb
  rw[←HNN.out]at hxb
  obtain ⟨x,hx⟩:∃x,x=xsE s f e k:=⟨_,rfl⟩
  rw[←hx]at hxb hxo ck
  have HXE:=Lib.hid hx
  have bk:=World.block_lt_of_cell? _ _ ck
  have cx:=SR.cell (j:=x) (yesRow_get hxb)
  rw[hxo]at cx
  have fx:=SR.free x
  have lx:=SR.lt
  have qx:=idx_yes wM.heap.size n n x hxb
  have SR2:=(SR.set x (.bool true)).get (show _=yesRow (onB s f e (k+1)) n by rw[yesRow_set hxb];exact yesRow_congr fun i _=>by rw[onB_succ,←HXE.out])
  have eb2:=eb.setCell (p:=⟨wM.heap.size,x,none⟩) (Nat.le_refl _) (.bool true)
  have hO2:OwnK (kFlat 2) 70 (wM.heap.size+1) (fun _=>False) (wr.setCell ⟨wM.heap.size,x,none⟩ (.bool true)) u21 (bakTo s f e d (min k d)):=hO.agree (T:=fun b=>b≠wM.heap.size) (.of_grown (grownBy_setCell wr wM.heap.size x (.bool true)) fun b hb e=>hb (by cases e;rfl)) (fun q hq=>by have:=(hO.lt q hq).1;omega) (fun b hb=>hb.elim)
  have HO2:=Lib.hid hO2
  have HSR:=Lib.hid SR2
  have HEB:=Lib.hid eb2
  have hx0:¬(x:Int)<0:=by omega
  have hxn:¬(n:Int)≤(x:Int):=by omega
  clear hx hxo SR SR2 eb eb2 hO hO2
  by_cases hkd:k<d
  case neg=>
   obtain rfl:k=d:=by omega
   go_wp2
   go_roundw
   case rel=>exact ⟨k+1,by omega,by go_num,HEB.out,HSR.out,by have h:=HO2.out;rw[Nat.min_self]at h;rw[Nat.min_eq_right (Nat.le_succ k)];exact h⟩
   case measure=>simp[intOf]<;>omega
  have HMIN:Hid (min k d=k):=Lib.hid (Nat.min_eq_left hkd')
  have hO3:=HO2.out
  rw[HMIN.out]at hO3
  obtain ⟨acc,hacc⟩:∃acc,acc=bakTo s f e d k:=⟨_,rfl⟩
  have HAL:Hid (acc.length=k+1):=Lib.hid (by rw[hacc,bakTo_len])
  have HSU:=Lib.hid (bakTo_succ s f e d k)
  rw[←hacc]at hO3 HSU
  obtain ⟨ba,bc,hbv,_⟩:=hO3.form
  rw[HAL.out]at hbv
  obtain ⟨j,hj⟩:∃j,j=d - 1 - k:=⟨_,rfl⟩
  obtain ⟨l,hl⟩:∃l,l=d - k:=⟨_,rfl⟩
  obtain ⟨d1,hd1⟩:∃d1,d1=d - 1:=⟨_,rfl⟩
  have hjd:j≤d:=by omega
  have hld:l≤d:=by omega
  have cj:=(HCX.out j hjd).1
  have cl:=(HCX.out l hld).2
  rw[←wlkR_ex s f e j]at cj
  have hwj:=(HCW.out j hjd).1
  have hwl:=(HCW.out l hld).2
  have HBK:Hid (bakR s f e d (k+1)=[nth (wlkR s f e j) 0,nth (wlkR s f e l) 1]):=Lib.hid (by rw[hj,hl];rfl)
  obtain ⟨b1,hb1⟩:∃b1,b1=nth (wlkR s f e j) 0:=⟨_,rfl⟩
  obtain ⟨b2,hb2⟩:∃b2,b2=nth (wlkR s f e l) 1:=⟨_,rfl⟩
  rw[←hb1]at cj hwj HBK
  rw[←hb2]at cl hwl HBK
  have HSU2:Hid (bakTo s f e d (k+1)=acc++[[b1,b2]]):=Lib.hid (by rw[HSU.out,HBK.out])
  have qj:=HIX.out j (Nat.lt_succ_of_le hjd)
  have ql:=HIX.out l (Nat.lt_succ_of_le hld)
  have g1:IntKind.i64.wrap ((d:Int) - 1)=(d1:Int):=by simp[IntKind.wrap,IntKind.bits,IntKind.signed];omega
  have g2:IntKind.i64.wrap ((d1:Int) - (k:Int))=(j:Int):=by simp[IntKind.wrap,IntKind.bits,IntKind.signed];omega
  have g3:IntKind.i64.wrap ((d:Int) - (k:Int))=(l:Int):=by simp[IntKind.wrap,IntKind.bits,IntKind.signed];omega
  have KEEP:Hid (∀w',Below wM.heap.size wM w'→(fun w':World=>w'.cell? (adr aw (j * 2))=some (.int .i64 b1)∧w'.cell? ⟨(adr aw (l * 2)).block,(adr aw (l * 2)).off+1,none⟩=some (.int .i64 b2)) w'):=Lib.hid fun w' hw=>⟨cell_ext cj hw,cell_ext cl hw⟩
  have HO3:=Lib.hid hO3
  have HBV:=Lib.hid hbv
  have HWJ:=Lib.hid hwj
  have HWL:=Lib.hid hwl
  clear hacc hj hl hd1 hjd hld cj cl hb1 hb2 hO3 hbv HBK HSU hwj hwl
  obtain ⟨w20,hw20⟩:∃w20,w20=wr.setCell ⟨wM.heap.size,x,none⟩ (.bool true):=⟨_,rfl⟩
  rw[←hw20]at HEB HSR HO2 HO3
  have HW20:=Lib.hid hw20
  clear hw20
  go_upto_region 25 with fail
  rw[←HW20.out]
  have hbv:=HBV.out
  subst hbv
  clear cx fx lx qx ck bk qk HW20 HO2
  have HO20:=Lib.hid (HO3.out.ext (drewN_below _ w20 1))
  have y20:Below wM.heap.size wM w20.drew:=HEB.out.trans (drewN_below _ _ 1)
  have HRD:Hid ((kFlat 2).rd (fun b=>False∧(Value.slice ba (k+1) bc).ownBlock≠some b) w20.drew [.int .i64 b1,.int .i64 b2] [b1,b2]):=Lib.hid ⟨rfl,rfl,fun z hz=>by
   rcases List.mem_cons.1 hz with rfl | hz
   ·exact HWJ.out
   ·rw[List.mem_singleton.1 hz];exact HWL.out⟩
  have HBY:Hid ((acc.length+1) * 16≤140737488355328):=Lib.hid (by rw[HAL.out];omega)
  have HBN:Hid (acc.length<9223372036854775807):=Lib.hid (by rw[HAL.out];omega)
  have HBS:Hid (wM.heap.size+1≤w20.drew.heap.size):=Lib.hid HSR.out.lt
  refine region_E (fun w':World=>w'.cell? (adr aw (j * 2))=some (.int .i64 b1)∧w'.cell? ⟨(adr aw (l * 2)).block,(adr aw (l * 2)).off+1,none⟩=some (.int .i64 b2)) (fun i=>false) (by kernel_rfl) ?_ (fun hHeld=>?_)
  ·exact KEEP.out _ y20
  refine anyE_take 0 (v:=?_) rfl (by kernel_rfl) (fun _ _ _ h=>h) (by rfl) ?hy0 hHeld ?rest0
  case hy0=>(intro w hSw;(try dsimp only at hSw);go_simp;try with_reducible rfl)
  try simp only[Act.put,zsa,zsz,zss]
  refine anyE_take 1 (v:=?_) rfl (by kernel_rfl) (fun _ _ _ h=>h) (by rfl) ?hy1 hHeld ?rest1
  case hy1=>(intro w hSw;(try dsimp only at hSw);go_simp;try with_reducible rfl)
  try simp only[Act.put,zsa,zsz,zss]
  refine anyE_take 2 (v:=?_) rfl (by kernel_rfl) (fun _ _ _ h=>h) (by rfl) ?hy2 hHeld ?rest2
  case hy2=>(intro w hSw;(try dsimp only at hSw);go_simp;try with_reducible rfl)
  try simp only[Act.put,zsa,zsz,zss]
  refine anyE_take 3 (v:=?_) rfl (by kernel_rfl) (fun _ _ _ h=>h) (by rfl) ?hy3 hHeld ?rest3
  case hy3=>(intro w hSw;(try dsimp only at hSw);go_simp;try with_reducible rfl)
  try simp only[Act.put,zsa,zsz,zss]
  refine anyE_take 4 (v:=?_) rfl (by kernel_rfl) (fun _ _ _ h=>h) (by rfl) ?hy4 hHeld ?rest4
  case hy4=>(intro w hSw;(try dsimp only at hSw);go_simp;try with_reducible rfl)
  try simp only[Act.put,zsa,zsz,zss]
  refine anyE_take 5 (v:=?_) rfl (by kernel_rfl) (fun _ _ _ h=>h) (by rfl) ?hy5 hHeld ?rest5
  case hy5=>(intro w hSw;(try dsimp only at hSw);go_simp;try with_reducible rfl)
  try simp only[Act.put,zsa,zsz,zss]
  refine anyE_take 6 (v:=?_) rfl (by kernel_rfl) (fun _ _ _ h=>h) (by rfl) ?hy6 hHeld ?rest6
  case hy6=>(intro w hSw;(try dsimp only at hSw);go_simp;try with_reducible rfl)
  try simp only[Act.put,zsa,zsz,zss]
  refine anyE_take 7 (v:=?_) rfl (by kernel_rfl) (fun _ _ _ h=>h) (by rfl) ?hy7 hHeld ?rest7
  case hy7=>(intro w hSw;(try dsimp only at hSw);go_simp;try with_reducible rfl)
  try simp only[Act.put,zsa,zsz,zss]
  refine anyE_take 8 (v:=?_) rfl (by kernel_rfl) (fun _ _ _ h=>h) (by rfl) ?hy8 hHeld ?rest8
  case hy8=>(intro w hSw;(try dsimp only at hSw);go_simp;try with_reducible rfl)
  try simp only[Act.put,zsa,zsz,zss]
  refine anyE_take 9 (v:=?_) rfl (by kernel_rfl) (fun _ _ _ h=>h) (by rfl) ?hy9 hHeld ?rest9
  case hy9=>(intro w hSw;(try dsimp only at hSw);go_simp;try with_reducible rfl)
  try simp only[Act.put,zsa,zsz,zss]
  refine anyE_take 10 (v:=?_) rfl (by kernel_rfl) (fun _ _ _ h=>h) (by rfl) ?hy10 hHeld ?rest10
  case hy10=>(intro w hSw;(try dsimp only at hSw);go_simp;try with_reducible rfl)
  try simp only[Act.put,zsa,zsz,zss]
  refine anyE_take 11 (v:=?_) rfl (by kernel_rfl) (fun _ _ _ h=>h) (by rfl) ?hy11 hHeld ?rest11
  case hy11=>(intro w hSw;(try dsimp only at hSw);go_simp;try with_reducible rfl)
  try simp only[Act.put,zsa,zsz,zss]
  refine anyE_take 12 (v:=?_) rfl (by kernel_rfl) (fun _ _ _ h=>h) (by rfl) ?hy12 hHeld ?rest12
  case hy12=>(intro w hSw;(try dsimp only at hSw);go_simp;try with_reducible rfl)
  try simp only[Act.put,zsa,zsz,zss]
  refine anyE_take 13 (v:=?_) rfl (by kernel_rfl) (fun _ _ _ h=>h) (by rfl) ?hy13 hHeld ?rest13
  case hy13=>(intro w hSw;(try dsimp only at hSw);go_simp;try with_reducible rfl)
  try simp only[Act.put,zsa,zsz,zss]
  refine anyE_take 14 (v:=?_) rfl (by kernel_rfl) (fun _ _ _ h=>h) (by rfl) ?hy14 hHeld ?rest14
  case hy14=>(intro w hSw;(try dsimp only at hSw);go_simp;try with_reducible rfl)
  try simp only[Act.put,zsa,zsz,zss]
  refine anyE_take 15 (v:=?_) rfl (by kernel_rfl) (fun _ _ _ h=>h) (by rfl) ?hy15 hHeld ?rest15
  case hy15=>(intro w hSw;(try dsimp only at hSw);go_simp;try with_reducible rfl)
  try simp only[Act.put,zsa,zsz,zss]
  refine anyE_take 16 (v:=?_) rfl (by kernel_rfl) (fun _ _ _ h=>h) (by rfl) ?hy16 hHeld ?rest16
  case hy16=>(intro w hSw;(try dsimp only at hSw);go_simp;try with_reducible rfl)
  try simp only[Act.put,zsa,zsz,zss]
  refine anyE_one 17 rfl (by kernel_rfl) (fun K hK=>?_)
  go_simp
  refine hK.out _ _ (fun _=>KEEP.out _ (ext_alloc' y20 _)) (fun hHeld=>?_);replace hHeld:=hHeld rfl
  clear hK K
  try simp only[Act.put,zsa,zsz,zss]
  refine anyE_one 18 rfl (by kernel_rfl) (fun K hK=>?_)
  (refine step_pushK (K:=kFlat 2) (w:=w20.drew) (S:=fun _=>False) (base:=wM.heap.size+1) (v:=.slice ba (k+1) bc) (l:=acc) (by rfl) _ _ 53 (by rfl) 70 _ 16 Tryz.underlying53 info_link rfl (by decide) (by rfl) HO20.out (cs:=[.int .i64 b1,.int .i64 b2]) (by rfl) HRD.out HBY.out HBN.out HBS.out ?_;intro g7 c7 w7 ho hb7 _ _ _;rw[HAL.out]at ho;rw[HAL.out])
  refine hK.out _ _ (fun _=>KEEP.out _ (y20.trans (hb7.mono (Nat.le_succ _)))) (fun hHeld=>?_);replace hHeld:=hHeld rfl
  clear hK K
  try simp only[Act.put,zsa,zsz,zss]
  refine anyE_take 19 (v:=?_) rfl (by kernel_rfl) (fun _ _ _ h=>h) (by rfl) ?hy19 hHeld ?rest19
  case hy19=>(intro w hSw;(try dsimp only at hSw);go_simp;try with_reducible rfl)
  try simp only[Act.put,zsa,zsz,zss]
  refine anyE_done (by kernel_rfl) ?_ _
  have HO7:=Lib.hid ho
  have HY7:=Lib.hid (y20.trans (hb7.mono (Nat.le_succ _)))
  have HS7:=Lib.hid (row_under (HSR.out.ext (drewN_below _ w20 1)) (Nat.lt_succ_self _) hb7)
  clear hHeld KEEP y20 ho hb7 g1 g2 g3 qj ql
  go_wp2
  go_roundw
  case rel=>exact ⟨k+1,hlt,by go_num,HY7.out,HS7.out,by rw[Nat.min_eq_left hkd,HSU2.out];exact HO7.out⟩
  case measure=>simp[intOf]<;>omega
end Go.Proofs.YtaijafjfafbcfaaGreat
