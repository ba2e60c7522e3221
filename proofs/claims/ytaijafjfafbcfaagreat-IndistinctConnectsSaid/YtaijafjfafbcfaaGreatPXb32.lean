/- Part of the proof that the laws answer true for every input. -/
import Derived.Test.YtaijafjfafbcfaaGreatPXb27
import Derived.Test.YtaijafjfafbcfaaGreatPXb31
set_option linter.unusedSimpArgs false
set_option linter.unnecessarySimpa false
set_option linter.unusedVariables false
set_option maxRecDepth 100000
set_option maxHeartbeats 40000000
namespace Go.Proofs.YtaijafjfafbcfaaGreat
open Go.RowKit
attribute [local go_sem ↓] Go.wp_at_zero Go.wp_at_succ
end Go.Proofs.YtaijafjfafbcfaaGreat
namespace Go.Proofs.YtaijafjfafbcfaaGreat
open Go.RowKit
attribute [local go_sem ↓] Go.wp_at_zero Go.wp_at_succ
theorem num_test {p:ProbD} (h:1≤p.cs.length):4096<p.cs.length * cutW p.st p.rounds.toNat 4096 0↔4096<p.num:=by
 unfold ProbD.num
 by_cases hc:4096<cntW p.st p.rounds.toNat 0
 ·have h1:=cutW_gt.2 hc
  have h2:=Nat.mul_le_mul_right (cutW p.st p.rounds.toNat 4096 0) h
  have h3:=Nat.mul_le_mul_right (cntW p.st p.rounds.toNat 0) h
  omega
 ·rw[cutW_eq hc]
theorem sys_small {p:ProbD} {N:Nat} (hn:p.n=N) (hN:N≤3) (hk:0≤p.rounds∧p.rounds≤6) (hnum:p.num≤60):p.full.tab.length≤1260:=by
 have h1:=runE_size p.n.toNat p.rounds.toNat p.cs p.pairs p.pairs_word
 rw[p.pairs_len]at h1
 have h2:p.num * (p.n.toNat * (p.rounds.toNat+1))≤60 * (3 * 7):=Nat.mul_le_mul hnum (Nat.mul_le_mul (by omega) (by omega))
 show (runE p.n.toNat p.cs p.pairs).1.length≤1260
 omega
theorem rbuilt_calls {S:Nat→Prop} {w:World} {vc vs:Value} {p:ProbD} (hc:Sl kCase S w vc p.cs) (hs:Sl (kSl (kFlat 8)) S w vs p.st) (hz:checkPr p=0) (hnum:p.num≤60) (hn3:p.n≤3):
  Calls Tryz.prog 87 #[.agg #[.int .i64 p.n,.int .i64 p.ins,.int .i64 p.outs,vc,.int .i64 p.an,vs,.int .i64 p.rounds]] w (Post w fun w' r=>SysV (fun b=>S b∨w.heap.size≤b) w' r p.full):=by
 obtain ⟨N,hok⟩:=probOK hz
 obtain ⟨n,ins,outs,cs,an,st,rounds⟩:=p
 obtain ⟨K,hK⟩:∃K:Nat,rounds=K:=⟨rounds.toNat,by have:=hok.r;dsimp only at this;omega⟩
 have e1:=hok.n
 have e2:=hok.an
 dsimp only at e1 e2
 subst e1 e2 hK
 exact rbuilt_calls0 hc.block hs.block hok hnum (by dsimp only at hn3;omega)
theorem rbuild_calls {S:Nat→Prop} {w:World} {vc vs:Value} {p:ProbD} (hc:Sl kCase S w vc p.cs) (hs:Sl (kSl (kFlat 8)) S w vs p.st) (hsm:SmallP p):
  Calls Tryz.prog 61 #[.agg #[.int .i64 p.n,.int .i64 p.ins,.int .i64 p.outs,vc,.int .i64 p.an,vs,.int .i64 p.rounds]] w (Post w (BuildR p)):=by
 obtain ⟨ca,cc,rfl,_⟩:=hc.form
 obtain ⟨sa,sc,rfl,_⟩:=hs.form
 have KC:Hid (∀W,Below w.heap.size w W→Calls Tryz.prog 57 #[.agg #[.int .i64 p.n,.int .i64 p.ins,.int .i64 p.outs,.slice ca p.cs.length cc,.int .i64 p.an,.slice sa p.st.length sc,.int .i64 p.rounds]] W (Post W fun _ r=>r=.int .i64 (checkPr p))):=Lib.hid fun W hW=>rcheckPr_calls (hc.ext hW) (hs.ext hW)
 have KN:Hid (checkPr p=0→∀W,Below w.heap.size w W→Calls Tryz.prog 58 #[.agg #[.int .i64 p.n,.int .i64 p.ins,.int .i64 p.outs,.slice ca p.cs.length cc,.int .i64 p.an,.slice sa p.st.length sc,.int .i64 p.rounds],.int .i64 4096] W (Post W fun _ r=>r=.int .i64 (p.cs.length * cutW p.st p.rounds.toNat 4096 0:Nat))):=Lib.hid fun hz W hW=>rnumber_calls (hc.ext hW) (hs.ext hW) hz 4096 (by omega)
 have KB:Hid (checkPr p=0→p.num≤4096→∀W,Below w.heap.size w W→Calls Tryz.prog 87 #[.agg #[.int .i64 p.n,.int .i64 p.ins,.int .i64 p.outs,.slice ca p.cs.length cc,.int .i64 p.an,.slice sa p.st.length sc,.int .i64 p.rounds]] W (Post W fun w' r=>SysV (fun b=>(S b∧b<w.heap.size)∨W.heap.size≤b) w' r p.full)):=Lib.hid fun hz hn W hW=>rbuilt_calls (hc.block.ext hW) (hs.block.ext hW) hz (hsm hz hn).1 (hsm hz hn).2
 have HSM:=Lib.hid hsm
 have ex:=ext_alloc' (ext_alloc w (.cells #[.int .i64 p.n,.int .i64 p.ins,.int .i64 p.outs,.slice ca p.cs.length cc,.int .i64 p.an,.slice sa p.st.length sc,.int .i64 p.rounds] 29)) (.cells #[.int .i64 0,.int .i64 0,.int .i64 0,.slice none 0 0,.int .i64 0,.slice none 0 0,.int .i64 0,.int .i64 0,.slice none 0 0,.slice none 0 0] 35)
 have R1:=(row_new w [.int .i64 p.n,.int .i64 p.ins,.int .i64 p.outs,.slice ca p.cs.length cc,.int .i64 p.an,.slice sa p.st.length sc,.int .i64 p.rounds] 29).alloc (.cells #[.int .i64 0,.int .i64 0,.int .i64 0,.slice none 0 0,.int .i64 0,.slice none 0 0,.int .i64 0,.int .i64 0,.slice none 0 0,.slice none 0 0] 35)
 have RS:=row_new (w.alloc (.cells #[.int .i64 p.n,.int .i64 p.ins,.int .i64 p.outs,.slice ca p.cs.length cc,.int .i64 p.an,.slice sa p.st.length sc,.int .i64 p.rounds] 29)) [.int .i64 0,.int .i64 0,.int .i64 0,.slice none 0 0,.int .i64 0,.slice none 0 0,.int .i64 0,.int .i64 0,.slice none 0 0,.slice none 0 0] 35
 rw[World.size_alloc]at RS
 obtain ⟨S2,hS2'⟩:∃S2,S2=w.heap.size+1:=⟨_,rfl⟩
 have hS2:w.heap.size≤S2:=by omega
 rw[←hS2']at RS
 have HS2:=Lib.hid hS2'
 obtain ⟨e1,he1⟩:∃e,e=checkPr p:=⟨_,rfl⟩
 rw[←he1]at KC
 have HE1:=Lib.hid he1
 clear hc hs hsm he1 hS2'
 have c0:=R1.cell (j:=0) rfl
 have c1:=R1.cell (j:=1) rfl
 have c2:=R1.cell (j:=2) rfl
 have c3:=R1.cell (j:=3) rfl
 have c4:=R1.cell (j:=4) rfl
 have c5:=R1.cell (j:=5) rfl
 have c6:=R1.cell (j:=6) rfl
 have lR1:=R1.lt
 go_enter Tryz.func61,Tryz.ntmps61
 go_wp2_with fail
 refine (KC.out _ ex).mono ?_
 rintro _ w1 ⟨_,rfl,hb1,rfl⟩
 replace R1:=R1.ext hb1
 replace RS:=RS.ext hb1
 replace ex:=ext_trans ex hb1
 clear c0 c1 c2 c3 c4 c5 c6 lR1 hb1 KC
 rw[←HS2.out]
 by_cases h1:e1=0
 case neg=>
  have d1:(e1 !=0)=true:=by simp[h1]
  have HBE:Hid (buildE p≠0∧buildE p=e1):=Lib.hid (by
   have:buildE p=checkPr p:=by unfold buildE;rw[if_neg (by rw[←HE1.out];exact h1)]
   rw[this,←HE1.out];exact ⟨h1,rfl⟩)
  clear h1 R1
  have d0:=RS.cell (j:=0) rfl
  have d1:=RS.cell (j:=1) rfl
  have d2:=RS.cell (j:=2) rfl
  have d3:=RS.cell (j:=3) rfl
  have d4:=RS.cell (j:=4) rfl
  have d5:=RS.cell (j:=5) rfl
  have d6:=RS.cell (j:=6) rfl
  have d7:=RS.cell (j:=7) rfl
  have d8:=RS.cell (j:=8) rfl
  have d9:=RS.cell (j:=9) rfl
  have f0:=RS.free 0
  have f1:=RS.free 1
  have f2:=RS.free 2
  have f3:=RS.free 3
  have f4:=RS.free 4
  have f5:=RS.free 5
  have f6:=RS.free 6
  have f7:=RS.free 7
  have f8:=RS.free 8
  have f9:=RS.free 9
  have l2:=RS.lt
  have HRS:=Lib.hid (RS.sets [(0,.int .i64 0),(1,.int .i64 0),(2,.int .i64 0),(3,.slice none 0 0),(4,.int .i64 0),(5,.slice none 0 0),(6,.int .i64 0),(7,.int .i64 0),(8,.slice none 0 0),(9,.slice none 0 0)])
  have HBS:=Lib.hid (sets_below hS2 [(0,.int .i64 0),(1,.int .i64 0),(2,.int .i64 0),(3,.slice none 0 0),(4,.int .i64 0),(5,.slice none 0 0),(6,.int .i64 0),(7,.int .i64 0),(8,.slice none 0 0),(9,.slice none 0 0)] w1 ex)
  have HAS:=Lib.hid (sets_agree S2 [(0,.int .i64 0),(1,.int .i64 0),(2,.int .i64 0),(3,.slice none 0 0),(4,.int .i64 0),(5,.slice none 0 0),(6,.int .i64 0),(7,.int .i64 0),(8,.slice none 0 0),(9,.slice none 0 0)] w1)
  obtain ⟨W7,hW7⟩:∃W7,W7=sets S2 [(0,.int .i64 0),(1,.int .i64 0),(2,.int .i64 0),(3,.slice none 0 0),(4,.int .i64 0),(5,.slice none 0 0),(6,.int .i64 0),(7,.int .i64 0),(8,.slice none 0 0),(9,.slice none 0 0)] w1:=⟨_,rfl⟩
  rw[←hW7]at HRS HBS HAS
  unfold sets at hW7
  simp only[List.foldl_cons,List.foldl_nil]at hW7
  clear RS ex
  go_wp2
  rw[←hW7]
  clear hW7
  have q0:W7.cell? ⟨S2,0,none⟩=some _:=HRS.out.cell (j:=0) rfl
  have q1:W7.cell? ⟨S2,1,none⟩=some _:=HRS.out.cell (j:=1) rfl
  have q2:W7.cell? ⟨S2,2,none⟩=some _:=HRS.out.cell (j:=2) rfl
  have q3:W7.cell? ⟨S2,3,none⟩=some _:=HRS.out.cell (j:=3) rfl
  have q4:W7.cell? ⟨S2,4,none⟩=some _:=HRS.out.cell (j:=4) rfl
  have q5:W7.cell? ⟨S2,5,none⟩=some _:=HRS.out.cell (j:=5) rfl
  have q6:W7.cell? ⟨S2,6,none⟩=some _:=HRS.out.cell (j:=6) rfl
  have q7:W7.cell? ⟨S2,7,none⟩=some _:=HRS.out.cell (j:=7) rfl
  have q8:W7.cell? ⟨S2,8,none⟩=some _:=HRS.out.cell (j:=8) rfl
  have q9:W7.cell? ⟨S2,9,none⟩=some _:=HRS.out.cell (j:=9) rfl
  refine bodyPost_ret (v:=.tuple #[.agg #[.int .i64 0,.int .i64 0,.int .i64 0,.slice none 0 0,.int .i64 0,.slice none 0 0,.int .i64 0,.int .i64 0,.slice none 0 0,.slice none 0 0],.int .i64 e1]) (by simp[results,Tryz.results61,go_sem,q0,q1,q2,q3,q4,q5,q6,q7,q8,q9]) rfl ?_
  exact .mk HBS.out (.inr ⟨HBE.out.1,by rw[HBE.out.2];rfl⟩)
 have HZ:Hid (checkPr p=0):=Lib.hid (by rw[←HE1.out];exact h1)
 have d1:(e1 !=0)=false:=by simp[h1]
 clear h1
 have c0:=R1.cell (j:=0) rfl
 have c1:=R1.cell (j:=1) rfl
 have c2:=R1.cell (j:=2) rfl
 have c3:=R1.cell (j:=3) rfl
 have c4:=R1.cell (j:=4) rfl
 have c5:=R1.cell (j:=5) rfl
 have c6:=R1.cell (j:=6) rfl
 have lR1:=R1.lt
 have lRS:=RS.lt
 go_wp2_with fail
 refine (KN.out HZ.out _ ex).mono ?_
 rintro _ w2 ⟨_,rfl,hb2,rfl⟩
 replace R1:=R1.ext hb2
 replace RS:=RS.ext hb2
 replace ex:=ext_trans ex hb2
 clear c0 c1 c2 c3 c4 c5 c6 lR1 lRS hb2 KN d1
 have hcl:=(probOK HZ.out)
 have htest:=num_test (p:=p) (by obtain ⟨N,hok⟩:=hcl;exact hok.c1.1)
 obtain ⟨q,hq⟩:∃q,q=p.cs.length * cutW p.st p.rounds.toNat 4096 0:=⟨_,rfl⟩
 rw[←hq]at htest ⊢
 have HTE:=Lib.hid htest
 clear hq htest hcl
 by_cases h2:4096<q
 case pos=>
  have HBE:Hid (buildE p=17):=Lib.hid (by unfold buildE;rw[if_pos HZ.out,if_pos (HTE.out.1 h2)])
  have hq2:(4096:Int)<(q:Int):=by omega
  clear R1
  have d0:=RS.cell (j:=0) rfl
  have d1:=RS.cell (j:=1) rfl
  have d2:=RS.cell (j:=2) rfl
  have d3:=RS.cell (j:=3) rfl
  have d4:=RS.cell (j:=4) rfl
  have d5:=RS.cell (j:=5) rfl
  have d6:=RS.cell (j:=6) rfl
  have d7:=RS.cell (j:=7) rfl
  have d8:=RS.cell (j:=8) rfl
  have d9:=RS.cell (j:=9) rfl
  have f0:=RS.free 0
  have f1:=RS.free 1
  have f2:=RS.free 2
  have f3:=RS.free 3
  have f4:=RS.free 4
  have f5:=RS.free 5
  have f6:=RS.free 6
  have f7:=RS.free 7
  have f8:=RS.free 8
  have f9:=RS.free 9
  have l2:=RS.lt
  have HRS:=Lib.hid (RS.sets [(0,.int .i64 0),(1,.int .i64 0),(2,.int .i64 0),(3,.slice none 0 0),(4,.int .i64 0),(5,.slice none 0 0),(6,.int .i64 0),(7,.int .i64 0),(8,.slice none 0 0),(9,.slice none 0 0)])
  have HBS:=Lib.hid (sets_below hS2 [(0,.int .i64 0),(1,.int .i64 0),(2,.int .i64 0),(3,.slice none 0 0),(4,.int .i64 0),(5,.slice none 0 0),(6,.int .i64 0),(7,.int .i64 0),(8,.slice none 0 0),(9,.slice none 0 0)] w2 ex)
  have HAS:=Lib.hid (sets_agree S2 [(0,.int .i64 0),(1,.int .i64 0),(2,.int .i64 0),(3,.slice none 0 0),(4,.int .i64 0),(5,.slice none 0 0),(6,.int .i64 0),(7,.int .i64 0),(8,.slice none 0 0),(9,.slice none 0 0)] w2)
  obtain ⟨W7,hW7⟩:∃W7,W7=sets S2 [(0,.int .i64 0),(1,.int .i64 0),(2,.int .i64 0),(3,.slice none 0 0),(4,.int .i64 0),(5,.slice none 0 0),(6,.int .i64 0),(7,.int .i64 0),(8,.slice none 0 0),(9,.slice none 0 0)] w2:=⟨_,rfl⟩
  rw[←hW7]at HRS HBS HAS
  unfold sets at hW7
  simp only[List.foldl_cons,List.foldl_nil]at hW7
  clear RS ex
  go_wp2
  rw[←hW7]
  clear hW7
  have q0:W7.cell? ⟨S2,0,none⟩=some _:=HRS.out.cell (j:=0) rfl
  have q1:W7.cell? ⟨S2,1,none⟩=some _:=HRS.out.cell (j:=1) rfl
  have q2:W7.cell? ⟨S2,2,none⟩=some _:=HRS.out.cell (j:=2) rfl
  have q3:W7.cell? ⟨S2,3,none⟩=some _:=HRS.out.cell (j:=3) rfl
  have q4:W7.cell? ⟨S2,4,none⟩=some _:=HRS.out.cell (j:=4) rfl
  have q5:W7.cell? ⟨S2,5,none⟩=some _:=HRS.out.cell (j:=5) rfl
  have q6:W7.cell? ⟨S2,6,none⟩=some _:=HRS.out.cell (j:=6) rfl
  have q7:W7.cell? ⟨S2,7,none⟩=some _:=HRS.out.cell (j:=7) rfl
  have q8:W7.cell? ⟨S2,8,none⟩=some _:=HRS.out.cell (j:=8) rfl
  have q9:W7.cell? ⟨S2,9,none⟩=some _:=HRS.out.cell (j:=9) rfl
  refine bodyPost_ret (v:=.tuple #[.agg #[.int .i64 0,.int .i64 0,.int .i64 0,.slice none 0 0,.int .i64 0,.slice none 0 0,.int .i64 0,.int .i64 0,.slice none 0 0,.slice none 0 0],.int .i64 17]) (by simp[results,Tryz.results61,go_sem,q0,q1,q2,q3,q4,q5,q6,q7,q8,q9]) rfl ?_
  exact .mk HBS.out (.inr ⟨by rw[HBE.out];decide,by rw[HBE.out];rfl⟩)
 have HN:Hid (¬4096<p.num):=Lib.hid fun h=>h2 (HTE.out.2 h)
 have HBE:Hid (buildE p=0):=Lib.hid (by unfold buildE;rw[if_pos HZ.out,if_neg HN.out])
 have c0:=R1.cell (j:=0) rfl
 have c1:=R1.cell (j:=1) rfl
 have c2:=R1.cell (j:=2) rfl
 have c3:=R1.cell (j:=3) rfl
 have c4:=R1.cell (j:=4) rfl
 have c5:=R1.cell (j:=5) rfl
 have c6:=R1.cell (j:=6) rfl
 have lR1:=R1.lt
 have lRS:=RS.lt
 go_wp2_with fail
 refine (KB.out HZ.out (by have:=HN.out;omega) _ ex).mono ?_
 rintro _ w3 ⟨bv,rfl,hb3,hsy⟩
 obtain ⟨vc2,vs2,vt2,vx2,rfl,hc2,hs2',ht2,hx2⟩:=hsy
 obtain ⟨ca2,cc2,rfl,_⟩:=hc2.form
 obtain ⟨sa2,sc2,rfl,_⟩:=hs2'.form
 obtain ⟨ta2,tc2,rfl,_⟩:=ht2.form
 obtain ⟨xa2,xc2,rfl,_⟩:=hx2.form
 have e9:p.full.p.n=p.n∧p.full.p.ins=p.ins∧p.full.p.outs=p.outs∧p.full.p.an=p.an∧p.full.p.rounds=p.rounds∧p.full.tn=p.n:=⟨rfl,rfl,rfl,rfl,rfl,rfl⟩
 rw[e9.1,e9.2.1,e9.2.2.1,e9.2.2.2.1,e9.2.2.2.2.1,e9.2.2.2.2.2]
 have htl:p.full.tab.length≤1260:=by
  obtain ⟨N,hok⟩:=probOK HZ.out
  have:=HSM.out HZ.out (by have:=HN.out;omega)
  exact sys_small hok.n (by have:=hok.n;omega) hok.r this.1
 have hs2:=ex.size
 replace RS:=RS.ext hb3
 replace ex:=ext_trans ex hb3
 have HSY:Hid (∀W,Agree (fun b=>b≠S2) (w3.alloc (.cells #[.int .i64 p.n,.int .i64 p.ins,.int .i64 p.outs,.slice ca2 p.full.p.cs.length cc2,.int .i64 p.an,.slice sa2 p.full.p.st.length sc2,.int .i64 p.rounds,.int .i64 p.n,.slice ta2 p.full.tab.length tc2,.slice xa2 p.full.ex.length xc2] 35)) W→SysV TT W (.agg #[.int .i64 p.n,.int .i64 p.ins,.int .i64 p.outs,.slice ca2 p.full.p.cs.length cc2,.int .i64 p.an,.slice sa2 p.full.p.st.length sc2,.int .i64 p.rounds,.int .i64 p.n,.slice ta2 p.full.tab.length tc2,.slice xa2 p.full.ex.length xc2]) p.full):=Lib.hid fun W hW=>by
  have h:=HS2.out
  have hA:Agree (fun b=>(S b∧b<w.heap.size)∨w2.heap.size≤b) w3 W:=((Agree.refl _ _).alloc _).trans (hW.mono fun b hb=>by rcases hb with h1 | h1<;>omega)
  exact ⟨_,_,_,_,rfl,(hc2.agree hA).all,(hs2'.agree hA).all,(ht2.agree hA).all,(hx2.agree hA).all⟩
 have R5:=row_new w3 [.int .i64 p.n,.int .i64 p.ins,.int .i64 p.outs,.slice ca2 p.full.p.cs.length cc2,.int .i64 p.an,.slice sa2 p.full.p.st.length sc2,.int .i64 p.rounds,.int .i64 p.n,.slice ta2 p.full.tab.length tc2,.slice xa2 p.full.ex.length xc2] 35
 replace RS:=RS.alloc (.cells #[.int .i64 p.n,.int .i64 p.ins,.int .i64 p.outs,.slice ca2 p.full.p.cs.length cc2,.int .i64 p.an,.slice sa2 p.full.p.st.length sc2,.int .i64 p.rounds,.int .i64 p.n,.slice ta2 p.full.tab.length tc2,.slice xa2 p.full.ex.length xc2] 35)
 replace ex:=ext_alloc' ex (.cells #[.int .i64 p.n,.int .i64 p.ins,.int .i64 p.outs,.slice ca2 p.full.p.cs.length cc2,.int .i64 p.an,.slice sa2 p.full.p.st.length sc2,.int .i64 p.rounds,.int .i64 p.n,.slice ta2 p.full.tab.length tc2,.slice xa2 p.full.ex.length xc2] 35)
 have ht81:¬8192<p.full.tab.length:=by omega
 clear c0 c1 c2 c3 c4 c5 c6 lR1 lRS hb3 KB R1 hc2 hs2' ht2 hx2 e9 htl
 go_upto_region 7 with fail
 obtain ⟨w5,hw5⟩:∃w5,w5=w3.alloc (.cells #[.int .i64 p.n,.int .i64 p.ins,.int .i64 p.outs,.slice ca2 p.full.p.cs.length cc2,.int .i64 p.an,.slice sa2 p.full.p.st.length sc2,.int .i64 p.rounds,.int .i64 p.n,.slice ta2 p.full.tab.length tc2,.slice xa2 p.full.ex.length xc2] 35):=⟨_,rfl⟩
 obtain ⟨B5,hB5⟩:∃B5,B5=w3.heap.size:=⟨_,rfl⟩
 rw[←hw5]at R5 RS ex HSY
 rw[←hB5]at R5
 rw[←hw5,←hB5]
 clear hw5 hB5
 have c0:=R5.cell (j:=0) rfl
 have c1:=R5.cell (j:=1) rfl
 have c2:=R5.cell (j:=2) rfl
 have c3:=R5.cell (j:=3) rfl
 have c4:=R5.cell (j:=4) rfl
 have c5:=R5.cell (j:=5) rfl
 have c6:=R5.cell (j:=6) rfl
 have c7:=R5.cell (j:=7) rfl
 have c8:=R5.cell (j:=8) rfl
 have c9:=R5.cell (j:=9) rfl
 have l5:=R5.lt
 clear R5
 have d0:=RS.cell (j:=0) rfl
 have d1:=RS.cell (j:=1) rfl
 have d2:=RS.cell (j:=2) rfl
 have d3:=RS.cell (j:=3) rfl
 have d4:=RS.cell (j:=4) rfl
 have d5:=RS.cell (j:=5) rfl
 have d6:=RS.cell (j:=6) rfl
 have d7:=RS.cell (j:=7) rfl
 have d8:=RS.cell (j:=8) rfl
 have d9:=RS.cell (j:=9) rfl
 have f0:=RS.free 0
 have f1:=RS.free 1
 have f2:=RS.free 2
 have f3:=RS.free 3
 have f4:=RS.free 4
 have f5:=RS.free 5
 have f6:=RS.free 6
 have f7:=RS.free 7
 have f8:=RS.free 8
 have f9:=RS.free 9
 have l2:=RS.lt
 have HRS:=Lib.hid (RS.sets [(0,.int .i64 p.n),(1,.int .i64 p.ins),(2,.int .i64 p.outs),(3,.slice ca2 p.full.p.cs.length cc2),(4,.int .i64 p.an),(5,.slice sa2 p.full.p.st.length sc2),(6,.int .i64 p.rounds),(7,.int .i64 p.n),(8,.slice ta2 p.full.tab.length tc2),(9,.slice xa2 p.full.ex.length xc2)])
 have HBS:=Lib.hid (sets_below hS2 [(0,.int .i64 p.n),(1,.int .i64 p.ins),(2,.int .i64 p.outs),(3,.slice ca2 p.full.p.cs.length cc2),(4,.int .i64 p.an),(5,.slice sa2 p.full.p.st.length sc2),(6,.int .i64 p.rounds),(7,.int .i64 p.n),(8,.slice ta2 p.full.tab.length tc2),(9,.slice xa2 p.full.ex.length xc2)] w5 ex)
 have HAS:=Lib.hid (sets_agree S2 [(0,.int .i64 p.n),(1,.int .i64 p.ins),(2,.int .i64 p.outs),(3,.slice ca2 p.full.p.cs.length cc2),(4,.int .i64 p.an),(5,.slice sa2 p.full.p.st.length sc2),(6,.int .i64 p.rounds),(7,.int .i64 p.n),(8,.slice ta2 p.full.tab.length tc2),(9,.slice xa2 p.full.ex.length xc2)] w5)
 obtain ⟨W7,hW7⟩:∃W7,W7=sets S2 [(0,.int .i64 p.n),(1,.int .i64 p.ins),(2,.int .i64 p.outs),(3,.slice ca2 p.full.p.cs.length cc2),(4,.int .i64 p.an),(5,.slice sa2 p.full.p.st.length sc2),(6,.int .i64 p.rounds),(7,.int .i64 p.n),(8,.slice ta2 p.full.tab.length tc2),(9,.slice xa2 p.full.ex.length xc2)] w5:=⟨_,rfl⟩
 rw[←hW7]at HRS HBS HAS
 unfold sets at hW7
 simp only[List.foldl_cons,List.foldl_nil]at hW7
 clear RS ex
 go_wp2
 rw[←hW7]
 clear hW7
 have q0:W7.cell? ⟨S2,0,none⟩=some _:=HRS.out.cell (j:=0) rfl
 have q1:W7.cell? ⟨S2,1,none⟩=some _:=HRS.out.cell (j:=1) rfl
 have q2:W7.cell? ⟨S2,2,none⟩=some _:=HRS.out.cell (j:=2) rfl
 have q3:W7.cell? ⟨S2,3,none⟩=some _:=HRS.out.cell (j:=3) rfl
 have q4:W7.cell? ⟨S2,4,none⟩=some _:=HRS.out.cell (j:=4) rfl
 have q5:W7.cell? ⟨S2,5,none⟩=some _:=HRS.out.cell (j:=5) rfl
 have q6:W7.cell? ⟨S2,6,none⟩=some _:=HRS.out.cell (j:=6) rfl
 have q7:W7.cell? ⟨S2,7,none⟩=some _:=HRS.out.cell (j:=7) rfl
 have q8:W7.cell? ⟨S2,8,none⟩=some _:=HRS.out.cell (j:=8) rfl
 have q9:W7.cell? ⟨S2,9,none⟩=some _:=HRS.out.cell (j:=9) rfl
 refine bodyPost_ret (v:=.tuple #[.agg #[.int .i64 p.n,.int .i64 p.ins,.int .i64 p.outs,.slice ca2 p.full.p.cs.length cc2,.int .i64 p.an,.slice sa2 p.full.p.st.length sc2,.int .i64 p.rounds,.int .i64 p.n,.slice ta2 p.full.tab.length tc2,.slice xa2 p.full.ex.length xc2],.int .i64 0]) (by simp[results,Tryz.results61,go_sem,q0,q1,q2,q3,q4,q5,q6,q7,q8,q9]) rfl ?_
 exact .mk HBS.out (.inl ⟨HBE.out,_,rfl,HSY.out _ HAS.out⟩)
end Go.Proofs.YtaijafjfafbcfaaGreat
namespace Go.Proofs.YtaijafjfafbcfaaGreat
open Go.RowKit
attribute [local go_sem ↓] Go.wp_at_zero Go.wp_at_succ
end Go.Proofs.YtaijafjfafbcfaaGreat
