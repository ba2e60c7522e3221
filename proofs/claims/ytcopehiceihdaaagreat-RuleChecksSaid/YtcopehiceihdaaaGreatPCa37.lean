/- Part of the proof that the laws of chapter 45 answer true for every input. -/
import Derived.Test.YtcopehiceihdaaaGreatPCa36
set_option linter.unusedSimpArgs false
set_option linter.unnecessarySimpa false
set_option linter.unusedVariables false
set_option maxRecDepth 100000
set_option maxHeartbeats 40000000
namespace Go.Proofs.YtcopehiceihdaaaGreat
open Go.RowKit
attribute [local go_sem ↓] Go.wp_at_zero Go.wp_at_succ
def SysF.N (s:SysF):Nat:=s.p.n.toNat
def SysF.K (s:SysF):Nat:=s.p.rounds.toNat
theorem good_sys {s:SysF} (h:verE s=0) (h8:Moves8 s.p.st):GoodS s s.N s.K:=by
  obtain ⟨N,K,hg⟩:=good_of h h8
  have e1:s.N=N:=by unfold SysF.N;rw[hg.pok.n];exact Int.toNat_natCast N
  have e2:s.K=K:=by unfold SysF.K;rw[hg.rnd];exact Int.toNat_natCast K
  rw[e1,e2];exact hg
def chkV (ch:List Int) (outs x:Int):Int:=if nth ch x.toNat= -1 then 20 else if nth ch x.toNat<0∨outs≤nth ch x.toNat then 2 else 0
def earE (s:SysF) (ch:List Int):Int:=
  if verE s=0 then (if ch.length=s.tab.length then firstE (fun i=>chkV ch s.p.outs (nth (decL s s.N s.K) i)) (decL s s.N s.K).length else 15) else verE s
def EarlyR (B:Nat) (s:SysF) (ch:List Int) (w':World) (r:Value):Prop:=
  (earE s ch=0∧∃v,r=.tuple #[v,.int .i64 0]∧RuleV (fun b=>B≤b) w' v (earlyTo s.tab (decL s s.N s.K) ch s.tab.length))∨(earE s ch≠0∧r=.tuple #[.agg #[.slice none 0 0],.int .i64 (earE s ch)])
theorem earlyR_err {B:Nat} {s:SysF} {ch:List Int} {w':World} {e:Int} (h:earE s ch=e) (h0:e≠0):EarlyR B s ch w' (.tuple #[.agg #[.slice none 0 0],.int .i64 e]):=.inr ⟨by rw[h];exact h0,by rw[h]⟩
theorem decL_nat {s:SysF} {x:Int} (hx:x∈decL s s.N s.K):∃z:Nat,x=z∧z<s.tab.length:=by
  obtain ⟨z,h1,h2,_⟩:=passL_mem.1 hx
  exact ⟨z,h1,h2⟩
theorem rearly_calls {S S2:Nat→Prop} {w:World} {v vch:Value} {s:SysF} {ch:List Int} (h:SysV S w v s) (hf:SmallP s.p) (h2:Ints S2 w vch ch) (hl:s.tab.length≤100000):
    Calls Tryz.prog 15 #[v,.agg #[vch]] w (Post w (EarlyR w.heap.size s ch)):=by
  have KV:Hid (∀W,Below w.heap.size w W→Calls Tryz.prog 41 #[v] W (Post W fun _ r=>r=.int .i64 (verE s))):=Lib.hid fun W hW=>rverify_calls (h.ext hW) hf
  have HG:Hid (verE s=0→GoodS s s.N s.K):=Lib.hid fun h0=>good_sys h0 (by obtain ⟨_,_,_,_,_,_,hs,_⟩:=h;exact moves8_of hs)
  have KD:Hid (verE s=0→∀W,Below w.heap.size w W→Calls Tryz.prog 42 #[v] W (Post W fun w' r=>Ints (fun b=>W.heap.size≤b) w' r (decL s s.N s.K))):=Lib.hid fun h0 W hW=>rdecisive_calls (h.ext hW) (HG.out h0) hl
  have KS:Hid (verE s=0→ch.length=s.tab.length→∀W,Below w.heap.size w W→Calls Tryz.prog 43 #[v,vch] W (Post W fun w' r=>RuleV (fun b=>W.heap.size≤b) w' r (earlyTo s.tab (decL s s.N s.K) ch s.tab.length))):=Lib.hid fun h0 hc W hW=>rsoonest_calls (h.ext hW) (HG.out h0) (h2.ext hW) hl hc
  obtain ⟨vc,vs,vt,vx,rfl,hc,hs,ht,hx⟩:=h
  obtain ⟨ca,cc,rfl,_⟩:=hc.form
  obtain ⟨sa,sc,rfl,_⟩:=hs.form
  obtain ⟨ta,tc,rfl,_⟩:=ht.form
  obtain ⟨xa,xc,rfl,_⟩:=hx.form
  obtain ⟨a2,c2,rfl,_⟩:=h2.form
  have H2:=Lib.hid h2
  have ex:=ext_alloc' (ext_alloc' (ext_alloc w (.cells #[.int .i64 s.p.n,.int .i64 s.p.ins,.int .i64 s.p.outs,.slice ca s.p.cs.length cc,.int .i64 s.p.an,.slice sa s.p.st.length sc,.int .i64 s.p.rounds,.int .i64 s.tn,.slice ta s.tab.length tc,.slice xa s.ex.length xc] 35)) (.cells #[.slice a2 ch.length c2] 38)) (.cells #[.slice none 0 0] 38)
  have R0:=((row_new w [.int .i64 s.p.n,.int .i64 s.p.ins,.int .i64 s.p.outs,.slice ca s.p.cs.length cc,.int .i64 s.p.an,.slice sa s.p.st.length sc,.int .i64 s.p.rounds,.int .i64 s.tn,.slice ta s.tab.length tc,.slice xa s.ex.length xc] 35).alloc (.cells #[.slice a2 ch.length c2] 38)).alloc (.cells #[.slice none 0 0] 38)
  have R1:=(row_new (w.alloc (.cells #[.int .i64 s.p.n,.int .i64 s.p.ins,.int .i64 s.p.outs,.slice ca s.p.cs.length cc,.int .i64 s.p.an,.slice sa s.p.st.length sc,.int .i64 s.p.rounds,.int .i64 s.tn,.slice ta s.tab.length tc,.slice xa s.ex.length xc] 35)) [.slice a2 ch.length c2] 38).alloc (.cells #[.slice none 0 0] 38)
  have RR:=row_new ((w.alloc (.cells #[.int .i64 s.p.n,.int .i64 s.p.ins,.int .i64 s.p.outs,.slice ca s.p.cs.length cc,.int .i64 s.p.an,.slice sa s.p.st.length sc,.int .i64 s.p.rounds,.int .i64 s.tn,.slice ta s.tab.length tc,.slice xa s.ex.length xc] 35)).alloc (.cells #[.slice a2 ch.length c2] 38)) [.slice none 0 0] 38
  simp only[World.size_alloc]at R1 RR
  obtain ⟨ve,hve⟩:∃e,e=verE s:=⟨_,rfl⟩
  rw[←hve]at KV KD KS
  have HVE:=Lib.hid hve
  have t0:=R0.cell (j:=0) rfl
  have t1:=R0.cell (j:=1) rfl
  have t2:=R0.cell (j:=2) rfl
  have t3:=R0.cell (j:=3) rfl
  have t4:=R0.cell (j:=4) rfl
  have t5:=R0.cell (j:=5) rfl
  have t6:=R0.cell (j:=6) rfl
  have t7:=R0.cell (j:=7) rfl
  have t8:=R0.cell (j:=8) rfl
  have t9:=R0.cell (j:=9) rfl
  have l0:=R0.lt
  clear hc hs ht hx h2 HG hve
  go_enter Tryz.func15,Tryz.ntmps15
  go_wp2_with fail
  refine (KV.out _ ex).mono ?_
  rintro _ w1 ⟨_,rfl,hb1,rfl⟩
  replace R0:=R0.ext hb1
  replace R1:=R1.ext hb1
  replace RR:=RR.ext hb1
  replace ex:=ext_trans ex hb1
  clear t0 t1 t2 t3 t4 t5 t6 t7 t8 t9 l0 hb1 KV
  by_cases hv0:ve=0
  case neg=>
    have RE:Hid (earE s ch=ve∧ve≠0):=Lib.hid ⟨by unfold earE;rw[if_neg (by rw[←HVE.out];exact hv0),HVE.out],hv0⟩
    have d0:(ve !=0)=true:=by simp[hv0]
    have c0:=RR.cell (j:=0) rfl
    have f0:=RR.free 0
    have lR:=RR.lt
    clear hv0
    have q0:(w1.setCell ⟨w.heap.size+1+1,0,none⟩ (.slice none 0 0)).cell? ⟨w.heap.size+1+1,0,none⟩=some (.slice none 0 0):=(RR.set 0 _).cell (j:=0) rfl
    go_wp2
    refine bodyPost_ret (v:=.tuple #[.agg #[.slice none 0 0],.int .i64 ve]) (by simp[results,Tryz.results15,go_sem,q0]) rfl ?_
    exact .mk (ex.setCell (p:=⟨w.heap.size+1+1,0,none⟩) (by simp;omega) _) (earlyR_err RE.out.1 RE.out.2)
  have d0:(ve !=0)=false:=by simp[hv0]
  have HV0:Hid (verE s=0):=Lib.hid (by rw[←HVE.out];exact hv0)
  replace KD:=Lib.hid (KD.out hv0)
  replace KS:=Lib.hid (KS.out hv0)
  clear hv0 HVE
  have t8:=R0.cell (j:=8) rfl
  have r1:=R1.cell (j:=0) rfl
  have lR:=RR.lt
  by_cases hlen:ch.length=s.tab.length
  case neg=>
    have RE:Hid (earE s ch=15∧(15:Int)≠0):=Lib.hid ⟨by unfold earE;rw[if_pos HV0.out,if_neg hlen],by decide⟩
    have d1:((ch.length:Int) !=(s.tab.length:Int))=true:=by rw[bne_iff_ne];omega
    have c0:=RR.cell (j:=0) rfl
    have f0:=RR.free 0
    clear hlen
    have q0:(w1.setCell ⟨w.heap.size+1+1,0,none⟩ (.slice none 0 0)).cell? ⟨w.heap.size+1+1,0,none⟩=some (.slice none 0 0):=(RR.set 0 _).cell (j:=0) rfl
    go_wp2
    refine bodyPost_ret (v:=.tuple #[.agg #[.slice none 0 0],.int .i64 15]) (by simp[results,Tryz.results15,go_sem,q0]) rfl ?_
    exact .mk (ex.setCell (p:=⟨w.heap.size+1+1,0,none⟩) (by simp;omega) _) (earlyR_err RE.out.1 RE.out.2)
  have d1:((ch.length:Int) !=(s.tab.length:Int))=false:=by rw[hlen];simp
  replace KS:=Lib.hid (KS.out hlen)
  have HEA:Hid (earE s ch=firstE (fun i=>chkV ch s.p.outs (nth (decL s s.N s.K) i)) (decL s s.N s.K).length):=Lib.hid (by unfold earE;rw[if_pos HV0.out,if_pos hlen])
  have HDN:Hid (∀x∈decL s s.N s.K,∃z:Nat,x=z∧z<ch.length):=Lib.hid fun x hx=>by rw[hlen];exact decL_nat hx
  have hdl:(decL s s.N s.K).length≤s.tab.length:=passL_len _ _
  have HER:Hid (∀w' v,earE s ch=0→RuleV (fun b=>w.heap.size≤b) w' v (earlyTo s.tab (decL s s.N s.K) ch s.tab.length)→EarlyR w.heap.size s ch w' (.tuple #[v,.int .i64 0])):=Lib.hid fun w' v h0 h1=>.inl ⟨h0,v,rfl,h1⟩
  obtain ⟨E,hE⟩:∃E,E=earlyTo s.tab (decL s s.N s.K) ch s.tab.length:=⟨_,rfl⟩
  rw[←hE]at KS HER
  obtain ⟨D,hD⟩:∃D,D=decL s s.N s.K:=⟨_,rfl⟩
  rw[←hD]at KD HEA HDN hdl
  have t0:=R0.cell (j:=0) rfl
  have t1:=R0.cell (j:=1) rfl
  have t2:=R0.cell (j:=2) rfl
  have t3:=R0.cell (j:=3) rfl
  have t4:=R0.cell (j:=4) rfl
  have t5:=R0.cell (j:=5) rfl
  have t6:=R0.cell (j:=6) rfl
  have t7:=R0.cell (j:=7) rfl
  have t8:=R0.cell (j:=8) rfl
  have t9:=R0.cell (j:=9) rfl
  clear hlen hE hD
  go_wp2_with fail
  refine (KD.out _ ex).mono ?_
  rintro _ w2 ⟨vd,rfl,hb2,hd⟩
  replace R0:=R0.ext hb2
  replace R1:=R1.ext hb2
  replace RR:=RR.ext hb2
  replace ex:=ext_trans ex hb2
  obtain ⟨da,dc,rfl,_⟩:=hd.form
  have HD:=Lib.hid hd
  have hdm:=hd.len
  unfold maxLen at hdm
  clear t0 t1 t2 t3 t4 t5 t6 t7 t8 t9 r1 lR hb2 KD hd d0 d1
  go_wp2
  go_loopw [8,9] (fun i _ wr=>∃k:Nat,k≤D.length∧i=.int .i64 k∧Below w.heap.size w wr∧Below w2.heap.size w2 wr∧Row wr w.heap.size 35 [.int .i64 s.p.n,.int .i64 s.p.ins,.int .i64 s.p.outs,.slice ca s.p.cs.length cc,.int .i64 s.p.an,.slice sa s.p.st.length sc,.int .i64 s.p.rounds,.int .i64 s.tn,.slice ta s.tab.length tc,.slice xa s.ex.length xc]∧Row wr (w.heap.size+1) 38 [.slice a2 ch.length c2]∧Row wr (w.heap.size+1+1) 38 [.slice none 0 0]∧Hid (∀j,j<k→chkV ch s.p.outs (nth D j)=0)) (fun i _ _=>D.length - (intOf i).toNat)
  case atStart=>exact ⟨0,Nat.zero_le _,rfl,ex,.refl _ _,R0,R1,RR,Lib.hid fun j hj=>by omega⟩
  case round=>
    clear ex R0 R1 RR
    obtain ⟨k,hk,rfl,ex,hb2,R0,R1,RR,HJ⟩:=hrel
    have t2:=R0.cell (j:=2) rfl
    have r1:=R1.cell (j:=0) rfl
    have c0:=RR.cell (j:=0) rfl
    have f0:=RR.free 0
    have l0:=R0.lt
    have lR:=RR.lt
    by_cases hlt:k<D.length
    case neg=>
      have RE:Hid (earE s ch=0):=Lib.hid (by rw[HEA.out];exact firstE_zero fun j hj=>HJ.out j (by omega))
      have t0:=R0.cell (j:=0) rfl
      have t1:=R0.cell (j:=1) rfl
      have t2:=R0.cell (j:=2) rfl
      have t3:=R0.cell (j:=3) rfl
      have t4:=R0.cell (j:=4) rfl
      have t5:=R0.cell (j:=5) rfl
      have t6:=R0.cell (j:=6) rfl
      have t7:=R0.cell (j:=7) rfl
      have t8:=R0.cell (j:=8) rfl
      have t9:=R0.cell (j:=9) rfl
      go_wp2_with fail
      refine (KS.out _ ex).mono ?_
      rintro _ w3 ⟨vr,rfl,hb3,vu,rfl,hvu⟩
      obtain ⟨ua,uc,rfl,_⟩:=hvu.form
      have RR3:=RR.ext hb3
      have ex3:=ext_trans ex hb3
      have hsz:=ex.size
      have hls:=RR.lt
      have HI2:=Lib.hid ((hvu.agree (.of_grown (grownBy_setCell w3 (w.heap.size+1+1) 0 (.slice ua E.length uc)) fun b hb' e=>by cases e;omega)).mono (S':=fun b=>w.heap.size≤b) fun b hb=>by omega)
      clear t0 t1 t2 t3 t4 t5 t6 t7 t8 t9 r1 c0 f0 l0 lR R0 R1 RR hb3 hvu
      have c0:=RR3.cell (j:=0) rfl
      have f0:=RR3.free 0
      have lR:=RR3.lt
      have q0:(w3.setCell ⟨w.heap.size+1+1,0,none⟩ (.slice ua E.length uc)).cell? ⟨w.heap.size+1+1,0,none⟩=some (.slice ua E.length uc):=(RR3.set 0 _).cell (j:=0) rfl
      go_wp2
      refine bodyPost_ret (v:=.tuple #[.agg #[.slice ua E.length uc],.int .i64 0]) (by simp[results,Tryz.results15,go_sem,q0]) rfl ?_
      exact .mk (ex3.setCell (p:=⟨w.heap.size+1+1,0,none⟩) (by simp;omega) _) (HER.out _ _ RE.out ⟨_,rfl,HI2.out⟩)
    obtain ⟨z,hz,hzl⟩:=HDN.out (nth D k) (nth_mem hlt)
    have q1:=HD.out.idx hlt
    have q2:=H2.out.idx hzl
    have clk:=(HD.out.ext hb2).cellN hlt
    rw[hz]at clk
    have cck:=(H2.out.ext ex).cellN hzl
    have hbk:=World.block_lt_of_cell? _ _ clk
    have hbk2:=World.block_lt_of_cell? _ _ cck
    have HCH:Hid (chkV ch s.p.outs (nth D k)=if nth ch z= -1 then 20 else if nth ch z<0∨s.p.outs≤nth ch z then 2 else 0):=Lib.hid (by unfold chkV;rw[hz,Int.toNat_natCast])
    obtain ⟨y,hy⟩:∃y,y=nth ch z:=⟨_,rfl⟩
    rw[←hy]at cck HCH
    clear hz hy
    by_cases hy1:y= -1
    · have RE:Hid (earE s ch=20∧(20:Int)≠0):=Lib.hid (by
        have h20:chkV ch s.p.outs (nth D k)=20:=by rw[HCH.out,if_pos hy1]
        exact ⟨by rw[HEA.out,firstE_at (f:=fun i=>chkV ch s.p.outs (nth D i)) HJ.out (by rw[h20];decide) hlt];exact h20,by decide⟩)
      have e1:(y== -1)=true:=by simp[hy1]
      clear hy1
      go_wp2
      go_quiet (fail)
      refine draw_then fun w4 hq4=>?_
      replace RR:=RR.ext hq4.ext
      replace R0:=R0.ext hq4.ext
      replace ex:=ext_trans ex hq4.ext
      clear c0 f0 l0 lR t2 r1 clk cck hbk hbk2
      have c0:=RR.cell (j:=0) rfl
      have f0:=RR.free 0
      have lR:=RR.lt
      have t2:=R0.cell (j:=2) rfl
      have l0:=R0.lt
      have q0:(w4.setCell ⟨w.heap.size+1+1,0,none⟩ (.slice none 0 0)).cell? ⟨w.heap.size+1+1,0,none⟩=some (.slice none 0 0):=(RR.set 0 _).cell (j:=0) rfl
      go_wp2
      refine bodyPost_ret (v:=.tuple #[.agg #[.slice none 0 0],.int .i64 20]) (by simp[results,Tryz.results15,go_sem,q0]) rfl ?_
      exact .mk (ex.setCell (p:=⟨w.heap.size+1+1,0,none⟩) (by simp;omega) _) (earlyR_err RE.out.1 RE.out.2)
    by_cases hy2:y<0∨s.p.outs≤y
    · have RE:Hid (earE s ch=2∧(2:Int)≠0):=Lib.hid (by
        have h20:chkV ch s.p.outs (nth D k)=2:=by rw[HCH.out,if_neg hy1,if_pos hy2]
        exact ⟨by rw[HEA.out,firstE_at (f:=fun i=>chkV ch s.p.outs (nth D i)) HJ.out (by rw[h20];decide) hlt];exact h20,by decide⟩)
      have e1:(y== -1)=false:=by simp[hy1]
      have HY2:=Lib.hid hy2
      clear hy1 hy2
      go_wp2
      go_quiet (fail)
      refine draw_then fun w4 hq4=>?_
      replace RR:=RR.ext hq4.ext
      replace R0:=R0.ext hq4.ext
      replace ex:=ext_trans ex hq4.ext
      clear c0 f0 l0 lR t2 r1 clk cck hbk hbk2
      have c0:=RR.cell (j:=0) rfl
      have f0:=RR.free 0
      have lR:=RR.lt
      have t2:=R0.cell (j:=2) rfl
      have l0:=R0.lt
      by_cases hy3:y<0
      · have e2:decide (y<0)=true:=decide_eq_true hy3
        clear hy3
        have q0:(w4.setCell ⟨w.heap.size+1+1,0,none⟩ (.slice none 0 0)).cell? ⟨w.heap.size+1+1,0,none⟩=some (.slice none 0 0):=(RR.set 0 _).cell (j:=0) rfl
        go_wp2
        refine bodyPost_ret (v:=.tuple #[.agg #[.slice none 0 0],.int .i64 2]) (by simp[results,Tryz.results15,go_sem,q0]) rfl ?_
        exact .mk (ex.setCell (p:=⟨w.heap.size+1+1,0,none⟩) (by simp;omega) _) (earlyR_err RE.out.1 RE.out.2)
      · have e2:decide (y<0)=false:=decide_eq_false hy3
        have e3:decide (s.p.outs≤y)=true:=decide_eq_true (by have:=HY2.out;omega)
        clear hy3
        have q0:(w4.setCell ⟨w.heap.size+1+1,0,none⟩ (.slice none 0 0)).cell? ⟨w.heap.size+1+1,0,none⟩=some (.slice none 0 0):=(RR.set 0 _).cell (j:=0) rfl
        go_wp2
        refine bodyPost_ret (v:=.tuple #[.agg #[.slice none 0 0],.int .i64 2]) (by simp[results,Tryz.results15,go_sem,q0]) rfl ?_
        exact .mk (ex.setCell (p:=⟨w.heap.size+1+1,0,none⟩) (by simp;omega) _) (earlyR_err RE.out.1 RE.out.2)
    · have e1:(y== -1)=false:=by simp[hy1]
      have e2:decide (y<0)=false:=decide_eq_false (by omega)
      have e3:decide (s.p.outs≤y)=false:=decide_eq_false (by omega)
      have HX:Hid (∀j,j<k+1→chkV ch s.p.outs (nth D j)=0):=Lib.hid fun j hj=>by
        by_cases e:j=k
        · rw[e,HCH.out,if_neg hy1,if_neg hy2]
        · exact HJ.out j (by omega)
      clear hy1 hy2
      go_wp2
      go_quiet (fail)
      refine draw_then fun w4 hq4=>?_
      replace RR:=RR.ext hq4.ext
      replace R0:=R0.ext hq4.ext
      replace ex:=ext_trans ex hq4.ext
      clear c0 f0 l0 lR t2 r1 clk cck hbk hbk2
      have c0:=RR.cell (j:=0) rfl
      have f0:=RR.free 0
      have lR:=RR.lt
      have t2:=R0.cell (j:=2) rfl
      have l0:=R0.lt
      have R1:=R1.ext hq4.ext
      have hb4:=ext_trans hb2 hq4.ext
      go_wp2
      go_roundw
      case rel=>exact ⟨k+1,by omega,by go_num,ex,hb4,R0,R1,RR,HX⟩
      case measure=>simp[intOf];omega
end Go.Proofs.YtcopehiceihdaaaGreat
namespace Go.Proofs.YtcopehiceihdaaaGreat
open Go.RowKit
attribute [local go_sem ↓] Go.wp_at_zero Go.wp_at_succ
def frmV (T:List (List Int)) (ch:List Int) (outs:Int) (v:Nat):Int:=
  if nth ch v< -1∨outs≤nth ch v then 2 else if 0≤befV T v∧0≤nth ch (befV T v).toNat∧nth ch (befV T v).toNat≠nth ch v then 21 else 0
def formE (s:SysF) (ch:List Int):Int:=if ch.length=s.tab.length then firstE (frmV s.tab ch s.p.outs) ch.length else 15
theorem pform_calls {S S2:Nat→Prop} {w:World} {v vch:Value} {s:SysF} {N K:Nat} {ch:List Int} (h:SysV S w v s) (hT:TabOK N K s.tab) (h2:Ints S2 w vch ch):
    Calls Tryz.prog 45 #[v,.agg #[vch]] w (Post w fun _ r=>r=.int .i64 (formE s ch)):=by
  have H0:=Lib.hid h
  obtain ⟨vc,vs,vt,vx,rfl,hc,hs,ht,hx⟩:=h
  obtain ⟨ca,cc,rfl,_⟩:=hc.form
  obtain ⟨sa,sc,rfl,_⟩:=hs.form
  obtain ⟨ta,tc,rfl,_⟩:=ht.form
  obtain ⟨xa,xc,rfl,_⟩:=hx.form
  obtain ⟨a2,c2,rfl,_⟩:=h2.form
  have hm2:=h2.len
  unfold maxLen at hm2
  have H2:=Lib.hid h2
  have HTT:=Lib.hid hT
  have KB:Hid (∀W,Below w.heap.size w W→∀u,u<s.tab.length→Calls Tryz.prog 40 #[.agg #[.int .i64 s.tn,.slice ta s.tab.length tc],.int .i64 u] W (Post W fun _ r=>r=.int .i64 (befV s.tab u))):=Lib.hid fun W hW u hu=>pbefore_calls _ (ht.ext hW) hT hu
  have ex:=ext_alloc' (ext_alloc w (.cells #[.int .i64 s.p.n,.int .i64 s.p.ins,.int .i64 s.p.outs,.slice ca s.p.cs.length cc,.int .i64 s.p.an,.slice sa s.p.st.length sc,.int .i64 s.p.rounds,.int .i64 s.tn,.slice ta s.tab.length tc,.slice xa s.ex.length xc] 35)) (.cells #[.slice a2 ch.length c2] 38)
  have R0:=(row_new w [.int .i64 s.p.n,.int .i64 s.p.ins,.int .i64 s.p.outs,.slice ca s.p.cs.length cc,.int .i64 s.p.an,.slice sa s.p.st.length sc,.int .i64 s.p.rounds,.int .i64 s.tn,.slice ta s.tab.length tc,.slice xa s.ex.length xc] 35).alloc (.cells #[.slice a2 ch.length c2] 38)
  have R1:=row_new (w.alloc (.cells #[.int .i64 s.p.n,.int .i64 s.p.ins,.int .i64 s.p.outs,.slice ca s.p.cs.length cc,.int .i64 s.p.an,.slice sa s.p.st.length sc,.int .i64 s.p.rounds,.int .i64 s.tn,.slice ta s.tab.length tc,.slice xa s.ex.length xc] 35)) [.slice a2 ch.length c2] 38
  rw[World.size_alloc]at R1
  have t8:=R0.cell (j:=8) rfl
  have r1:=R1.cell (j:=0) rfl
  have l0:=R0.lt
  have l1:=R1.lt
  clear hc hs ht hx h2 hT
  by_cases hlen:ch.length=s.tab.length
  case neg=>
    have RE:Hid (formE s ch=15):=Lib.hid (by unfold formE;rw[if_neg hlen])
    have d1:((ch.length:Int) !=(s.tab.length:Int))=true:=by rw[bne_iff_ne];omega
    clear hlen
    go_enter Tryz.func45,Tryz.ntmps45
    go_wp2
    go_ret
    exact .mk ex (int_eq RE.out.symm)
  have d1:((ch.length:Int) !=(s.tab.length:Int))=false:=by rw[hlen];simp
  have HLEN:=Lib.hid hlen
  obtain ⟨r,hr⟩:∃r,r=formE s ch:=⟨_,rfl⟩
  rw[←hr]
  have HR:Hid (r=firstE (frmV s.tab ch s.p.outs) ch.length):=Lib.hid (by rw[hr];unfold formE;rw[if_pos hlen])
  clear hlen hr
  go_enter Tryz.func45,Tryz.ntmps45
  go_wp2
  clear t8 r1 l0 l1 d1
  go_loopw [5,6,7,19] (fun _ _ _ i wr=>∃k:Nat,k≤ch.length∧i=.int .i64 k∧Below w.heap.size w wr∧Row wr w.heap.size 35 [.int .i64 s.p.n,.int .i64 s.p.ins,.int .i64 s.p.outs,.slice ca s.p.cs.length cc,.int .i64 s.p.an,.slice sa s.p.st.length sc,.int .i64 s.p.rounds,.int .i64 s.tn,.slice ta s.tab.length tc,.slice xa s.ex.length xc]∧Row wr (w.heap.size+1) 38 [.slice a2 ch.length c2]∧Hid (∀j,j<k→frmV s.tab ch s.p.outs j=0)) (fun _ _ _ i _=>ch.length - (intOf i).toNat)
  case atStart=>exact ⟨0,Nat.zero_le _,rfl,ex,R0,R1,Lib.hid fun j hj=>by omega⟩
  case round=>
    clear ex R0 R1
    obtain ⟨k,hk,rfl,hb,R0,R1,HJ⟩:=hrel
    have r1:=R1.cell (j:=0) rfl
    have t2:=R0.cell (j:=2) rfl
    have t7:=R0.cell (j:=7) rfl
    have t8:=R0.cell (j:=8) rfl
    have l0:=R0.lt
    have l1:=R1.lt
    by_cases hlt:k<ch.length
    case neg=>
      have RE:Hid (r=0):=Lib.hid (by rw[HR.out];exact firstE_zero fun j hj=>HJ.out j (by omega))
      go_wp2
      go_ret
      exact .mk hb (int_eq RE.out.symm)
    have q1:=H2.out.idx hlt
    have cck:=(H2.out.ext hb).cellN hlt
    have hbk:=World.block_lt_of_cell? _ _ cck
    have hkT:k<s.tab.length:=by have:=HLEN.out;omega
    have HBF:=Lib.hid (HTT.out.bef hkT)
    have HF:Hid (frmV s.tab ch s.p.outs k=if nth ch k< -1∨s.p.outs≤nth ch k then 2 else if 0≤befV s.tab k∧0≤nth ch (befV s.tab k).toNat∧nth ch (befV s.tab k).toNat≠nth ch k then 21 else 0):=Lib.hid rfl
    have HFE:Hid (frmV s.tab ch s.p.outs k≠0→r=frmV s.tab ch s.p.outs k):=Lib.hid fun h0=>by rw[HR.out];exact firstE_at HJ.out h0 hlt
    have HNX:Hid (frmV s.tab ch s.p.outs k=0→∀j,j<k+1→frmV s.tab ch s.p.outs j=0):=Lib.hid fun h0 j hj=>by
      by_cases e:j=k
      · rw[e];exact h0
      · exact HJ.out j (by omega)
    obtain ⟨y,hy⟩:∃y,y=nth ch k:=⟨_,rfl⟩
    rw[←hy]at cck HF
    have HYY:=Lib.hid hy
    clear hy
    by_cases hA:y< -1∨s.p.outs≤y
    · have RE : Hid (r = 2) := Lib.hid (by have e2 : frmV s.tab ch s.p.outs k = 2 := by rw [HF.out, if_pos hA]
                                           rw[HFE.out (by rw[e2];decide),e2])
      have HA:=Lib.hid hA
      clear hA
      by_cases h1:y< -1
      · have e1:decide (y< -1)=true:=decide_eq_true h1
        clear h1
        go_wp2
        go_ret
        exact .mk hb (int_eq RE.out.symm)
      · have e1:decide (y< -1)=false:=decide_eq_false h1
        have e2:decide (s.p.outs≤y)=true:=decide_eq_true (by have:=HA.out;omega)
        clear h1
        go_wp2
        go_ret
        exact .mk hb (int_eq RE.out.symm)
    have e1:decide (y< -1)=false:=decide_eq_false (by omega)
    have e2:decide (s.p.outs≤y)=false:=decide_eq_false (by omega)
    have HF2:Hid (frmV s.tab ch s.p.outs k=if 0≤befV s.tab k∧0≤nth ch (befV s.tab k).toNat∧nth ch (befV s.tab k).toNat≠y then 21 else 0):=Lib.hid (by rw[HF.out,if_neg hA])
    clear hA HF
    go_wp2_with fail
    refine (KB.out _ hb k hkT).mono ?_
    rintro _ w5 ⟨_,rfl,hb5,rfl⟩
    replace R0:=R0.ext hb5
    replace R1:=R1.ext hb5
    replace hb:=ext_trans hb hb5
    clear r1 t2 t7 t8 l0 l1 cck hbk hb5
    have r1:=R1.cell (j:=0) rfl
    have l1:=R1.lt
    rcases HBF.out with hbv | ⟨u,hu,hbv⟩
    · have HX:=Lib.hid (HNX.out (by rw[HF2.out,if_neg (fun h=>by rw[hbv]at h;exact absurd h.1 (by decide))]))
      rw[hbv]
      clear hbv HF2 HFE HBF
      go_wp2
      go_roundw
      case rel=>exact ⟨k+1,by omega,by go_num,hb,R0,R1,HX⟩
      case measure=>simp[intOf];omega
    rw[hbv,Int.toNat_natCast]at HF2
    rw[hbv]
    have hul:u<ch.length:=by omega
    have q2:=H2.out.idx hul
    have ccu:=(H2.out.ext hb).cellN hul
    have hbu:=World.block_lt_of_cell? _ _ ccu
    have cck:=(H2.out.ext hb).cellN hlt
    rw[←HYY.out]at cck
    have hbk:=World.block_lt_of_cell? _ _ cck
    obtain ⟨y2,hy2⟩:∃y,y=nth ch u:=⟨_,rfl⟩
    rw[←hy2]at ccu HF2
    have d0:decide ((0:Int)≤(u:Int))=true:=decide_eq_true (by omega)
    clear hbv hy2 HBF
    by_cases h2:0≤y2
    case neg=>
      have e3:decide (0≤y2)=false:=decide_eq_false h2
      have HX:=Lib.hid (HNX.out (by rw[HF2.out,if_neg (fun h=>h2 h.2.1)]))
      clear h2
      go_wp2
      go_roundw
      case rel=>exact ⟨k+1,by omega,by go_num,hb,R0,R1,HX⟩
      case measure=>simp[intOf];omega
    have e3:decide (0≤y2)=true:=decide_eq_true h2
    by_cases h3:y2=y
    · have e4:(y2 !=y)=false:=by simp[h3]
      have HX:=Lib.hid (HNX.out (by rw[HF2.out,if_neg (fun h=>h.2.2 h3)]))
      clear h2 h3
      go_wp2
      go_roundw
      case rel=>exact ⟨k+1,by omega,by go_num,hb,R0,R1,HX⟩
      case measure=>simp[intOf];omega
    · have e4:(y2 !=y)=true:=by simp;omega
      have RE : Hid (r = 21) := Lib.hid (by have e5 : frmV s.tab ch s.p.outs k = 21 := by rw [HF2.out, if_pos ⟨by omega, h2, h3⟩]
                                            rw[HFE.out (by rw[e5];decide),e5])
      clear h2 h3
      go_wp2
      go_ret
      exact .mk hb (int_eq RE.out.symm)
theorem rform_calls {S S2:Nat→Prop} {w:World} {v vch:Value} {s:SysF} {N K:Nat} {ch:List Int} (h:SysV S w v s) (hT:TabOK N K s.tab) (h2:Ints S2 w vch ch):
    Calls Tryz.prog 46 #[v,.agg #[vch]] w (Post w fun _ r=>r=.int .i64 (formE s ch)):=by
  have H0:=Lib.hid h
  obtain ⟨vc,vs,vt,vx,rfl,hc,hs,ht,hx⟩:=h
  obtain ⟨ca,cc,rfl,_⟩:=hc.form
  obtain ⟨sa,sc,rfl,_⟩:=hs.form
  obtain ⟨ta,tc,rfl,_⟩:=ht.form
  obtain ⟨xa,xc,rfl,_⟩:=hx.form
  obtain ⟨a2,c2,rfl,_⟩:=h2.form
  have hm2:=h2.len
  unfold maxLen at hm2
  have H2:=Lib.hid h2
  have HTT:=Lib.hid hT
  have KB:Hid (∀W,Below w.heap.size w W→∀u,u<s.tab.length→Calls Tryz.prog 89 #[.agg #[.int .i64 s.tn,.slice ta s.tab.length tc],.int .i64 u] W (Post W fun _ r=>r=.int .i64 (befV s.tab u))):=Lib.hid fun W hW u hu=>rbefore_calls _ (ht.ext hW) hT hu
  have ex:=ext_alloc' (ext_alloc w (.cells #[.int .i64 s.p.n,.int .i64 s.p.ins,.int .i64 s.p.outs,.slice ca s.p.cs.length cc,.int .i64 s.p.an,.slice sa s.p.st.length sc,.int .i64 s.p.rounds,.int .i64 s.tn,.slice ta s.tab.length tc,.slice xa s.ex.length xc] 35)) (.cells #[.slice a2 ch.length c2] 38)
  have R0:=(row_new w [.int .i64 s.p.n,.int .i64 s.p.ins,.int .i64 s.p.outs,.slice ca s.p.cs.length cc,.int .i64 s.p.an,.slice sa s.p.st.length sc,.int .i64 s.p.rounds,.int .i64 s.tn,.slice ta s.tab.length tc,.slice xa s.ex.length xc] 35).alloc (.cells #[.slice a2 ch.length c2] 38)
  have R1:=row_new (w.alloc (.cells #[.int .i64 s.p.n,.int .i64 s.p.ins,.int .i64 s.p.outs,.slice ca s.p.cs.length cc,.int .i64 s.p.an,.slice sa s.p.st.length sc,.int .i64 s.p.rounds,.int .i64 s.tn,.slice ta s.tab.length tc,.slice xa s.ex.length xc] 35)) [.slice a2 ch.length c2] 38
  rw[World.size_alloc]at R1
  have t8:=R0.cell (j:=8) rfl
  have r1:=R1.cell (j:=0) rfl
  have l0:=R0.lt
  have l1:=R1.lt
  clear hc hs ht hx h2 hT
  by_cases hlen:ch.length=s.tab.length
  case neg=>
    have RE:Hid (formE s ch=15):=Lib.hid (by unfold formE;rw[if_neg hlen])
    have d1:((ch.length:Int) !=(s.tab.length:Int))=true:=by rw[bne_iff_ne];omega
    clear hlen
    go_enter Tryz.func46,Tryz.ntmps46
    go_wp2
    go_ret
    exact .mk ex (int_eq RE.out.symm)
  have d1:((ch.length:Int) !=(s.tab.length:Int))=false:=by rw[hlen];simp
  have HLEN:=Lib.hid hlen
  obtain ⟨r,hr⟩:∃r,r=formE s ch:=⟨_,rfl⟩
  rw[←hr]
  have HR:Hid (r=firstE (frmV s.tab ch s.p.outs) ch.length):=Lib.hid (by rw[hr];unfold formE;rw[if_pos hlen])
  clear hlen hr
  go_enter Tryz.func46,Tryz.ntmps46
  go_wp2
  clear t8 r1 l0 l1 d1
  go_loopw [5,6] (fun i _ wr=>∃k:Nat,k≤ch.length∧i=.int .i64 k∧Below w.heap.size w wr∧Row wr w.heap.size 35 [.int .i64 s.p.n,.int .i64 s.p.ins,.int .i64 s.p.outs,.slice ca s.p.cs.length cc,.int .i64 s.p.an,.slice sa s.p.st.length sc,.int .i64 s.p.rounds,.int .i64 s.tn,.slice ta s.tab.length tc,.slice xa s.ex.length xc]∧Row wr (w.heap.size+1) 38 [.slice a2 ch.length c2]∧Hid (∀j,j<k→frmV s.tab ch s.p.outs j=0)) (fun i _ _=>ch.length - (intOf i).toNat)
  case atStart=>exact ⟨0,Nat.zero_le _,rfl,ex,R0,R1,Lib.hid fun j hj=>by omega⟩
  case round=>
    clear ex R0 R1
    obtain ⟨k,hk,rfl,hb,R0,R1,HJ⟩:=hrel
    have r1:=R1.cell (j:=0) rfl
    have t2:=R0.cell (j:=2) rfl
    have t7:=R0.cell (j:=7) rfl
    have t8:=R0.cell (j:=8) rfl
    have l0:=R0.lt
    have l1:=R1.lt
    by_cases hlt:k<ch.length
    case neg=>
      have RE:Hid (r=0):=Lib.hid (by rw[HR.out];exact firstE_zero fun j hj=>HJ.out j (by omega))
      go_wp2
      go_ret
      exact .mk hb (int_eq RE.out.symm)
    have q1:=H2.out.idx hlt
    have cck:=(H2.out.ext hb).cellN hlt
    have hbk:=World.block_lt_of_cell? _ _ cck
    have hkT:k<s.tab.length:=by have:=HLEN.out;omega
    have HBF:=Lib.hid (HTT.out.bef hkT)
    have HF:Hid (frmV s.tab ch s.p.outs k=if nth ch k< -1∨s.p.outs≤nth ch k then 2 else if 0≤befV s.tab k∧0≤nth ch (befV s.tab k).toNat∧nth ch (befV s.tab k).toNat≠nth ch k then 21 else 0):=Lib.hid rfl
    have HFE:Hid (frmV s.tab ch s.p.outs k≠0→r=frmV s.tab ch s.p.outs k):=Lib.hid fun h0=>by rw[HR.out];exact firstE_at HJ.out h0 hlt
    have HNX:Hid (frmV s.tab ch s.p.outs k=0→∀j,j<k+1→frmV s.tab ch s.p.outs j=0):=Lib.hid fun h0 j hj=>by
      by_cases e:j=k
      · rw[e];exact h0
      · exact HJ.out j (by omega)
    obtain ⟨y,hy⟩:∃y,y=nth ch k:=⟨_,rfl⟩
    rw[←hy]at cck HF
    have HYY:=Lib.hid hy
    clear hy
    by_cases hA:y< -1∨s.p.outs≤y
    · have RE : Hid (r = 2) := Lib.hid (by have e2 : frmV s.tab ch s.p.outs k = 2 := by rw [HF.out, if_pos hA]
                                           rw[HFE.out (by rw[e2];decide),e2])
      have HA:=Lib.hid hA
      clear hA
      by_cases h1:y< -1
      · have e1:decide (y< -1)=true:=decide_eq_true h1
        clear h1
        go_wp2
        go_quiet (fail)
        go_wp2
        go_ret
        exact .mk (ext_trans hb (drewN_below _ _ _)) (int_eq RE.out.symm)
      · have e1:decide (y< -1)=false:=decide_eq_false h1
        have e2:decide (s.p.outs≤y)=true:=decide_eq_true (by have:=HA.out;omega)
        clear h1
        go_wp2
        go_quiet (fail)
        go_wp2
        go_ret
        exact .mk (ext_trans hb (drewN_below _ _ _)) (int_eq RE.out.symm)
    have e1:decide (y< -1)=false:=decide_eq_false (by omega)
    have e2:decide (s.p.outs≤y)=false:=decide_eq_false (by omega)
    have HF2:Hid (frmV s.tab ch s.p.outs k=if 0≤befV s.tab k∧0≤nth ch (befV s.tab k).toNat∧nth ch (befV s.tab k).toNat≠y then 21 else 0):=Lib.hid (by rw[HF.out,if_neg hA])
    clear hA HF
    go_wp2
    go_quiet (fail)
    refine draw_then fun w4 hq4=>?_
    replace R0:=R0.ext hq4.ext
    replace R1:=R1.ext hq4.ext
    replace hb:=ext_trans hb hq4.ext
    clear r1 t2 t7 t8 l0 l1 cck hbk
    have r1:=R1.cell (j:=0) rfl
    have t2:=R0.cell (j:=2) rfl
    have t7:=R0.cell (j:=7) rfl
    have t8:=R0.cell (j:=8) rfl
    have l0:=R0.lt
    have l1:=R1.lt
    have cck:=(H2.out.ext hb).cellN hlt
    rw[←HYY.out]at cck
    have hbk:=World.block_lt_of_cell? _ _ cck
    go_wp2_with fail
    refine (KB.out _ hb k hkT).mono ?_
    rintro _ w5 ⟨_,rfl,hb5,rfl⟩
    replace R0:=R0.ext hb5
    replace R1:=R1.ext hb5
    replace hb:=ext_trans hb hb5
    clear r1 t2 t7 t8 l0 l1 cck hbk hb5
    have r1:=R1.cell (j:=0) rfl
    have l1:=R1.lt
    rcases HBF.out with hbv | ⟨u,hu,hbv⟩
    · have HX:=Lib.hid (HNX.out (by rw[HF2.out,if_neg (fun h=>by rw[hbv]at h;exact absurd h.1 (by decide))]))
      rw[hbv]
      clear hbv HF2 HFE HBF
      go_wp2
      go_quiet (fail)
      refine draw_then fun w6 hq4=>?_
      replace R0:=R0.ext hq4.ext
      replace R1:=R1.ext hq4.ext
      replace hb:=ext_trans hb hq4.ext
      go_wp2
      go_roundw
      case rel=>exact ⟨k+1,by omega,by go_num,hb,R0,R1,HX⟩
      case measure=>simp[intOf];omega
    rw[hbv,Int.toNat_natCast]at HF2
    rw[hbv]
    have hul:u<ch.length:=by omega
    have q2:=H2.out.idx hul
    have ccu:=(H2.out.ext hb).cellN hul
    have hbu:=World.block_lt_of_cell? _ _ ccu
    have cck:=(H2.out.ext hb).cellN hlt
    rw[←HYY.out]at cck
    have hbk:=World.block_lt_of_cell? _ _ cck
    obtain ⟨y2,hy2⟩:∃y,y=nth ch u:=⟨_,rfl⟩
    rw[←hy2]at ccu HF2
    have d0:decide ((0:Int)≤(u:Int))=true:=decide_eq_true (by omega)
    clear hbv hy2 HBF
    by_cases h2:0≤y2
    case neg=>
      have e3:decide (0≤y2)=false:=decide_eq_false h2
      have HX:=Lib.hid (HNX.out (by rw[HF2.out,if_neg (fun h=>h2 h.2.1)]))
      clear h2
      go_wp2
      go_quiet (fail)
      refine draw_then fun w6 hq4=>?_
      replace R0:=R0.ext hq4.ext
      replace R1:=R1.ext hq4.ext
      replace hb:=ext_trans hb hq4.ext
      go_wp2
      go_roundw
      case rel=>exact ⟨k+1,by omega,by go_num,hb,R0,R1,HX⟩
      case measure=>simp[intOf];omega
    have e3:decide (0≤y2)=true:=decide_eq_true h2
    by_cases h3:y2=y
    · have e4:(y !=y2)=false:=by simp[h3]
      have HX:=Lib.hid (HNX.out (by rw[HF2.out,if_neg (fun h=>h.2.2 h3)]))
      clear h2 h3
      go_wp2
      go_quiet (fail)
      refine draw_then fun w6 hq4=>?_
      replace R0:=R0.ext hq4.ext
      replace R1:=R1.ext hq4.ext
      replace hb:=ext_trans hb hq4.ext
      go_wp2
      go_roundw
      case rel=>exact ⟨k+1,by omega,by go_num,hb,R0,R1,HX⟩
      case measure=>simp[intOf];omega
    · have e4:(y !=y2)=true:=by simp;omega
      have RE : Hid (r = 21) := Lib.hid (by have e5 : frmV s.tab ch s.p.outs k = 21 := by rw [HF2.out, if_pos ⟨by omega, h2, h3⟩]
                                            rw[HFE.out (by rw[e5];decide),e5])
      clear h2 h3
      go_wp2
      go_quiet (fail)
      go_wp2
      go_ret
      exact .mk (ext_trans hb (drewN_below _ _ _)) (int_eq RE.out.symm)
end Go.Proofs.YtcopehiceihdaaaGreat
