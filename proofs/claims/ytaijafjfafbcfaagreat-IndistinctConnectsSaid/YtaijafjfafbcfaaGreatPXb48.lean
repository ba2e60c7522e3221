/- Part of the proof that the laws answer true for every input. -/
import Derived.Test.YtaijafjfafbcfaaGreatPXb47
set_option linter.unusedSimpArgs false
set_option linter.unnecessarySimpa false
set_option linter.unusedVariables false
set_option maxRecDepth 100000
set_option maxHeartbeats 40000000
namespace Go.Proofs.YtaijafjfafbcfaaGreat
open Go.RowKit
attribute [local go_sem ↓] Go.wp_at_zero Go.wp_at_succ
theorem post_mono25 {w w':World} {e:Ending} {R R':World→Value→Prop} (h:Post w R e w') (hR:∀a b,R a b→R' a b):Post w R' e w':=by
 obtain ⟨v,h1,h2,h3⟩:=h
 exact ⟨v,h1,h2,hR _ _ h3⟩
theorem equal25 {S S':Nat→Prop} {w:World} {v1 v2:Value} {l:List Int} (h1:Ints S w v1 l) (h2:Ints S' w v2 l):
  Calls Tryz.prog 29 #[v1,v2] w (Post w fun _ r=>r=.bool true):=(equal_calls h1 h2).mono fun _ _ h=>by simpa using h
def wl25:List (List Int):=[[1, -1],[0,1],[2,0],[3,1]]
theorem links25 (W:World):Sl (kFlat 2) TT (W.alloc (.cells #[.int .i64 1,.int .i64 (-1),.int .i64 0,.int .i64 1,.int .i64 2,.int .i64 0,.int .i64 3,.int .i64 1] 70)) (.slice (some ⟨W.heap.size,0,none⟩) 4 4) wl25:=
 sl_row25 (K:=kFlat 2) (S:=TT) (l:=wl25) [[.int .i64 1,.int .i64 (-1)],[.int .i64 0,.int .i64 1],[.int .i64 2,.int .i64 0],[.int .i64 3,.int .i64 1]] (row_new W [.int .i64 1,.int .i64 (-1),.int .i64 0,.int .i64 1,.int .i64 2,.int .i64 0,.int .i64 3,.int .i64 1] 70) trivial rfl (by simp[kFlat]) (by decide) (fun j hj=>match j,hj with
  | 0,_=>⟨rfl,rfl,fun z hz=>WF.small (by simp[wl25]at hz;omega)⟩
  | 1,_=>⟨rfl,rfl,fun z hz=>WF.small (by simp[wl25]at hz;omega)⟩
  | 2,_=>⟨rfl,rfl,fun z hz=>WF.small (by simp[wl25]at hz;omega)⟩
  | 3,_=>⟨rfl,rfl,fun z hz=>WF.small (by simp[wl25]at hz;omega)⟩
  | j+4,h=>absurd h (by simp[wl25]))
theorem awake_calls (w:World):Calls Tryz.prog 11 #[] w (Post w fun _ r=>r=.bool true):=by
 have KEX:=Lib.hid (example25_calls w)
 go_enter Tryz.func11,Tryz.ntmps11
 go_wp2_with fail
 refine KEX.out.mono ?_
 rintro _ w1 ⟨_,rfl,hb1,v,rfl,hsy⟩
 clear KEX
 have HF:Hid (PFew e25S.p):=Lib.hid e25_few.few
 have A1:Hid (LnkR e25S 0 2=fun r=>r=.tuple #[.int .i64 1,.int .i64 0]):=Lib.hid (by funext r;unfold LnkR;rw[e25_lnk,e25_th02])
 have A2:Hid (∀B w' r,ClsR B e25S 0 w' r→∃a c,r=.tuple #[.slice a 4 c,.int .i64 0]∧Ints TT w' (.slice a 4 c) [0,1,0,2]):=Lib.hid (by
  rintro B w' r (⟨_,u,rfl,hu⟩ | ⟨h,_⟩)
  ·rw[show clsL e25S (0:Int).toNat=_ from e25_cl0]at hu
   obtain ⟨a,c,rfl,_⟩:=hu.form
   exact ⟨a,c,rfl,hu.mono fun _ _=>trivial⟩
  ·exact absurd e25_ce0 h)
 have A3:Hid (∀B w' r,ClsR B e25S 1 w' r→∃a c,r=.tuple #[.slice a 4 c,.int .i64 0]∧Ints TT w' (.slice a 4 c) [0,0,1,1]):=Lib.hid (by
  rintro B w' r (⟨_,u,rfl,hu⟩ | ⟨h,_⟩)
  ·rw[show clsL e25S (1:Int).toNat=_ from e25_cl1]at hu
   obtain ⟨a,c,rfl,_⟩:=hu.form
   exact ⟨a,c,rfl,hu.mono fun _ _=>trivial⟩
  ·exact absurd e25_ce1 h)
 have A4:Hid (∀B w' r,CmpR B e25S w' r→∃a c,r=.tuple #[.slice a 4 c,.int .i64 0]∧Ints TT w' (.slice a 4 c) [0,0,0,0]):=Lib.hid (by
  rintro B w' r (⟨_,u,rfl,hu⟩ | ⟨h,_⟩)
  ·rw[show cmpL e25S (e25S.N - 1)=[0,0,0,0] by rw[e25_N];exact e25_cmp]at hu
   obtain ⟨a,c,rfl,_⟩:=hu.form
   exact ⟨a,c,rfl,hu.mono fun _ _=>trivial⟩
  ·exact absurd e25_ver h)
 have A5:Hid (∀B w' r,WlkR B e25S 1 3 w' r→∃a c,r=.tuple #[.slice a 4 c,.bool true,.int .i64 0]∧Sl (kFlat 2) TT w' (.slice a 4 c) wl25):=Lib.hid (by
  rintro B w' r (⟨_,u,rfl,hu⟩ | ⟨h,_⟩)
  ·rw[show dstV e25S (3:Int).toNat (1:Int).toNat=3 from e25_dst]
   rw[show wlkL e25S (3:Int).toNat (1:Int).toNat=wl25 from e25_wlk]at hu
   obtain ⟨a,c,rfl,_⟩:=hu.form
   exact ⟨a,c,rfl,hu.mono fun _ _=>trivial⟩
  ·exact absurd e25_th13 h)
 have A6:Hid (DstR e25S 1 3=fun r=>r=.tuple #[.int .i64 3,.bool true,.int .i64 0]):=Lib.hid (by
  funext r;unfold DstR dstA dstB
  rw[show dstV e25S (3:Int).toNat (1:Int).toNat=3 from e25_dst,e25_th13];rfl)
 have A7:Hid (verW e25S wl25=0):=Lib.hid e25_chk
 have A8:Hid (verW e25S []=16):=Lib.hid e25_nil
 obtain ⟨s,hs⟩:∃s,s=e25S:=⟨_,rfl⟩
 rw[←hs]at hsy HF A1 A2 A3 A4 A5 A6 A7 A8
 have h:=hsy
 obtain ⟨vc,vs,vt,vx,rfl,hc,hs',ht,hx⟩:=h
 obtain ⟨ca,cc,rfl,_⟩:=hc.form
 obtain ⟨sa,sc,rfl,_⟩:=hs'.form
 obtain ⟨ta,tc,rfl,_⟩:=ht.form
 obtain ⟨xa,xc,rfl,_⟩:=hx.form2
 have e1:=ext_alloc w1 (.cells #[.int .i64 s.p.n,.int .i64 s.p.ins,.int .i64 s.p.outs,.slice ca s.p.cs.length cc,.int .i64 s.p.an,.slice sa s.p.st.length sc,.int .i64 s.p.rounds,.int .i64 s.tn,.slice ta s.tab.length tc,.slice xa s.ex.length xc] 35)
 have R0:=row_new w1 [.int .i64 s.p.n,.int .i64 s.p.ins,.int .i64 s.p.outs,.slice ca s.p.cs.length cc,.int .i64 s.p.an,.slice sa s.p.st.length sc,.int .i64 s.p.rounds,.int .i64 s.tn,.slice ta s.tab.length tc,.slice xa s.ex.length xc] 35
 have HSY:=Lib.hid (hsy.ext e1)
 have HEX:=Lib.hid (ext_trans hb1 e1)
 obtain ⟨w2,hw2⟩:∃w2,w2=w1.alloc (.cells #[.int .i64 s.p.n,.int .i64 s.p.ins,.int .i64 s.p.outs,.slice ca s.p.cs.length cc,.int .i64 s.p.an,.slice sa s.p.st.length sc,.int .i64 s.p.rounds,.int .i64 s.tn,.slice ta s.tab.length tc,.slice xa s.ex.length xc] 35):=⟨_,rfl⟩
 obtain ⟨B1,hB1⟩:∃B1,B1=w1.heap.size:=⟨_,rfl⟩
 rw[←hw2]at R0 HSY HEX
 rw[←hB1]at R0
 have HW2:=Lib.hid hw2
 have HB1:=Lib.hid hB1
 clear hs hsy hc hs' ht hx e1 hb1 hw2 hB1
 have ex:=Below.refl w2.heap.size w2
 have KL:Hid (∀W,Below w2.heap.size w2 W→Calls Tryz.prog 12 #[.agg #[.int .i64 s.p.n,.int .i64 s.p.ins,.int .i64 s.p.outs,.slice ca s.p.cs.length cc,.int .i64 s.p.an,.slice sa s.p.st.length sc,.int .i64 s.p.rounds,.int .i64 s.tn,.slice ta s.tab.length tc,.slice xa s.ex.length xc],.int .i64 0,.int .i64 2] W (Post W fun w' r=>r=.tuple #[.int .i64 1,.int .i64 0])):=Lib.hid fun W hW=>by have:=pLinked_calls 0 2 (WF.small (by decide)) (WF.small (by decide)) (HSY.out.ext hW) HF.out;rw[A1.out]at this;exact this
 have KC0:Hid (∀W,Below w2.heap.size w2 W→Calls Tryz.prog 14 #[.agg #[.int .i64 s.p.n,.int .i64 s.p.ins,.int .i64 s.p.outs,.slice ca s.p.cs.length cc,.int .i64 s.p.an,.slice sa s.p.st.length sc,.int .i64 s.p.rounds,.int .i64 s.tn,.slice ta s.tab.length tc,.slice xa s.ex.length xc],.int .i64 0] W (Post W fun w' r=>∃a c,r=.tuple #[.slice a 4 c,.int .i64 0]∧Ints TT w' (.slice a 4 c) [0,1,0,2])):=Lib.hid fun W hW=>(pClasses_calls 0 (HSY.out.ext hW) HF.out).mono fun e w' h=>post_mono25 h fun _ _ hr=>A2.out _ _ _ hr
 have KC1:Hid (∀W,Below w2.heap.size w2 W→Calls Tryz.prog 14 #[.agg #[.int .i64 s.p.n,.int .i64 s.p.ins,.int .i64 s.p.outs,.slice ca s.p.cs.length cc,.int .i64 s.p.an,.slice sa s.p.st.length sc,.int .i64 s.p.rounds,.int .i64 s.tn,.slice ta s.tab.length tc,.slice xa s.ex.length xc],.int .i64 1] W (Post W fun w' r=>∃a c,r=.tuple #[.slice a 4 c,.int .i64 0]∧Ints TT w' (.slice a 4 c) [0,0,1,1])):=Lib.hid fun W hW=>(pClasses_calls 1 (HSY.out.ext hW) HF.out).mono fun e w' h=>post_mono25 h fun _ _ hr=>A3.out _ _ _ hr
 have KM:Hid (∀W,Below w2.heap.size w2 W→Calls Tryz.prog 17 #[.agg #[.int .i64 s.p.n,.int .i64 s.p.ins,.int .i64 s.p.outs,.slice ca s.p.cs.length cc,.int .i64 s.p.an,.slice sa s.p.st.length sc,.int .i64 s.p.rounds,.int .i64 s.tn,.slice ta s.tab.length tc,.slice xa s.ex.length xc]] W (Post W fun w' r=>∃a c,r=.tuple #[.slice a 4 c,.int .i64 0]∧Ints TT w' (.slice a 4 c) [0,0,0,0])):=Lib.hid fun W hW=>(pComps_calls (HSY.out.ext hW) HF.out).mono fun e w' h=>post_mono25 h fun _ _ hr=>A4.out _ _ _ hr
 have KW:Hid (∀W,Below w2.heap.size w2 W→Calls Tryz.prog 19 #[.agg #[.int .i64 s.p.n,.int .i64 s.p.ins,.int .i64 s.p.outs,.slice ca s.p.cs.length cc,.int .i64 s.p.an,.slice sa s.p.st.length sc,.int .i64 s.p.rounds,.int .i64 s.tn,.slice ta s.tab.length tc,.slice xa s.ex.length xc],.int .i64 1,.int .i64 3] W (Post W fun w' r=>∃a c,r=.tuple #[.slice a 4 c,.bool true,.int .i64 0]∧Sl (kFlat 2) TT w' (.slice a 4 c) wl25)):=Lib.hid fun W hW=>(pWalk_calls 1 3 (WF.small (by decide)) (WF.small (by decide)) (HSY.out.ext hW) HF.out).mono fun e w' h=>post_mono25 h fun _ _ hr=>A5.out _ _ _ hr
 have KD:Hid (∀W,Below w2.heap.size w2 W→Calls Tryz.prog 21 #[.agg #[.int .i64 s.p.n,.int .i64 s.p.ins,.int .i64 s.p.outs,.slice ca s.p.cs.length cc,.int .i64 s.p.an,.slice sa s.p.st.length sc,.int .i64 s.p.rounds,.int .i64 s.tn,.slice ta s.tab.length tc,.slice xa s.ex.length xc],.int .i64 1,.int .i64 3] W (Post W fun w' r=>r=.tuple #[.int .i64 3,.bool true,.int .i64 0])):=Lib.hid fun W hW=>by have:=pDist_calls 1 3 (WF.small (by decide)) (WF.small (by decide)) (HSY.out.ext hW) HF.out;rw[A6.out]at this;exact this
 have KV:Hid (∀W u,Below w2.heap.size w2 W→Sl (kFlat 2) TT W u wl25→Calls Tryz.prog 24 #[.agg #[.int .i64 s.p.n,.int .i64 s.p.ins,.int .i64 s.p.outs,.slice ca s.p.cs.length cc,.int .i64 s.p.an,.slice sa s.p.st.length sc,.int .i64 s.p.rounds,.int .i64 s.tn,.slice ta s.tab.length tc,.slice xa s.ex.length xc],u] W (Post W fun w' r=>r=.int .i64 0)):=Lib.hid fun W u hW hu=>by
  have:=pVerifyW_calls (HSY.out.ext hW) HF.out hu;rw[A7.out]at this;exact this
 have KN:Hid (∀W,Below w2.heap.size w2 W→Calls Tryz.prog 24 #[.agg #[.int .i64 s.p.n,.int .i64 s.p.ins,.int .i64 s.p.outs,.slice ca s.p.cs.length cc,.int .i64 s.p.an,.slice sa s.p.st.length sc,.int .i64 s.p.rounds,.int .i64 s.tn,.slice ta s.tab.length tc,.slice xa s.ex.length xc],.slice none 0 0] W (Post W fun w' r=>r=.int .i64 16)):=Lib.hid fun W hW=>by
  have:=pVerifyW_calls (HSY.out.ext hW) HF.out (Sl.nil (kFlat 2) TT W);rw[A8.out]at this;exact this
 clear A1 A2 A3 A4 A5 A6 A7 A8 HF HSY
 have t0:=R0.cell (j:=0) rfl
 have t1:=R0.cell (j:=1) rfl
 have t2:=R0.cell (j:=2) rfl
 have t3:=R0.cell (j:=3) rfl
 have t4:=R0.cell (j:=4) rfl
 have t5:=R0.cell (j:=5) rfl
 have t6:=R0.cell (j:=6) rfl
 have t7:=R0.cell (j:=7) rfl
 have t8:=R0.cell (j:=8) rfl
 have t9:=R0.cell (j:=9) rfl
 have l0:=R0.lt
 go_upto_region 4 with fail
 rw[←HW2.out,←HB1.out]
 clear HW2 HB1
 go_wp2_with fail
 refine (KL.out _ ex).mono ?_
 rintro _ v1 ⟨_,rfl,hb,rfl⟩
 replace R0:=R0.ext hb
 replace ex:=ext_trans ex hb
 clear hb KL t0 t1 t2 t3 t4 t5 t6 t7 t8 t9 l0
 have t0:=R0.cell (j:=0) rfl
 have t1:=R0.cell (j:=1) rfl
 have t2:=R0.cell (j:=2) rfl
 have t3:=R0.cell (j:=3) rfl
 have t4:=R0.cell (j:=4) rfl
 have t5:=R0.cell (j:=5) rfl
 have t6:=R0.cell (j:=6) rfl
 have t7:=R0.cell (j:=7) rfl
 have t8:=R0.cell (j:=8) rfl
 have t9:=R0.cell (j:=9) rfl
 have l0:=R0.lt
 go_wp2_with fail
 refine (KC0.out _ ex).mono ?_
 rintro _ v2 ⟨_,rfl,hb,a0,c0,rfl,hi⟩
 replace R0:=R0.ext hb
 replace ex:=ext_trans ex hb
 have H0:=Lib.hid hi
 clear hi KC0
 clear hb t0 t1 t2 t3 t4 t5 t6 t7 t8 t9 l0
 have t0:=R0.cell (j:=0) rfl
 have t1:=R0.cell (j:=1) rfl
 have t2:=R0.cell (j:=2) rfl
 have t3:=R0.cell (j:=3) rfl
 have t4:=R0.cell (j:=4) rfl
 have t5:=R0.cell (j:=5) rfl
 have t6:=R0.cell (j:=6) rfl
 have t7:=R0.cell (j:=7) rfl
 have t8:=R0.cell (j:=8) rfl
 have t9:=R0.cell (j:=9) rfl
 have l0:=R0.lt
 go_wp2_with fail
 refine (KC1.out _ ex).mono ?_
 rintro _ v3 ⟨_,rfl,hb,a1,c1,rfl,hi⟩
 replace R0:=R0.ext hb
 replace ex:=ext_trans ex hb
 have H1:=Lib.hid hi
 clear hi KC1
 replace H0:=Lib.hid (H0.out.ext hb)
 clear hb t0 t1 t2 t3 t4 t5 t6 t7 t8 t9 l0
 have t0:=R0.cell (j:=0) rfl
 have t1:=R0.cell (j:=1) rfl
 have t2:=R0.cell (j:=2) rfl
 have t3:=R0.cell (j:=3) rfl
 have t4:=R0.cell (j:=4) rfl
 have t5:=R0.cell (j:=5) rfl
 have t6:=R0.cell (j:=6) rfl
 have t7:=R0.cell (j:=7) rfl
 have t8:=R0.cell (j:=8) rfl
 have t9:=R0.cell (j:=9) rfl
 have l0:=R0.lt
 go_wp2_with fail
 refine (KM.out _ ex).mono ?_
 rintro _ v4 ⟨_,rfl,hb,am,cm,rfl,hi⟩
 replace R0:=R0.ext hb
 replace ex:=ext_trans ex hb
 have HM:=Lib.hid hi
 clear hi KM
 replace H0:=Lib.hid (H0.out.ext hb)
 replace H1:=Lib.hid (H1.out.ext hb)
 clear hb t0 t1 t2 t3 t4 t5 t6 t7 t8 t9 l0
 have t0:=R0.cell (j:=0) rfl
 have t1:=R0.cell (j:=1) rfl
 have t2:=R0.cell (j:=2) rfl
 have t3:=R0.cell (j:=3) rfl
 have t4:=R0.cell (j:=4) rfl
 have t5:=R0.cell (j:=5) rfl
 have t6:=R0.cell (j:=6) rfl
 have t7:=R0.cell (j:=7) rfl
 have t8:=R0.cell (j:=8) rfl
 have t9:=R0.cell (j:=9) rfl
 have l0:=R0.lt
 go_wp2_with fail
 refine (KW.out _ ex).mono ?_
 rintro _ v5 ⟨_,rfl,hb,aw,cw,rfl,hi⟩
 replace R0:=R0.ext hb
 replace ex:=ext_trans ex hb
 have HW:=Lib.hid hi
 clear hi KW
 replace H0:=Lib.hid (H0.out.ext hb)
 replace H1:=Lib.hid (H1.out.ext hb)
 replace HM:=Lib.hid (HM.out.ext hb)
 clear hb t0 t1 t2 t3 t4 t5 t6 t7 t8 t9 l0
 have t0:=R0.cell (j:=0) rfl
 have t1:=R0.cell (j:=1) rfl
 have t2:=R0.cell (j:=2) rfl
 have t3:=R0.cell (j:=3) rfl
 have t4:=R0.cell (j:=4) rfl
 have t5:=R0.cell (j:=5) rfl
 have t6:=R0.cell (j:=6) rfl
 have t7:=R0.cell (j:=7) rfl
 have t8:=R0.cell (j:=8) rfl
 have t9:=R0.cell (j:=9) rfl
 have l0:=R0.lt
 go_wp2_with fail
 refine (KD.out _ ex).mono ?_
 rintro _ v6 ⟨_,rfl,hb,rfl⟩
 replace R0:=R0.ext hb
 replace ex:=ext_trans ex hb
 clear KD
 replace H0:=Lib.hid (H0.out.ext hb)
 replace H1:=Lib.hid (H1.out.ext hb)
 replace HM:=Lib.hid (HM.out.ext hb)
 replace HW:=Lib.hid (HW.out.ext hb)
 clear hb t0 t1 t2 t3 t4 t5 t6 t7 t8 t9 l0
 go_wp2_with fail
 refine (equal25 (H0.out.ext (ext_alloc v6 (.cells #[.int .i64 0,.int .i64 1,.int .i64 0,.int .i64 2] 3))) (lit_ints v6 v6.heap.size rfl [0,1,0,2] 3 (by decide) (by decide))).mono ?_
 rintro _ v7 ⟨_,rfl,hb,rfl⟩
 replace hb:=ext_trans (ext_alloc v6 (.cells #[.int .i64 0,.int .i64 1,.int .i64 0,.int .i64 2] 3)) hb
 replace R0:=R0.ext hb
 replace ex:=ext_trans ex hb
 replace H1:=Lib.hid (H1.out.ext hb)
 replace HM:=Lib.hid (HM.out.ext hb)
 replace HW:=Lib.hid (HW.out.ext hb)
 clear hb H0
 go_wp2_with fail
 refine (equal25 (H1.out.ext (ext_alloc v7 (.cells #[.int .i64 0,.int .i64 0,.int .i64 1,.int .i64 1] 3))) (lit_ints v7 v7.heap.size rfl [0,0,1,1] 3 (by decide) (by decide))).mono ?_
 rintro _ v8 ⟨_,rfl,hb,rfl⟩
 replace hb:=ext_trans (ext_alloc v7 (.cells #[.int .i64 0,.int .i64 0,.int .i64 1,.int .i64 1] 3)) hb
 replace R0:=R0.ext hb
 replace ex:=ext_trans ex hb
 replace HM:=Lib.hid (HM.out.ext hb)
 replace HW:=Lib.hid (HW.out.ext hb)
 clear hb H1
 go_wp2_with fail
 refine (equal25 (HM.out.ext (ext_alloc v8 (.cells #[.int .i64 0,.int .i64 0,.int .i64 0,.int .i64 0] 3))) (lit_ints v8 v8.heap.size rfl [0,0,0,0] 3 (by decide) (by decide))).mono ?_
 rintro _ v9 ⟨_,rfl,hb,rfl⟩
 replace hb:=ext_trans (ext_alloc v8 (.cells #[.int .i64 0,.int .i64 0,.int .i64 0,.int .i64 0] 3)) hb
 replace R0:=R0.ext hb
 replace ex:=ext_trans ex hb
 replace HW:=Lib.hid (HW.out.ext hb)
 clear hb HM
 go_wp2_with fail
 refine (equalW_quiet (HW.out.ext (ext_alloc v9 (.cells #[.int .i64 1,.int .i64 (-1),.int .i64 0,.int .i64 1,.int .i64 2,.int .i64 0,.int .i64 3,.int .i64 1] 70))) (links25 v9) |>.mono fun _ _ h=>h.take).mono ?_
 rintro _ v10 ⟨_,rfl,hq,rfl⟩
 have hb:=ext_trans (ext_alloc v9 (.cells #[.int .i64 1,.int .i64 (-1),.int .i64 0,.int .i64 1,.int .i64 2,.int .i64 0,.int .i64 3,.int .i64 1] 70)) hq.ext
 replace R0:=R0.ext hb
 replace ex:=ext_trans ex hb
 replace HW:=Lib.hid (HW.out.ext hb)
 clear hq hb
 have t0:=R0.cell (j:=0) rfl
 have t1:=R0.cell (j:=1) rfl
 have t2:=R0.cell (j:=2) rfl
 have t3:=R0.cell (j:=3) rfl
 have t4:=R0.cell (j:=4) rfl
 have t5:=R0.cell (j:=5) rfl
 have t6:=R0.cell (j:=6) rfl
 have t7:=R0.cell (j:=7) rfl
 have t8:=R0.cell (j:=8) rfl
 have t9:=R0.cell (j:=9) rfl
 have l0:=R0.lt
 go_wp2_with fail
 refine (KV.out _ _ ex HW.out).mono ?_
 rintro _ v11 ⟨_,rfl,hb,rfl⟩
 replace R0:=R0.ext hb
 replace ex:=ext_trans ex hb
 clear hb KV t0 t1 t2 t3 t4 t5 t6 t7 t8 t9 l0
 have t0:=R0.cell (j:=0) rfl
 have t1:=R0.cell (j:=1) rfl
 have t2:=R0.cell (j:=2) rfl
 have t3:=R0.cell (j:=3) rfl
 have t4:=R0.cell (j:=4) rfl
 have t5:=R0.cell (j:=5) rfl
 have t6:=R0.cell (j:=6) rfl
 have t7:=R0.cell (j:=7) rfl
 have t8:=R0.cell (j:=8) rfl
 have t9:=R0.cell (j:=9) rfl
 have l0:=R0.lt
 go_wp2_with fail
 refine (KN.out _ ex).mono ?_
 rintro _ v12 ⟨_,rfl,hb,rfl⟩
 replace ex:=ext_trans ex hb
 clear hb KN t0 t1 t2 t3 t4 t5 t6 t7 t8 t9 l0 R0
 have HE:=Lib.hid (ext_trans HEX.out ex)
 clear ex HEX
 go_wp2
 go_ret
 exact .mk HE.out rfl
end Go.Proofs.YtaijafjfafbcfaaGreat
namespace Go.Proofs.YtaijafjfafbcfaaGreat
open Go.RowKit
attribute [local go_sem ↓] Go.wp_at_zero Go.wp_at_succ
end Go.Proofs.YtaijafjfafbcfaaGreat
namespace Go.Proofs.YtaijafjfafbcfaaGreat
open Go.RowKit
attribute [local go_sem ↓] Go.wp_at_zero Go.wp_at_succ
end Go.Proofs.YtaijafjfafbcfaaGreat
