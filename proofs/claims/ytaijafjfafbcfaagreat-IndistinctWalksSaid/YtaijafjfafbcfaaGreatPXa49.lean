/- Part of the proof that the laws answer true for every input. -/
import Derived.Test.YtaijafjfafbcfaaGreatPXa47
set_option linter.unusedSimpArgs false
set_option linter.unnecessarySimpa false
set_option linter.unusedVariables false
set_option maxRecDepth 100000
set_option maxHeartbeats 40000000
namespace Go.Proofs.YtaijafjfafbcfaaGreat
open Go.RowKit
attribute [local go_sem ↓] Go.wp_at_zero Go.wp_at_succ
theorem walkIndistinctWalks {S:Nat→Prop} {w:World} {v:Value} {s:SysF} {x y:Int} (h:SysV S w v s) (hwx:WF x) (hwy:WF y):
  Calls Tryz.prog 5 #[v,.int .i64 x,.int .i64 y] w (Post w fun _ r=>r=.bool true):=by
 have KFS:Hid (∀W,Below w.heap.size w W→Calls Tryz.prog 10 #[v] W (Post W fun _ r=>Tells (FewS s) r)):=Lib.hid fun W hW=>fewS_calls (h.ext hW)
 have KC:Hid (FewS s→∀W,Below w.heap.size w W→Calls Tryz.prog 19 #[v,.int .i64 x,.int .i64 y] W (Post W (TripL (wlkA s x y) (wlkB s x y) (thE s x y)))):=Lib.hid fun hf W hW=>(pWalk_calls x y hwx hwy (h.ext hW) hf.p.few).mono fun _ _ h=>post_mono25 h fun _ _ hr=>hr.trip
 have KD:Hid (FewS s→∀W,Below w.heap.size w W→Calls Tryz.prog 20 #[v,.int .i64 x,.int .i64 y] W (Post W (TripL (wlkA s x y) (wlkB s x y) (thE s x y)))):=Lib.hid fun hf W hW=>(rWalk_calls x y (h.ext hW) hf.p.few.small).mono fun _ _ h=>post_mono25 h fun _ _ hr=>hr.trip
 have KP:Hid (FewS s→∀W,Below w.heap.size w W→Calls Tryz.prog 21 #[v,.int .i64 x,.int .i64 y] W (Post W fun _ r=>r=.tuple #[.int .i64 (dstA s x y),.bool (dstB s x y),.int .i64 (thE s x y)])):=Lib.hid fun hf W hW=>pDist_calls x y hwx hwy (h.ext hW) hf.p.few
 have KR:Hid (FewS s→∀W,Below w.heap.size w W→Calls Tryz.prog 22 #[v,.int .i64 x,.int .i64 y] W (Post W fun _ r=>r=.tuple #[.int .i64 (dstA s x y),.bool (dstB s x y),.int .i64 (thE s x y)])):=Lib.hid fun hf W hW=>rDist_calls x y (h.ext hW) hf.p.few.small
 obtain ⟨l1,hl1⟩:∃l1,l1=wlkA s x y:=⟨_,rfl⟩
 rw[←hl1]at KC KD
 clear hl1
 obtain ⟨b1,hb1⟩:∃b1,b1=wlkB s x y:=⟨_,rfl⟩
 rw[←hb1]at KC KD
 clear hb1
 obtain ⟨d1,hd1⟩:∃d1,d1=thE s x y:=⟨_,rfl⟩
 rw[←hd1]at KC KD KP KR
 clear hd1
 obtain ⟨a1,ha1⟩:∃a1,a1=dstA s x y:=⟨_,rfl⟩
 rw[←ha1]at KP KR
 clear ha1
 obtain ⟨e1,he1⟩:∃e1,e1=dstB s x y:=⟨_,rfl⟩
 rw[←he1]at KP KR
 clear he1
 have ga1:(a1==a1)=true:=by simp
 have gb1:(b1==b1)=true:=by cases b1<;>rfl
 have gd1:(d1==d1)=true:=by simp
 have ge1:(e1==e1)=true:=by cases e1<;>rfl
 obtain ⟨vc,vs,vt,vx,rfl,hc,hs,ht,hx⟩:=h
 obtain ⟨ca,cc,rfl,_⟩:=hc.form
 obtain ⟨sa,sc,rfl,_⟩:=hs.form
 obtain ⟨ta,tc,rfl,_⟩:=ht.form
 obtain ⟨xa,xc,rfl,xad,_⟩:=hx.form2
 have ex:=ext_alloc w (.cells #[.int .i64 s.p.n,.int .i64 s.p.ins,.int .i64 s.p.outs,.slice ca s.p.cs.length cc,.int .i64 s.p.an,.slice sa s.p.st.length sc,.int .i64 s.p.rounds,.int .i64 s.tn,.slice ta s.tab.length tc,.slice xa s.ex.length xc] 35)
 have R0:=row_new w [.int .i64 s.p.n,.int .i64 s.p.ins,.int .i64 s.p.outs,.slice ca s.p.cs.length cc,.int .i64 s.p.an,.slice sa s.p.st.length sc,.int .i64 s.p.rounds,.int .i64 s.tn,.slice ta s.tab.length tc,.slice xa s.ex.length xc] 35
 clear hc hs ht hx
 go_enter Tryz.func5,Tryz.ntmps5
 have tR00:=R0.cell (j:=0) rfl
 have tR01:=R0.cell (j:=1) rfl
 have tR02:=R0.cell (j:=2) rfl
 have tR03:=R0.cell (j:=3) rfl
 have tR04:=R0.cell (j:=4) rfl
 have tR05:=R0.cell (j:=5) rfl
 have tR06:=R0.cell (j:=6) rfl
 have tR07:=R0.cell (j:=7) rfl
 have tR08:=R0.cell (j:=8) rfl
 have tR09:=R0.cell (j:=9) rfl
 have lR0:=R0.lt
 go_wp2_with fail
 refine (KFS.out _ ex).mono ?_
 rintro _ w1 ⟨_,rfl,hb,b0,rfl,hb0⟩
 replace R0:=R0.ext hb
 replace ex:=ext_trans ex hb
 clear hb tR00 tR01 tR02 tR03 tR04 tR05 tR06 tR07 tR08 tR09 lR0 KFS
 cases b0 with
 | false=>
  go_wp2_with fail
  refine (awake_calls _).mono ?_
  rintro _ w99 ⟨_,rfl,hb,rfl⟩
  replace ex:=ext_trans ex hb
  clear hb R0
  go_wp2
  go_ret
  exact .mk ex rfl
 | true=>
 have hfew:=hb0 rfl
 clear hb0
 have tR00:=R0.cell (j:=0) rfl
 have tR01:=R0.cell (j:=1) rfl
 have tR02:=R0.cell (j:=2) rfl
 have tR03:=R0.cell (j:=3) rfl
 have tR04:=R0.cell (j:=4) rfl
 have tR05:=R0.cell (j:=5) rfl
 have tR06:=R0.cell (j:=6) rfl
 have tR07:=R0.cell (j:=7) rfl
 have tR08:=R0.cell (j:=8) rfl
 have tR09:=R0.cell (j:=9) rfl
 have lR0:=R0.lt
 go_wp2_with fail
 refine (KC.out hfew _ ex).mono ?_
 rintro _ w2 ⟨_,rfl,hb,a,c,rfl,hi⟩
 replace R0:=R0.ext hb
 replace ex:=ext_trans ex hb
 have H1:=Lib.hid hi
 clear hi
 clear hb tR00 tR01 tR02 tR03 tR04 tR05 tR06 tR07 tR08 tR09 lR0 KC
 have tR00:=R0.cell (j:=0) rfl
 have tR01:=R0.cell (j:=1) rfl
 have tR02:=R0.cell (j:=2) rfl
 have tR03:=R0.cell (j:=3) rfl
 have tR04:=R0.cell (j:=4) rfl
 have tR05:=R0.cell (j:=5) rfl
 have tR06:=R0.cell (j:=6) rfl
 have tR07:=R0.cell (j:=7) rfl
 have tR08:=R0.cell (j:=8) rfl
 have tR09:=R0.cell (j:=9) rfl
 have lR0:=R0.lt
 go_wp2_with fail
 refine (KD.out hfew _ ex).mono ?_
 rintro _ w3 ⟨_,rfl,hb,a2,c2,rfl,hi⟩
 replace R0:=R0.ext hb
 replace H1:=Lib.hid (H1.out.ext hb)
 replace ex:=ext_trans ex hb
 have H2:=Lib.hid hi
 clear hi
 clear hb tR00 tR01 tR02 tR03 tR04 tR05 tR06 tR07 tR08 tR09 lR0 KD
 have tR00:=R0.cell (j:=0) rfl
 have tR01:=R0.cell (j:=1) rfl
 have tR02:=R0.cell (j:=2) rfl
 have tR03:=R0.cell (j:=3) rfl
 have tR04:=R0.cell (j:=4) rfl
 have tR05:=R0.cell (j:=5) rfl
 have tR06:=R0.cell (j:=6) rfl
 have tR07:=R0.cell (j:=7) rfl
 have tR08:=R0.cell (j:=8) rfl
 have tR09:=R0.cell (j:=9) rfl
 have lR0:=R0.lt
 go_wp2_with fail
 refine (KP.out hfew _ ex).mono ?_
 rintro _ w4 ⟨_,rfl,hb,rfl⟩
 replace R0:=R0.ext hb
 replace H1:=Lib.hid (H1.out.ext hb)
 replace H2:=Lib.hid (H2.out.ext hb)
 replace ex:=ext_trans ex hb
 clear hb tR00 tR01 tR02 tR03 tR04 tR05 tR06 tR07 tR08 tR09 lR0 KP
 have tR00:=R0.cell (j:=0) rfl
 have tR01:=R0.cell (j:=1) rfl
 have tR02:=R0.cell (j:=2) rfl
 have tR03:=R0.cell (j:=3) rfl
 have tR04:=R0.cell (j:=4) rfl
 have tR05:=R0.cell (j:=5) rfl
 have tR06:=R0.cell (j:=6) rfl
 have tR07:=R0.cell (j:=7) rfl
 have tR08:=R0.cell (j:=8) rfl
 have tR09:=R0.cell (j:=9) rfl
 have lR0:=R0.lt
 go_wp2_with fail
 refine (KR.out hfew _ ex).mono ?_
 rintro _ w5 ⟨_,rfl,hb,rfl⟩
 replace R0:=R0.ext hb
 replace H1:=Lib.hid (H1.out.ext hb)
 replace H2:=Lib.hid (H2.out.ext hb)
 replace ex:=ext_trans ex hb
 clear hb tR00 tR01 tR02 tR03 tR04 tR05 tR06 tR07 tR08 tR09 lR0 KR
 go_wp2_with fail
 refine ((rsameW_quiet H1.out H2.out).mono fun _ _ h=>h.take).mono ?_
 rintro _ w6 ⟨_,rfl,hq,rfl⟩
 have hb:=hq.ext
 clear hq
 replace R0:=R0.ext hb
 replace H1:=Lib.hid (H1.out.ext hb)
 replace H2:=Lib.hid (H2.out.ext hb)
 replace ex:=ext_trans ex hb
 clear hb
 go_wp2_with fail
 refine (awake_calls _).mono ?_
 rintro _ w99 ⟨_,rfl,hb,rfl⟩
 replace ex:=ext_trans ex hb
 clear hb R0
 go_wp2
 go_ret
 exact .mk ex rfl
theorem walkIndistinctVerifies {S:Nat→Prop} {w:World} {v:Value} {s:SysF} {S2:Nat→Prop} {vw:Value} {l:List (List Int)} (h:SysV S w v s) (hw:Sl (kFlat 2) S2 w vw l):
  Calls Tryz.prog 6 #[v,vw] w (Post w fun _ r=>r=.bool true):=by
 have KFS:Hid (∀W,Below w.heap.size w W→Calls Tryz.prog 10 #[v] W (Post W fun _ r=>Tells (FewS s) r)):=Lib.hid fun W hW=>fewS_calls (h.ext hW)
 have KP:Hid (FewS s→∀W,Below w.heap.size w W→Calls Tryz.prog 24 #[v,vw] W (Post W fun _ r=>r=.int .i64 (verW s l))):=Lib.hid fun hf W hW=>pVerifyW_calls (h.ext hW) hf.p.few (hw.ext hW)
 have KR:Hid (FewS s→∀W,Below w.heap.size w W→Calls Tryz.prog 25 #[v,vw] W (Post W fun _ r=>r=.int .i64 (verW s l))):=Lib.hid fun hf W hW=>rverifyW_calls (h.ext hW) hf.p.few.small (hw.ext hW)
 obtain ⟨a1,ha1⟩:∃a1,a1=verW s l:=⟨_,rfl⟩
 rw[←ha1]at KP KR
 clear ha1
 have ga1:(a1==a1)=true:=by simp
 obtain ⟨aw,cw,rfl,_⟩:=hw.form
 obtain ⟨n,hn⟩:∃n,n=l.length:=⟨_,rfl⟩
 rw[←hn]at KP KR ⊢
 clear hw hn
 obtain ⟨vc,vs,vt,vx,rfl,hc,hs,ht,hx⟩:=h
 obtain ⟨ca,cc,rfl,_⟩:=hc.form
 obtain ⟨sa,sc,rfl,_⟩:=hs.form
 obtain ⟨ta,tc,rfl,_⟩:=ht.form
 obtain ⟨xa,xc,rfl,xad,_⟩:=hx.form2
 have ex:=ext_alloc w (.cells #[.int .i64 s.p.n,.int .i64 s.p.ins,.int .i64 s.p.outs,.slice ca s.p.cs.length cc,.int .i64 s.p.an,.slice sa s.p.st.length sc,.int .i64 s.p.rounds,.int .i64 s.tn,.slice ta s.tab.length tc,.slice xa s.ex.length xc] 35)
 have R0:=row_new w [.int .i64 s.p.n,.int .i64 s.p.ins,.int .i64 s.p.outs,.slice ca s.p.cs.length cc,.int .i64 s.p.an,.slice sa s.p.st.length sc,.int .i64 s.p.rounds,.int .i64 s.tn,.slice ta s.tab.length tc,.slice xa s.ex.length xc] 35
 clear hc hs ht hx
 go_enter Tryz.func6,Tryz.ntmps6
 have tR00:=R0.cell (j:=0) rfl
 have tR01:=R0.cell (j:=1) rfl
 have tR02:=R0.cell (j:=2) rfl
 have tR03:=R0.cell (j:=3) rfl
 have tR04:=R0.cell (j:=4) rfl
 have tR05:=R0.cell (j:=5) rfl
 have tR06:=R0.cell (j:=6) rfl
 have tR07:=R0.cell (j:=7) rfl
 have tR08:=R0.cell (j:=8) rfl
 have tR09:=R0.cell (j:=9) rfl
 have lR0:=R0.lt
 go_wp2_with fail
 refine (KFS.out _ ex).mono ?_
 rintro _ w1 ⟨_,rfl,hb,b0,rfl,hb0⟩
 replace R0:=R0.ext hb
 replace ex:=ext_trans ex hb
 clear hb tR00 tR01 tR02 tR03 tR04 tR05 tR06 tR07 tR08 tR09 lR0 KFS
 cases b0 with
 | false=>
  go_wp2_with fail
  refine (awake_calls _).mono ?_
  rintro _ w99 ⟨_,rfl,hb,rfl⟩
  replace ex:=ext_trans ex hb
  clear hb R0
  go_wp2
  go_ret
  exact .mk ex rfl
 | true=>
 have hfew:=hb0 rfl
 clear hb0
 by_cases h1:60<n
 ·by_cases h2:n≤4096
  ·go_wp2_with fail
   refine (awake_calls _).mono ?_
   rintro _ w99 ⟨_,rfl,hb,rfl⟩
   replace ex:=ext_trans ex hb
   clear hb R0
   go_wp2
   go_ret
   exact .mk ex rfl
  by_cases h3:4098<n
  ·go_wp2_with fail
   refine (awake_calls _).mono ?_
   rintro _ w99 ⟨_,rfl,hb,rfl⟩
   replace ex:=ext_trans ex hb
   clear hb R0
   go_wp2
   go_ret
   exact .mk ex rfl
  have KEEP:Hid (∀w',Below w1.heap.size w1 w'→(fun w':World=>w'.cell? ⟨w.heap.size,0,none⟩=some (.int .i64 s.p.n)∧w'.cell? ⟨w.heap.size,1,none⟩=some (.int .i64 s.p.ins)∧w'.cell? ⟨w.heap.size,2,none⟩=some (.int .i64 s.p.outs)∧w'.cell? ⟨w.heap.size,3,none⟩=some (.slice ca s.p.cs.length cc)∧w'.cell? ⟨w.heap.size,4,none⟩=some (.int .i64 s.p.an)∧w'.cell? ⟨w.heap.size,5,none⟩=some (.slice sa s.p.st.length sc)∧w'.cell? ⟨w.heap.size,6,none⟩=some (.int .i64 s.p.rounds)∧w'.cell? ⟨w.heap.size,7,none⟩=some (.int .i64 s.tn)∧w'.cell? ⟨w.heap.size,8,none⟩=some (.slice ta s.tab.length tc)∧w'.cell? ⟨w.heap.size,9,none⟩=some (.slice xa s.ex.length xc)) w'):=Lib.hid fun w' hw=>⟨(R0.ext hw).cell (j:=0) rfl,(R0.ext hw).cell (j:=1) rfl,(R0.ext hw).cell (j:=2) rfl,(R0.ext hw).cell (j:=3) rfl,(R0.ext hw).cell (j:=4) rfl,(R0.ext hw).cell (j:=5) rfl,(R0.ext hw).cell (j:=6) rfl,(R0.ext hw).cell (j:=7) rfl,(R0.ext hw).cell (j:=8) rfl,(R0.ext hw).cell (j:=9) rfl⟩
  have HEX:=Lib.hid ex
  clear R0 ex
  go_upto_region 3 with fail
  have y1:Below w1.heap.size w1 w1.drew:=drewN_below w1.heap.size w1 1
  refine region_E (fun w':World=>w'.cell? ⟨w.heap.size,0,none⟩=some (.int .i64 s.p.n)∧w'.cell? ⟨w.heap.size,1,none⟩=some (.int .i64 s.p.ins)∧w'.cell? ⟨w.heap.size,2,none⟩=some (.int .i64 s.p.outs)∧w'.cell? ⟨w.heap.size,3,none⟩=some (.slice ca s.p.cs.length cc)∧w'.cell? ⟨w.heap.size,4,none⟩=some (.int .i64 s.p.an)∧w'.cell? ⟨w.heap.size,5,none⟩=some (.slice sa s.p.st.length sc)∧w'.cell? ⟨w.heap.size,6,none⟩=some (.int .i64 s.p.rounds)∧w'.cell? ⟨w.heap.size,7,none⟩=some (.int .i64 s.tn)∧w'.cell? ⟨w.heap.size,8,none⟩=some (.slice ta s.tab.length tc)∧w'.cell? ⟨w.heap.size,9,none⟩=some (.slice xa s.ex.length xc)) (fun i=>false) (by kernel_rfl) ?_ (fun hHeld=>?_)
  ·exact KEEP.out _ y1
  refine anyE_take 0 (v:=?_) rfl (by kernel_rfl) (fun _ _ _ h=>h) (by rfl) ?hy0a hHeld ?rest0a
  case hy0a=>(intro w hSw;(try dsimp only at hSw);go_simp;try with_reducible rfl)
  try simp only[Act.put,zsa,zsz,zss]
  refine anyE_take 1 (v:=?_) rfl (by kernel_rfl) (fun _ _ _ h=>h) (by rfl) ?hy1a hHeld ?rest1a
  case hy1a=>(intro w hSw;(try dsimp only at hSw);go_simp;try with_reducible rfl)
  try simp only[Act.put,zsa,zsz,zss]
  refine anyE_take 3 (v:=?_) rfl (by kernel_rfl) (fun _ _ _ h=>h) (by rfl) ?hy3a hHeld ?rest3a
  case hy3a=>(intro w hSw;(try dsimp only at hSw);go_simp;try with_reducible rfl)
  try simp only[Act.put,zsa,zsz,zss]
  refine anyE_take 4 (v:=?_) rfl (by kernel_rfl) (fun _ _ _ h=>h) (by rfl) ?hy4a hHeld ?rest4a
  case hy4a=>(intro w hSw;(try dsimp only at hSw);go_simp;try with_reducible rfl)
  try simp only[Act.put,zsa,zsz,zss]
  refine anyE_one 2 rfl (by kernel_rfl) (fun K hK=>?_)
  (go_simp;go_at_call 24;refine (KP.out hfew _ (ext_trans HEX.out y1)).mono ?_;rintro _ v2 ⟨_,rfl,hb,rfl⟩;have y2:=ext_trans y1 hb;clear hb)
  refine hK.out _ _ (fun _=>KEEP.out _ y2) (fun hHeld=>?_);replace hHeld:=hHeld rfl
  clear hK K
  try simp only[Act.put,zsa,zsz,zss]
  refine anyE_one 5 rfl (by kernel_rfl) (fun K hK=>?_)
  (go_simp;go_at_call 25;refine (KR.out hfew _ (ext_trans HEX.out y2)).mono ?_;rintro _ v3 ⟨_,rfl,hb,rfl⟩;have y3:=ext_trans y2 hb;clear hb)
  refine hK.out _ _ (fun _=>KEEP.out _ y3) (fun hHeld=>?_);replace hHeld:=hHeld rfl
  clear hK K
  try simp only[Act.put,zsa,zsz,zss]
  refine anyE_take 6 (v:=?_) rfl (by kernel_rfl) (fun _ _ _ h=>h) (by rfl) ?hy6a hHeld ?rest6a
  case hy6a=>(intro w hSw;(try dsimp only at hSw);go_simp;try with_reducible rfl)
  try simp only[Act.put,zsa,zsz,zss]
  refine anyE_take 7 (v:=?_) rfl (by kernel_rfl) (fun _ _ _ h=>h) (by rfl) ?hy7a hHeld ?rest7a
  case hy7a=>(intro w hSw;(try dsimp only at hSw);go_simp;try with_reducible rfl)
  try simp only[Act.put,zsa,zsz,zss]
  refine anyE_one 8 rfl (by kernel_rfl) (fun K hK=>?_)
  (go_simp;go_at_call 11;refine (awake_calls _).mono ?_;rintro _ v4 ⟨_,rfl,hb,rfl⟩;have y4:=ext_trans y3 hb;clear hb)
  refine hK.out _ _ (fun _=>KEEP.out _ y4) (fun hHeld=>?_);replace hHeld:=hHeld rfl
  clear hK K
  try simp only[Act.put,zsa,zsz,zss]
  refine anyE_take 9 (v:=?_) rfl (by kernel_rfl) (fun _ _ _ h=>h) (by rfl) ?hy9a hHeld ?rest9a
  case hy9a=>(intro w hSw;(try dsimp only at hSw);go_simp;try with_reducible rfl)
  try simp only[Act.put,zsa,zsz,zss]
  refine anyE_take 10 (v:=?_) rfl (by kernel_rfl) (fun _ _ _ h=>h) (by rfl) ?hy10a hHeld ?rest10a
  case hy10a=>(intro w hSw;(try dsimp only at hSw);go_simp;try with_reducible rfl)
  try simp only[Act.put,zsa,zsz,zss]
  refine anyE_done (by kernel_rfl) ?_ _
  have HE:=Lib.hid (ext_trans HEX.out y4)
  clear hHeld KEEP y1 y2 y3 y4
  go_wp2
  go_ret
  exact .mk HE.out rfl
 ·by_cases h3:4098<n
  ·omega
  have KEEP:Hid (∀w',Below w1.heap.size w1 w'→(fun w':World=>w'.cell? ⟨w.heap.size,0,none⟩=some (.int .i64 s.p.n)∧w'.cell? ⟨w.heap.size,1,none⟩=some (.int .i64 s.p.ins)∧w'.cell? ⟨w.heap.size,2,none⟩=some (.int .i64 s.p.outs)∧w'.cell? ⟨w.heap.size,3,none⟩=some (.slice ca s.p.cs.length cc)∧w'.cell? ⟨w.heap.size,4,none⟩=some (.int .i64 s.p.an)∧w'.cell? ⟨w.heap.size,5,none⟩=some (.slice sa s.p.st.length sc)∧w'.cell? ⟨w.heap.size,6,none⟩=some (.int .i64 s.p.rounds)∧w'.cell? ⟨w.heap.size,7,none⟩=some (.int .i64 s.tn)∧w'.cell? ⟨w.heap.size,8,none⟩=some (.slice ta s.tab.length tc)∧w'.cell? ⟨w.heap.size,9,none⟩=some (.slice xa s.ex.length xc)) w'):=Lib.hid fun w' hw=>⟨(R0.ext hw).cell (j:=0) rfl,(R0.ext hw).cell (j:=1) rfl,(R0.ext hw).cell (j:=2) rfl,(R0.ext hw).cell (j:=3) rfl,(R0.ext hw).cell (j:=4) rfl,(R0.ext hw).cell (j:=5) rfl,(R0.ext hw).cell (j:=6) rfl,(R0.ext hw).cell (j:=7) rfl,(R0.ext hw).cell (j:=8) rfl,(R0.ext hw).cell (j:=9) rfl⟩
  have HEX:=Lib.hid ex
  clear R0 ex
  go_upto_region 3 with fail
  have y1:Below w1.heap.size w1 w1.drew:=drewN_below w1.heap.size w1 1
  refine region_E (fun w':World=>w'.cell? ⟨w.heap.size,0,none⟩=some (.int .i64 s.p.n)∧w'.cell? ⟨w.heap.size,1,none⟩=some (.int .i64 s.p.ins)∧w'.cell? ⟨w.heap.size,2,none⟩=some (.int .i64 s.p.outs)∧w'.cell? ⟨w.heap.size,3,none⟩=some (.slice ca s.p.cs.length cc)∧w'.cell? ⟨w.heap.size,4,none⟩=some (.int .i64 s.p.an)∧w'.cell? ⟨w.heap.size,5,none⟩=some (.slice sa s.p.st.length sc)∧w'.cell? ⟨w.heap.size,6,none⟩=some (.int .i64 s.p.rounds)∧w'.cell? ⟨w.heap.size,7,none⟩=some (.int .i64 s.tn)∧w'.cell? ⟨w.heap.size,8,none⟩=some (.slice ta s.tab.length tc)∧w'.cell? ⟨w.heap.size,9,none⟩=some (.slice xa s.ex.length xc)) (fun i=>false) (by kernel_rfl) ?_ (fun hHeld=>?_)
  ·exact KEEP.out _ y1
  refine anyE_take 0 (v:=?_) rfl (by kernel_rfl) (fun _ _ _ h=>h) (by rfl) ?hy0b hHeld ?rest0b
  case hy0b=>(intro w hSw;(try dsimp only at hSw);go_simp;try with_reducible rfl)
  try simp only[Act.put,zsa,zsz,zss]
  refine anyE_take 1 (v:=?_) rfl (by kernel_rfl) (fun _ _ _ h=>h) (by rfl) ?hy1b hHeld ?rest1b
  case hy1b=>(intro w hSw;(try dsimp only at hSw);go_simp;try with_reducible rfl)
  try simp only[Act.put,zsa,zsz,zss]
  refine anyE_take 3 (v:=?_) rfl (by kernel_rfl) (fun _ _ _ h=>h) (by rfl) ?hy3b hHeld ?rest3b
  case hy3b=>(intro w hSw;(try dsimp only at hSw);go_simp;try with_reducible rfl)
  try simp only[Act.put,zsa,zsz,zss]
  refine anyE_take 4 (v:=?_) rfl (by kernel_rfl) (fun _ _ _ h=>h) (by rfl) ?hy4b hHeld ?rest4b
  case hy4b=>(intro w hSw;(try dsimp only at hSw);go_simp;try with_reducible rfl)
  try simp only[Act.put,zsa,zsz,zss]
  refine anyE_one 2 rfl (by kernel_rfl) (fun K hK=>?_)
  (go_simp;go_at_call 24;refine (KP.out hfew _ (ext_trans HEX.out y1)).mono ?_;rintro _ v2 ⟨_,rfl,hb,rfl⟩;have y2:=ext_trans y1 hb;clear hb)
  refine hK.out _ _ (fun _=>KEEP.out _ y2) (fun hHeld=>?_);replace hHeld:=hHeld rfl
  clear hK K
  try simp only[Act.put,zsa,zsz,zss]
  refine anyE_one 5 rfl (by kernel_rfl) (fun K hK=>?_)
  (go_simp;go_at_call 25;refine (KR.out hfew _ (ext_trans HEX.out y2)).mono ?_;rintro _ v3 ⟨_,rfl,hb,rfl⟩;have y3:=ext_trans y2 hb;clear hb)
  refine hK.out _ _ (fun _=>KEEP.out _ y3) (fun hHeld=>?_);replace hHeld:=hHeld rfl
  clear hK K
  try simp only[Act.put,zsa,zsz,zss]
  refine anyE_take 6 (v:=?_) rfl (by kernel_rfl) (fun _ _ _ h=>h) (by rfl) ?hy6b hHeld ?rest6b
  case hy6b=>(intro w hSw;(try dsimp only at hSw);go_simp;try with_reducible rfl)
  try simp only[Act.put,zsa,zsz,zss]
  refine anyE_take 7 (v:=?_) rfl (by kernel_rfl) (fun _ _ _ h=>h) (by rfl) ?hy7b hHeld ?rest7b
  case hy7b=>(intro w hSw;(try dsimp only at hSw);go_simp;try with_reducible rfl)
  try simp only[Act.put,zsa,zsz,zss]
  refine anyE_one 8 rfl (by kernel_rfl) (fun K hK=>?_)
  (go_simp;go_at_call 11;refine (awake_calls _).mono ?_;rintro _ v4 ⟨_,rfl,hb,rfl⟩;have y4:=ext_trans y3 hb;clear hb)
  refine hK.out _ _ (fun _=>KEEP.out _ y4) (fun hHeld=>?_);replace hHeld:=hHeld rfl
  clear hK K
  try simp only[Act.put,zsa,zsz,zss]
  refine anyE_take 9 (v:=?_) rfl (by kernel_rfl) (fun _ _ _ h=>h) (by rfl) ?hy9b hHeld ?rest9b
  case hy9b=>(intro w hSw;(try dsimp only at hSw);go_simp;try with_reducible rfl)
  try simp only[Act.put,zsa,zsz,zss]
  refine anyE_take 10 (v:=?_) rfl (by kernel_rfl) (fun _ _ _ h=>h) (by rfl) ?hy10b hHeld ?rest10b
  case hy10b=>(intro w hSw;(try dsimp only at hSw);go_simp;try with_reducible rfl)
  try simp only[Act.put,zsa,zsz,zss]
  refine anyE_done (by kernel_rfl) ?_ _
  have HE:=Lib.hid (ext_trans HEX.out y4)
  clear hHeld KEEP y1 y2 y3 y4
  go_wp2
  go_ret
  exact .mk HE.out rfl
end Go.Proofs.YtaijafjfafbcfaaGreat
