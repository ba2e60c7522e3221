/- Part of the proof that the laws of chapter 45 answer true for every input. -/
import Derived.Test.YtcopehiceihdaaaGreatPCe36
set_option linter.unusedSimpArgs false
set_option linter.unnecessarySimpa false
set_option linter.unusedVariables false
set_option maxRecDepth 100000
set_option maxHeartbeats 40000000
namespace Go.Proofs.YtcopehiceihdaaaGreat
open Go.RowKit
attribute [local go_sem ↓] Go.wp_at_zero Go.wp_at_succ
theorem walkRuleOrders {S S1 S2 S3:Nat→Prop} {w:World} {v v1 v2 v3:Value} {s:SysF} {x1 x2 x3:List Int} (h:SysV S w v s) (h1:Ints S1 w v1 x1) (h2:Ints S2 w v2 x2) (h3:Ints S3 w v3 x3):
    Calls Tryz.prog 10 #[v,.agg #[v1,v2,v3]] w (Post w fun _ r=>r=.bool true):=by
  have KFS:Hid (∀W,Below w.heap.size w W→Calls Tryz.prog 11 #[v] W (Post W fun _ r=>Tells (FewS s) r)):=Lib.hid fun W hW=>fewS_calls (h.ext hW)
  have KW1:Hid (∀W,Below w.heap.size w W→Calls Tryz.prog 12 #[.agg #[v1]] W (Post W fun _ r=>r=.bool (decide (x1.length≤1000)))):=Lib.hid fun W hW=>rfew_calls (h1.ext hW)
  have KC1:Hid (FewS s→∀W,Below w.heap.size w W→Calls Tryz.prog 16 #[v,.agg #[v1]] W (Post W fun _ r=>r=.int .i64 (ruleE s x1))):=Lib.hid fun hf W hW=>pcheck_calls (h.ext hW) hf.p.few (h1.ext hW)
  have KW2:Hid (∀W,Below w.heap.size w W→Calls Tryz.prog 12 #[.agg #[v2]] W (Post W fun _ r=>r=.bool (decide (x2.length≤1000)))):=Lib.hid fun W hW=>rfew_calls (h2.ext hW)
  have KC2:Hid (FewS s→∀W,Below w.heap.size w W→Calls Tryz.prog 16 #[v,.agg #[v2]] W (Post W fun _ r=>r=.int .i64 (ruleE s x2))):=Lib.hid fun hf W hW=>pcheck_calls (h.ext hW) hf.p.few (h2.ext hW)
  have KW3:Hid (∀W,Below w.heap.size w W→Calls Tryz.prog 12 #[.agg #[v3]] W (Post W fun _ r=>r=.bool (decide (x3.length≤1000)))):=Lib.hid fun W hW=>rfew_calls (h3.ext hW)
  have KC3:Hid (FewS s→∀W,Below w.heap.size w W→Calls Tryz.prog 16 #[v,.agg #[v3]] W (Post W fun _ r=>r=.int .i64 (ruleE s x3))):=Lib.hid fun hf W hW=>pcheck_calls (h.ext hW) hf.p.few (h3.ext hW)
  have KE11:Hid (FewS s→ruleE s x1=0→ruleE s x1=0→∀W,Below w.heap.size w W→Calls Tryz.prog 33 #[v,.agg #[v1],.agg #[v1]] W (Post W fun _ r=>r=.tuple #[.bool (soonB s x1 x1),.int .i64 0])):=Lib.hid fun hf e1 e2 W hW=>by
    have:=pEarl_calls (h.ext hW) hf.p.few (h1.ext hW) (h1.ext hW)
    rw[earlT_ok e1 e2]at this;exact this
  have KE12:Hid (FewS s→ruleE s x1=0→ruleE s x2=0→∀W,Below w.heap.size w W→Calls Tryz.prog 33 #[v,.agg #[v1],.agg #[v2]] W (Post W fun _ r=>r=.tuple #[.bool (soonB s x1 x2),.int .i64 0])):=Lib.hid fun hf e1 e2 W hW=>by
    have:=pEarl_calls (h.ext hW) hf.p.few (h1.ext hW) (h2.ext hW)
    rw[earlT_ok e1 e2]at this;exact this
  have KE23:Hid (FewS s→ruleE s x2=0→ruleE s x3=0→∀W,Below w.heap.size w W→Calls Tryz.prog 33 #[v,.agg #[v2],.agg #[v3]] W (Post W fun _ r=>r=.tuple #[.bool (soonB s x2 x3),.int .i64 0])):=Lib.hid fun hf e1 e2 W hW=>by
    have:=pEarl_calls (h.ext hW) hf.p.few (h2.ext hW) (h3.ext hW)
    rw[earlT_ok e1 e2]at this;exact this
  have KE13:Hid (FewS s→ruleE s x1=0→ruleE s x3=0→∀W,Below w.heap.size w W→Calls Tryz.prog 33 #[v,.agg #[v1],.agg #[v3]] W (Post W fun _ r=>r=.tuple #[.bool (soonB s x1 x3),.int .i64 0])):=Lib.hid fun hf e1 e2 W hW=>by
    have:=pEarl_calls (h.ext hW) hf.p.few (h1.ext hW) (h3.ext hW)
    rw[earlT_ok e1 e2]at this;exact this
  have KM1:Hid (FewS s→∀W,Below w.heap.size w W→Calls Tryz.prog 21 #[v,.agg #[v1]] W (Post W fun _ r=>r=measV (measT s x1))):=Lib.hid fun hf W hW=>pmea_calls (h.ext hW) hf.p.few (h1.ext hW)
  have KM2:Hid (FewS s→∀W,Below w.heap.size w W→Calls Tryz.prog 21 #[v,.agg #[v2]] W (Post W fun _ r=>r=measV (measT s x2))):=Lib.hid fun hf W hW=>pmea_calls (h.ext hW) hf.p.few (h2.ext hW)
  have HO:Hid (ruleE s x1=0→ruleE s x2=0→soonB s x1 x1=true∧(soonB s x1 x2=true→soonB s x2 x3=true→soonB s x1 x3=true)∧(soonB s x1 x2=true→(measT s x2).2.2=0→(measT s x1).2.2=0)):=Lib.hid fun e1 e2=>⟨soonB_refl _ _,soonB_trans,soon_meas e1 e2⟩
  have HN1:Hid (ErrN (ruleE s x1)):=Lib.hid (ruleE_n _ _)
  obtain ⟨e1,he1⟩:∃e,e=ruleE s x1:=⟨_,rfl⟩
  obtain ⟨b1,hb1⟩:∃b,b=decide (x1.length≤1000):=⟨_,rfl⟩
  have HN2:Hid (ErrN (ruleE s x2)):=Lib.hid (ruleE_n _ _)
  obtain ⟨e2,he2⟩:∃e,e=ruleE s x2:=⟨_,rfl⟩
  obtain ⟨b2,hb2⟩:∃b,b=decide (x2.length≤1000):=⟨_,rfl⟩
  have HN3:Hid (ErrN (ruleE s x3)):=Lib.hid (ruleE_n _ _)
  obtain ⟨e3,he3⟩:∃e,e=ruleE s x3:=⟨_,rfl⟩
  obtain ⟨b3,hb3⟩:∃b,b=decide (x3.length≤1000):=⟨_,rfl⟩
  rw[←he1]at KC1 KE11 KE12 KE13 HO HN1
  rw[←he2]at KC2 KE12 KE23 HO HN2
  rw[←he3]at KC3 KE23 KE13 HN3
  rw[←hb1]at KW1
  rw[←hb2]at KW2
  rw[←hb3]at KW3
  obtain ⟨⟨m1,u1,z1⟩,hm1⟩:∃t,t=measT s x1:=⟨_,rfl⟩
  rw[←hm1]at KM1 HO
  have KM1:Hid (FewS s→∀W,Below w.heap.size w W→Calls Tryz.prog 21 #[v,.agg #[v1]] W (Post W fun _ r=>r=.tuple #[.int .i64 m1,.int .i64 u1,.int .i64 z1])):=KM1
  obtain ⟨⟨m2,u2,z2⟩,hm2⟩:∃t,t=measT s x2:=⟨_,rfl⟩
  rw[←hm2]at KM2 HO
  have KM2:Hid (FewS s→∀W,Below w.heap.size w W→Calls Tryz.prog 21 #[v,.agg #[v2]] W (Post W fun _ r=>r=.tuple #[.int .i64 m2,.int .i64 u2,.int .i64 z2])):=KM2
  obtain ⟨s11,hs11⟩:∃b,b=soonB s x1 x1:=⟨_,rfl⟩
  rw[←hs11]at KE11 HO
  obtain ⟨s12,hs12⟩:∃b,b=soonB s x1 x2:=⟨_,rfl⟩
  rw[←hs12]at KE12 HO
  obtain ⟨s23,hs23⟩:∃b,b=soonB s x2 x3:=⟨_,rfl⟩
  rw[←hs23]at KE23 HO
  obtain ⟨s13,hs13⟩:∃b,b=soonB s x1 x3:=⟨_,rfl⟩
  rw[←hs13]at KE13 HO
  have HO:Hid (e1=0→e2=0→s11=true∧(s12=true→s23=true→s13=true)∧(s12=true→z2=0→z1=0)):=HO
  clear he1 he2 he3 hb1 hb2 hb3 hm1 hm2 hs11 hs12 hs23 hs13
  obtain ⟨vc,vs,vt,vx,rfl,hc,hs,ht,hx⟩:=h
  obtain ⟨ca,cc,rfl,_⟩:=hc.form
  obtain ⟨sa,sc,rfl,_⟩:=hs.form
  obtain ⟨ta,tc,rfl,_⟩:=ht.form
  obtain ⟨xa,xc,rfl,_⟩:=hx.form
  obtain ⟨a1,c1,rfl,_⟩:=h1.form
  obtain ⟨a2,c2,rfl,_⟩:=h2.form
  obtain ⟨a3,c3,rfl,_⟩:=h3.form
  have ex:=ext_alloc' (ext_alloc w (.cells #[.int .i64 s.p.n,.int .i64 s.p.ins,.int .i64 s.p.outs,.slice ca s.p.cs.length cc,.int .i64 s.p.an,.slice sa s.p.st.length sc,.int .i64 s.p.rounds,.int .i64 s.tn,.slice ta s.tab.length tc,.slice xa s.ex.length xc] 35)) (.cells #[.slice a1 x1.length c1,.slice a2 x2.length c2,.slice a3 x3.length c3] 89)
  have R0:=(row_new w [.int .i64 s.p.n,.int .i64 s.p.ins,.int .i64 s.p.outs,.slice ca s.p.cs.length cc,.int .i64 s.p.an,.slice sa s.p.st.length sc,.int .i64 s.p.rounds,.int .i64 s.tn,.slice ta s.tab.length tc,.slice xa s.ex.length xc] 35).alloc (.cells #[.slice a1 x1.length c1,.slice a2 x2.length c2,.slice a3 x3.length c3] 89)
  have R1:=row_new (w.alloc (.cells #[.int .i64 s.p.n,.int .i64 s.p.ins,.int .i64 s.p.outs,.slice ca s.p.cs.length cc,.int .i64 s.p.an,.slice sa s.p.st.length sc,.int .i64 s.p.rounds,.int .i64 s.tn,.slice ta s.tab.length tc,.slice xa s.ex.length xc] 35)) [.slice a1 x1.length c1,.slice a2 x2.length c2,.slice a3 x3.length c3] 89
  simp only[World.size_alloc]at R1
  clear hc hs ht hx h1 h2 h3
  go_enter Tryz.func10,Tryz.ntmps10
  go_wp2
  obtain ⟨w9,hw9⟩:∃w9,w9=((w.alloc (.cells #[.int .i64 s.p.n,.int .i64 s.p.ins,.int .i64 s.p.outs,.slice ca s.p.cs.length cc,.int .i64 s.p.an,.slice sa s.p.st.length sc,.int .i64 s.p.rounds,.int .i64 s.tn,.slice ta s.tab.length tc,.slice xa s.ex.length xc] 35)).alloc (.cells #[.slice a1 x1.length c1,.slice a2 x2.length c2,.slice a3 x3.length c3] 89)):=⟨_,rfl⟩
  rw[←hw9]at R0 R1 ex ⊢
  clear hw9
  have KEEP:Hid (∀w',Below w9.heap.size w9 w'→(fun w':World=>w'.cell? ⟨w.heap.size,0,none⟩=some (.int .i64 s.p.n)∧w'.cell? ⟨w.heap.size,1,none⟩=some (.int .i64 s.p.ins)∧w'.cell? ⟨w.heap.size,2,none⟩=some (.int .i64 s.p.outs)∧w'.cell? ⟨w.heap.size,3,none⟩=some (.slice ca s.p.cs.length cc)∧w'.cell? ⟨w.heap.size,4,none⟩=some (.int .i64 s.p.an)∧w'.cell? ⟨w.heap.size,5,none⟩=some (.slice sa s.p.st.length sc)∧w'.cell? ⟨w.heap.size,6,none⟩=some (.int .i64 s.p.rounds)∧w'.cell? ⟨w.heap.size,7,none⟩=some (.int .i64 s.tn)∧w'.cell? ⟨w.heap.size,8,none⟩=some (.slice ta s.tab.length tc)∧w'.cell? ⟨w.heap.size,9,none⟩=some (.slice xa s.ex.length xc)∧w'.cell? ⟨w.heap.size+1,0,none⟩=some (.slice a1 x1.length c1)∧w'.cell? ⟨w.heap.size+1,1,none⟩=some (.slice a2 x2.length c2)∧w'.cell? ⟨w.heap.size+1,2,none⟩=some (.slice a3 x3.length c3)) w'):=Lib.hid fun w' hw=>⟨(R0.ext hw).cell (j:=0) rfl,(R0.ext hw).cell (j:=1) rfl,(R0.ext hw).cell (j:=2) rfl,(R0.ext hw).cell (j:=3) rfl,(R0.ext hw).cell (j:=4) rfl,(R0.ext hw).cell (j:=5) rfl,(R0.ext hw).cell (j:=6) rfl,(R0.ext hw).cell (j:=7) rfl,(R0.ext hw).cell (j:=8) rfl,(R0.ext hw).cell (j:=9) rfl,(R1.ext hw).cell (j:=0) rfl,(R1.ext hw).cell (j:=1) rfl,(R1.ext hw).cell (j:=2) rfl⟩
  have HX:=Lib.hid ex
  have HR0:=Lib.hid R0
  have HR1:=Lib.hid R1
  clear R0 R1 ex
  refine region_E (fun w':World=>w'.cell? ⟨w.heap.size,0,none⟩=some (.int .i64 s.p.n)∧w'.cell? ⟨w.heap.size,1,none⟩=some (.int .i64 s.p.ins)∧w'.cell? ⟨w.heap.size,2,none⟩=some (.int .i64 s.p.outs)∧w'.cell? ⟨w.heap.size,3,none⟩=some (.slice ca s.p.cs.length cc)∧w'.cell? ⟨w.heap.size,4,none⟩=some (.int .i64 s.p.an)∧w'.cell? ⟨w.heap.size,5,none⟩=some (.slice sa s.p.st.length sc)∧w'.cell? ⟨w.heap.size,6,none⟩=some (.int .i64 s.p.rounds)∧w'.cell? ⟨w.heap.size,7,none⟩=some (.int .i64 s.tn)∧w'.cell? ⟨w.heap.size,8,none⟩=some (.slice ta s.tab.length tc)∧w'.cell? ⟨w.heap.size,9,none⟩=some (.slice xa s.ex.length xc)∧w'.cell? ⟨w.heap.size+1,0,none⟩=some (.slice a1 x1.length c1)∧w'.cell? ⟨w.heap.size+1,1,none⟩=some (.slice a2 x2.length c2)∧w'.cell? ⟨w.heap.size+1,2,none⟩=some (.slice a3 x3.length c3)) (fun i=>false) (by kernel_rfl) ?_ (fun hHeld=>?_)
  · exact KEEP.out _ (drewN_below w9.heap.size w9 1)
  refine anyE_take 0 (v:=?_) rfl (by kernel_rfl) (fun _ _ _ h=>h) (by rfl) ?hy0q1 hHeld ?rest0q1
  case hy0q1=>(intro w hSw;(try dsimp only at hSw);go_simp;try with_reducible rfl)
  try simp only[Act.put,zsa,zsz,zss]
  refine anyE_one 1 rfl (by kernel_rfl) (fun K hK=>?_)
  (go_simp;go_at_call 11;refine (KFS.out _ (ext_trans HX.out (drewN_below w9.heap.size w9 1))).mono ?_;rintro _ vy1 ⟨_,rfl,hb,b0,rfl,hb0⟩;have y1:=ext_trans (drewN_below w9.heap.size w9 1) hb;clear hb)
  refine hK.out _ _ (fun _=>KEEP.out _ y1) (fun hHeld=>?_);replace hHeld:=hHeld rfl
  clear hK K
  try simp only[Act.put,zsa,zsz,zss]
  cases b0 with
  | false=>
    refine anyE_take 2 (v:=?_) rfl (by kernel_rfl) (fun _ _ _ h=>h) (by rfl) ?hy2q2 hHeld ?rest2q2
    case hy2q2=>(intro w hSw;(try dsimp only at hSw);go_simp;try with_reducible rfl)
    try simp only[Act.put,zsa,zsz,zss]
    refine anyE_take 3 (v:=?_) rfl (by kernel_rfl) (fun _ _ _ h=>h) (by rfl) ?hy3q3 hHeld ?rest3q3
    case hy3q3=>(intro w hSw;(try dsimp only at hSw);go_simp;try with_reducible rfl)
    try simp only[Act.put,zsa,zsz,zss]
    refine anyE_skip 4 rfl (by kernel_rfl) (fun _ _ _ h=>h) (by rfl) hHeld ?_
    try simp only[Act.put,zsa,zsz,zss]
    refine anyE_skip 5 rfl (by kernel_rfl) (fun _ _ _ h=>h) (by rfl) hHeld ?_
    try simp only[Act.put,zsa,zsz,zss]
    refine anyE_skip 6 rfl (by kernel_rfl) (fun _ _ _ h=>h) (by rfl) hHeld ?_
    try simp only[Act.put,zsa,zsz,zss]
    refine anyE_skip 7 rfl (by kernel_rfl) (fun _ _ _ h=>h) (by rfl) hHeld ?_
    try simp only[Act.put,zsa,zsz,zss]
    refine anyE_take 8 (v:=?_) rfl (by kernel_rfl) (fun _ _ _ h=>h) (by rfl) ?hy8q4 hHeld ?rest8q4
    case hy8q4=>(intro w hSw;(try dsimp only at hSw);go_simp;try with_reducible rfl)
    try simp only[Act.put,zsa,zsz,zss]
    refine anyE_take 9 (v:=?_) rfl (by kernel_rfl) (fun _ _ _ h=>h) (by rfl) ?hy9q5 hHeld ?rest9q5
    case hy9q5=>(intro w hSw;(try dsimp only at hSw);go_simp;try with_reducible rfl)
    try simp only[Act.put,zsa,zsz,zss]
    refine anyE_skip 10 rfl (by kernel_rfl) (fun _ _ _ h=>h) (by rfl) hHeld ?_
    try simp only[Act.put,zsa,zsz,zss]
    refine anyE_skip 11 rfl (by kernel_rfl) (fun _ _ _ h=>h) (by rfl) hHeld ?_
    try simp only[Act.put,zsa,zsz,zss]
    refine anyE_skip 12 rfl (by kernel_rfl) (fun _ _ _ h=>h) (by rfl) hHeld ?_
    try simp only[Act.put,zsa,zsz,zss]
    refine anyE_skip 13 rfl (by kernel_rfl) (fun _ _ _ h=>h) (by rfl) hHeld ?_
    try simp only[Act.put,zsa,zsz,zss]
    refine anyE_take 14 (v:=?_) rfl (by kernel_rfl) (fun _ _ _ h=>h) (by rfl) ?hy14q6 hHeld ?rest14q6
    case hy14q6=>(intro w hSw;(try dsimp only at hSw);go_simp;try with_reducible rfl)
    try simp only[Act.put,zsa,zsz,zss]
    refine anyE_take 15 (v:=?_) rfl (by kernel_rfl) (fun _ _ _ h=>h) (by rfl) ?hy15q7 hHeld ?rest15q7
    case hy15q7=>(intro w hSw;(try dsimp only at hSw);go_simp;try with_reducible rfl)
    try simp only[Act.put,zsa,zsz,zss]
    refine anyE_skip 16 rfl (by kernel_rfl) (fun _ _ _ h=>h) (by rfl) hHeld ?_
    try simp only[Act.put,zsa,zsz,zss]
    refine anyE_skip 17 rfl (by kernel_rfl) (fun _ _ _ h=>h) (by rfl) hHeld ?_
    try simp only[Act.put,zsa,zsz,zss]
    refine anyE_skip 18 rfl (by kernel_rfl) (fun _ _ _ h=>h) (by rfl) hHeld ?_
    try simp only[Act.put,zsa,zsz,zss]
    refine anyE_skip 19 rfl (by kernel_rfl) (fun _ _ _ h=>h) (by rfl) hHeld ?_
    try simp only[Act.put,zsa,zsz,zss]
    refine anyE_take 20 (v:=?_) rfl (by kernel_rfl) (fun _ _ _ h=>h) (by rfl) ?hy20q8 hHeld ?rest20q8
    case hy20q8=>(intro w hSw;(try dsimp only at hSw);go_simp;try with_reducible rfl)
    try simp only[Act.put,zsa,zsz,zss]
    refine anyE_take 21 (v:=?_) rfl (by kernel_rfl) (fun _ _ _ h=>h) (by rfl) ?hy21q9 hHeld ?rest21q9
    case hy21q9=>(intro w hSw;(try dsimp only at hSw);go_simp;try with_reducible rfl)
    try simp only[Act.put,zsa,zsz,zss]
    refine anyE_skip 22 rfl (by kernel_rfl) (fun _ _ _ h=>h) (by rfl) hHeld ?_
    try simp only[Act.put,zsa,zsz,zss]
    refine anyE_skip 23 rfl (by kernel_rfl) (fun _ _ _ h=>h) (by rfl) hHeld ?_
    try simp only[Act.put,zsa,zsz,zss]
    refine anyE_skip 24 rfl (by kernel_rfl) (fun _ _ _ h=>h) (by rfl) hHeld ?_
    try simp only[Act.put,zsa,zsz,zss]
    refine anyE_skip 25 rfl (by kernel_rfl) (fun _ _ _ h=>h) (by rfl) hHeld ?_
    try simp only[Act.put,zsa,zsz,zss]
    refine anyE_skip 26 rfl (by kernel_rfl) (fun _ _ _ h=>h) (by rfl) hHeld ?_
    try simp only[Act.put,zsa,zsz,zss]
    refine anyE_skip 27 rfl (by kernel_rfl) (fun _ _ _ h=>h) (by rfl) hHeld ?_
    try simp only[Act.put,zsa,zsz,zss]
    refine anyE_skip 28 rfl (by kernel_rfl) (fun _ _ _ h=>h) (by rfl) hHeld ?_
    try simp only[Act.put,zsa,zsz,zss]
    refine anyE_skip 29 rfl (by kernel_rfl) (fun _ _ _ h=>h) (by rfl) hHeld ?_
    try simp only[Act.put,zsa,zsz,zss]
    refine anyE_skip 30 rfl (by kernel_rfl) (fun _ _ _ h=>h) (by rfl) hHeld ?_
    try simp only[Act.put,zsa,zsz,zss]
    refine anyE_skip 31 rfl (by kernel_rfl) (fun _ _ _ h=>h) (by rfl) hHeld ?_
    try simp only[Act.put,zsa,zsz,zss]
    refine anyE_skip 32 rfl (by kernel_rfl) (fun _ _ _ h=>h) (by rfl) hHeld ?_
    try simp only[Act.put,zsa,zsz,zss]
    refine anyE_skip 33 rfl (by kernel_rfl) (fun _ _ _ h=>h) (by rfl) hHeld ?_
    try simp only[Act.put,zsa,zsz,zss]
    refine anyE_skip 34 rfl (by kernel_rfl) (fun _ _ _ h=>h) (by rfl) hHeld ?_
    try simp only[Act.put,zsa,zsz,zss]
    refine anyE_skip 35 rfl (by kernel_rfl) (fun _ _ _ h=>h) (by rfl) hHeld ?_
    try simp only[Act.put,zsa,zsz,zss]
    refine anyE_skip 36 rfl (by kernel_rfl) (fun _ _ _ h=>h) (by rfl) hHeld ?_
    try simp only[Act.put,zsa,zsz,zss]
    refine anyE_take 37 (v:=?_) rfl (by kernel_rfl) (fun _ _ _ h=>h) (by rfl) ?hy37q10 hHeld ?rest37q10
    case hy37q10=>(intro w hSw;(try dsimp only at hSw);go_simp;try with_reducible rfl)
    try simp only[Act.put,zsa,zsz,zss]
    refine anyE_done (by kernel_rfl) ?_ _
    have HE:=Lib.hid (ext_trans HX.out y1)
    clear hHeld KEEP HX HR0 HR1
    go_wp2_with fail
    refine (awake_calls _).mono ?_
    rintro _ w99 ⟨_,rfl,hb,rfl⟩
    have HE2:=Lib.hid (ext_trans HE.out hb)
    clear hb HE
    go_wp2
    go_ret
    exact .mk HE2.out rfl
  | true=>
  have hfew:=hb0 rfl
  clear hb0
  refine anyE_take 2 (v:=?_) rfl (by kernel_rfl) (fun _ _ _ h=>h) (by rfl) ?hy2q11 hHeld ?rest2q11
  case hy2q11=>(intro w hSw;(try dsimp only at hSw);go_simp;try with_reducible rfl)
  try simp only[Act.put,zsa,zsz,zss]
  refine anyE_take 3 (v:=?_) rfl (by kernel_rfl) (fun _ _ _ h=>h) (by rfl) ?hy3q12 hHeld ?rest3q12
  case hy3q12=>(intro w hSw;(try dsimp only at hSw);go_simp;try with_reducible rfl)
  try simp only[Act.put,zsa,zsz,zss]
  refine anyE_take 4 (v:=?_) rfl (by kernel_rfl) (fun _ _ _ h=>h) (by rfl) ?hy4q13 hHeld ?rest4q13
  case hy4q13=>(intro w hSw;(try dsimp only at hSw);go_simp;try with_reducible rfl)
  try simp only[Act.put,zsa,zsz,zss]
  refine anyE_take 5 (v:=?_) rfl (by kernel_rfl) (fun _ _ _ h=>h) (by rfl) ?hy5q14 hHeld ?rest5q14
  case hy5q14=>(intro w hSw;(try dsimp only at hSw);go_simp;try with_reducible rfl)
  try simp only[Act.put,zsa,zsz,zss]
  refine anyE_one 6 rfl (by kernel_rfl) (fun K hK=>?_)
  (go_simp;go_at_call 12;refine (KW1.out _ (ext_trans HX.out y1)).mono ?_;rintro _ vy2 ⟨_,rfl,hb,rfl⟩;have y2:=ext_trans y1 hb;clear hb)
  refine hK.out _ _ (fun _=>KEEP.out _ y2) (fun hHeld=>?_);replace hHeld:=hHeld rfl
  clear hK K
  try simp only[Act.put,zsa,zsz,zss]
  cases b1 with
  | false=>
    refine anyE_take 7 (v:=?_) rfl (by kernel_rfl) (fun _ _ _ h=>h) (by rfl) ?hy7q15 hHeld ?rest7q15
    case hy7q15=>(intro w hSw;(try dsimp only at hSw);go_simp;try with_reducible rfl)
    try simp only[Act.put,zsa,zsz,zss]
    refine anyE_take 8 (v:=?_) rfl (by kernel_rfl) (fun _ _ _ h=>h) (by rfl) ?hy8q16 hHeld ?rest8q16
    case hy8q16=>(intro w hSw;(try dsimp only at hSw);go_simp;try with_reducible rfl)
    try simp only[Act.put,zsa,zsz,zss]
    refine anyE_take 9 (v:=?_) rfl (by kernel_rfl) (fun _ _ _ h=>h) (by rfl) ?hy9q17 hHeld ?rest9q17
    case hy9q17=>(intro w hSw;(try dsimp only at hSw);go_simp;try with_reducible rfl)
    try simp only[Act.put,zsa,zsz,zss]
    refine anyE_skip 10 rfl (by kernel_rfl) (fun _ _ _ h=>h) (by rfl) hHeld ?_
    try simp only[Act.put,zsa,zsz,zss]
    refine anyE_skip 11 rfl (by kernel_rfl) (fun _ _ _ h=>h) (by rfl) hHeld ?_
    try simp only[Act.put,zsa,zsz,zss]
    refine anyE_skip 12 rfl (by kernel_rfl) (fun _ _ _ h=>h) (by rfl) hHeld ?_
    try simp only[Act.put,zsa,zsz,zss]
    refine anyE_skip 13 rfl (by kernel_rfl) (fun _ _ _ h=>h) (by rfl) hHeld ?_
    try simp only[Act.put,zsa,zsz,zss]
    refine anyE_take 14 (v:=?_) rfl (by kernel_rfl) (fun _ _ _ h=>h) (by rfl) ?hy14q18 hHeld ?rest14q18
    case hy14q18=>(intro w hSw;(try dsimp only at hSw);go_simp;try with_reducible rfl)
    try simp only[Act.put,zsa,zsz,zss]
    refine anyE_take 15 (v:=?_) rfl (by kernel_rfl) (fun _ _ _ h=>h) (by rfl) ?hy15q19 hHeld ?rest15q19
    case hy15q19=>(intro w hSw;(try dsimp only at hSw);go_simp;try with_reducible rfl)
    try simp only[Act.put,zsa,zsz,zss]
    refine anyE_skip 16 rfl (by kernel_rfl) (fun _ _ _ h=>h) (by rfl) hHeld ?_
    try simp only[Act.put,zsa,zsz,zss]
    refine anyE_skip 17 rfl (by kernel_rfl) (fun _ _ _ h=>h) (by rfl) hHeld ?_
    try simp only[Act.put,zsa,zsz,zss]
    refine anyE_skip 18 rfl (by kernel_rfl) (fun _ _ _ h=>h) (by rfl) hHeld ?_
    try simp only[Act.put,zsa,zsz,zss]
    refine anyE_skip 19 rfl (by kernel_rfl) (fun _ _ _ h=>h) (by rfl) hHeld ?_
    try simp only[Act.put,zsa,zsz,zss]
    refine anyE_take 20 (v:=?_) rfl (by kernel_rfl) (fun _ _ _ h=>h) (by rfl) ?hy20q20 hHeld ?rest20q20
    case hy20q20=>(intro w hSw;(try dsimp only at hSw);go_simp;try with_reducible rfl)
    try simp only[Act.put,zsa,zsz,zss]
    refine anyE_take 21 (v:=?_) rfl (by kernel_rfl) (fun _ _ _ h=>h) (by rfl) ?hy21q21 hHeld ?rest21q21
    case hy21q21=>(intro w hSw;(try dsimp only at hSw);go_simp;try with_reducible rfl)
    try simp only[Act.put,zsa,zsz,zss]
    refine anyE_skip 22 rfl (by kernel_rfl) (fun _ _ _ h=>h) (by rfl) hHeld ?_
    try simp only[Act.put,zsa,zsz,zss]
    refine anyE_skip 23 rfl (by kernel_rfl) (fun _ _ _ h=>h) (by rfl) hHeld ?_
    try simp only[Act.put,zsa,zsz,zss]
    refine anyE_skip 24 rfl (by kernel_rfl) (fun _ _ _ h=>h) (by rfl) hHeld ?_
    try simp only[Act.put,zsa,zsz,zss]
    refine anyE_skip 25 rfl (by kernel_rfl) (fun _ _ _ h=>h) (by rfl) hHeld ?_
    try simp only[Act.put,zsa,zsz,zss]
    refine anyE_skip 26 rfl (by kernel_rfl) (fun _ _ _ h=>h) (by rfl) hHeld ?_
    try simp only[Act.put,zsa,zsz,zss]
    refine anyE_skip 27 rfl (by kernel_rfl) (fun _ _ _ h=>h) (by rfl) hHeld ?_
    try simp only[Act.put,zsa,zsz,zss]
    refine anyE_skip 28 rfl (by kernel_rfl) (fun _ _ _ h=>h) (by rfl) hHeld ?_
    try simp only[Act.put,zsa,zsz,zss]
    refine anyE_skip 29 rfl (by kernel_rfl) (fun _ _ _ h=>h) (by rfl) hHeld ?_
    try simp only[Act.put,zsa,zsz,zss]
    refine anyE_skip 30 rfl (by kernel_rfl) (fun _ _ _ h=>h) (by rfl) hHeld ?_
    try simp only[Act.put,zsa,zsz,zss]
    refine anyE_skip 31 rfl (by kernel_rfl) (fun _ _ _ h=>h) (by rfl) hHeld ?_
    try simp only[Act.put,zsa,zsz,zss]
    refine anyE_skip 32 rfl (by kernel_rfl) (fun _ _ _ h=>h) (by rfl) hHeld ?_
    try simp only[Act.put,zsa,zsz,zss]
    refine anyE_skip 33 rfl (by kernel_rfl) (fun _ _ _ h=>h) (by rfl) hHeld ?_
    try simp only[Act.put,zsa,zsz,zss]
    refine anyE_skip 34 rfl (by kernel_rfl) (fun _ _ _ h=>h) (by rfl) hHeld ?_
    try simp only[Act.put,zsa,zsz,zss]
    refine anyE_skip 35 rfl (by kernel_rfl) (fun _ _ _ h=>h) (by rfl) hHeld ?_
    try simp only[Act.put,zsa,zsz,zss]
    refine anyE_skip 36 rfl (by kernel_rfl) (fun _ _ _ h=>h) (by rfl) hHeld ?_
    try simp only[Act.put,zsa,zsz,zss]
    refine anyE_take 37 (v:=?_) rfl (by kernel_rfl) (fun _ _ _ h=>h) (by rfl) ?hy37q22 hHeld ?rest37q22
    case hy37q22=>(intro w hSw;(try dsimp only at hSw);go_simp;try with_reducible rfl)
    try simp only[Act.put,zsa,zsz,zss]
    refine anyE_done (by kernel_rfl) ?_ _
    have HE:=Lib.hid (ext_trans HX.out y2)
    clear hHeld KEEP HX HR0 HR1
    go_wp2_with fail
    refine (awake_calls _).mono ?_
    rintro _ w99 ⟨_,rfl,hb,rfl⟩
    have HE2:=Lib.hid (ext_trans HE.out hb)
    clear hb HE
    go_wp2
    go_ret
    exact .mk HE2.out rfl
  | true=>
  refine anyE_take 7 (v:=?_) rfl (by kernel_rfl) (fun _ _ _ h=>h) (by rfl) ?hy7q23 hHeld ?rest7q23
  case hy7q23=>(intro w hSw;(try dsimp only at hSw);go_simp;try with_reducible rfl)
  try simp only[Act.put,zsa,zsz,zss]
  refine anyE_take 8 (v:=?_) rfl (by kernel_rfl) (fun _ _ _ h=>h) (by rfl) ?hy8q24 hHeld ?rest8q24
  case hy8q24=>(intro w hSw;(try dsimp only at hSw);go_simp;try with_reducible rfl)
  try simp only[Act.put,zsa,zsz,zss]
  refine anyE_take 9 (v:=?_) rfl (by kernel_rfl) (fun _ _ _ h=>h) (by rfl) ?hy9q25 hHeld ?rest9q25
  case hy9q25=>(intro w hSw;(try dsimp only at hSw);go_simp;try with_reducible rfl)
  try simp only[Act.put,zsa,zsz,zss]
  refine anyE_take 10 (v:=?_) rfl (by kernel_rfl) (fun _ _ _ h=>h) (by rfl) ?hy10q26 hHeld ?rest10q26
  case hy10q26=>(intro w hSw;(try dsimp only at hSw);go_simp;try with_reducible rfl)
  try simp only[Act.put,zsa,zsz,zss]
  refine anyE_take 11 (v:=?_) rfl (by kernel_rfl) (fun _ _ _ h=>h) (by rfl) ?hy11q27 hHeld ?rest11q27
  case hy11q27=>(intro w hSw;(try dsimp only at hSw);go_simp;try with_reducible rfl)
  try simp only[Act.put,zsa,zsz,zss]
  refine anyE_one 12 rfl (by kernel_rfl) (fun K hK=>?_)
  (go_simp;go_at_call 12;refine (KW2.out _ (ext_trans HX.out y2)).mono ?_;rintro _ vy3 ⟨_,rfl,hb,rfl⟩;have y3:=ext_trans y2 hb;clear hb)
  refine hK.out _ _ (fun _=>KEEP.out _ y3) (fun hHeld=>?_);replace hHeld:=hHeld rfl
  clear hK K
  try simp only[Act.put,zsa,zsz,zss]
  cases b2 with
  | false=>
    refine anyE_take 13 (v:=?_) rfl (by kernel_rfl) (fun _ _ _ h=>h) (by rfl) ?hy13q28 hHeld ?rest13q28
    case hy13q28=>(intro w hSw;(try dsimp only at hSw);go_simp;try with_reducible rfl)
    try simp only[Act.put,zsa,zsz,zss]
    refine anyE_take 14 (v:=?_) rfl (by kernel_rfl) (fun _ _ _ h=>h) (by rfl) ?hy14q29 hHeld ?rest14q29
    case hy14q29=>(intro w hSw;(try dsimp only at hSw);go_simp;try with_reducible rfl)
    try simp only[Act.put,zsa,zsz,zss]
    refine anyE_take 15 (v:=?_) rfl (by kernel_rfl) (fun _ _ _ h=>h) (by rfl) ?hy15q30 hHeld ?rest15q30
    case hy15q30=>(intro w hSw;(try dsimp only at hSw);go_simp;try with_reducible rfl)
    try simp only[Act.put,zsa,zsz,zss]
    refine anyE_skip 16 rfl (by kernel_rfl) (fun _ _ _ h=>h) (by rfl) hHeld ?_
    try simp only[Act.put,zsa,zsz,zss]
    refine anyE_skip 17 rfl (by kernel_rfl) (fun _ _ _ h=>h) (by rfl) hHeld ?_
    try simp only[Act.put,zsa,zsz,zss]
    refine anyE_skip 18 rfl (by kernel_rfl) (fun _ _ _ h=>h) (by rfl) hHeld ?_
    try simp only[Act.put,zsa,zsz,zss]
    refine anyE_skip 19 rfl (by kernel_rfl) (fun _ _ _ h=>h) (by rfl) hHeld ?_
    try simp only[Act.put,zsa,zsz,zss]
    refine anyE_take 20 (v:=?_) rfl (by kernel_rfl) (fun _ _ _ h=>h) (by rfl) ?hy20q31 hHeld ?rest20q31
    case hy20q31=>(intro w hSw;(try dsimp only at hSw);go_simp;try with_reducible rfl)
    try simp only[Act.put,zsa,zsz,zss]
    refine anyE_take 21 (v:=?_) rfl (by kernel_rfl) (fun _ _ _ h=>h) (by rfl) ?hy21q32 hHeld ?rest21q32
    case hy21q32=>(intro w hSw;(try dsimp only at hSw);go_simp;try with_reducible rfl)
    try simp only[Act.put,zsa,zsz,zss]
    refine anyE_skip 22 rfl (by kernel_rfl) (fun _ _ _ h=>h) (by rfl) hHeld ?_
    try simp only[Act.put,zsa,zsz,zss]
    refine anyE_skip 23 rfl (by kernel_rfl) (fun _ _ _ h=>h) (by rfl) hHeld ?_
    try simp only[Act.put,zsa,zsz,zss]
    refine anyE_skip 24 rfl (by kernel_rfl) (fun _ _ _ h=>h) (by rfl) hHeld ?_
    try simp only[Act.put,zsa,zsz,zss]
    refine anyE_skip 25 rfl (by kernel_rfl) (fun _ _ _ h=>h) (by rfl) hHeld ?_
    try simp only[Act.put,zsa,zsz,zss]
    refine anyE_skip 26 rfl (by kernel_rfl) (fun _ _ _ h=>h) (by rfl) hHeld ?_
    try simp only[Act.put,zsa,zsz,zss]
    refine anyE_skip 27 rfl (by kernel_rfl) (fun _ _ _ h=>h) (by rfl) hHeld ?_
    try simp only[Act.put,zsa,zsz,zss]
    refine anyE_skip 28 rfl (by kernel_rfl) (fun _ _ _ h=>h) (by rfl) hHeld ?_
    try simp only[Act.put,zsa,zsz,zss]
    refine anyE_skip 29 rfl (by kernel_rfl) (fun _ _ _ h=>h) (by rfl) hHeld ?_
    try simp only[Act.put,zsa,zsz,zss]
    refine anyE_skip 30 rfl (by kernel_rfl) (fun _ _ _ h=>h) (by rfl) hHeld ?_
    try simp only[Act.put,zsa,zsz,zss]
    refine anyE_skip 31 rfl (by kernel_rfl) (fun _ _ _ h=>h) (by rfl) hHeld ?_
    try simp only[Act.put,zsa,zsz,zss]
    refine anyE_skip 32 rfl (by kernel_rfl) (fun _ _ _ h=>h) (by rfl) hHeld ?_
    try simp only[Act.put,zsa,zsz,zss]
    refine anyE_skip 33 rfl (by kernel_rfl) (fun _ _ _ h=>h) (by rfl) hHeld ?_
    try simp only[Act.put,zsa,zsz,zss]
    refine anyE_skip 34 rfl (by kernel_rfl) (fun _ _ _ h=>h) (by rfl) hHeld ?_
    try simp only[Act.put,zsa,zsz,zss]
    refine anyE_skip 35 rfl (by kernel_rfl) (fun _ _ _ h=>h) (by rfl) hHeld ?_
    try simp only[Act.put,zsa,zsz,zss]
    refine anyE_skip 36 rfl (by kernel_rfl) (fun _ _ _ h=>h) (by rfl) hHeld ?_
    try simp only[Act.put,zsa,zsz,zss]
    refine anyE_take 37 (v:=?_) rfl (by kernel_rfl) (fun _ _ _ h=>h) (by rfl) ?hy37q33 hHeld ?rest37q33
    case hy37q33=>(intro w hSw;(try dsimp only at hSw);go_simp;try with_reducible rfl)
    try simp only[Act.put,zsa,zsz,zss]
    refine anyE_done (by kernel_rfl) ?_ _
    have HE:=Lib.hid (ext_trans HX.out y3)
    clear hHeld KEEP HX HR0 HR1
    go_wp2_with fail
    refine (awake_calls _).mono ?_
    rintro _ w99 ⟨_,rfl,hb,rfl⟩
    have HE2:=Lib.hid (ext_trans HE.out hb)
    clear hb HE
    go_wp2
    go_ret
    exact .mk HE2.out rfl
  | true=>
  refine anyE_take 13 (v:=?_) rfl (by kernel_rfl) (fun _ _ _ h=>h) (by rfl) ?hy13q34 hHeld ?rest13q34
  case hy13q34=>(intro w hSw;(try dsimp only at hSw);go_simp;try with_reducible rfl)
  try simp only[Act.put,zsa,zsz,zss]
  refine anyE_take 14 (v:=?_) rfl (by kernel_rfl) (fun _ _ _ h=>h) (by rfl) ?hy14q35 hHeld ?rest14q35
  case hy14q35=>(intro w hSw;(try dsimp only at hSw);go_simp;try with_reducible rfl)
  try simp only[Act.put,zsa,zsz,zss]
  refine anyE_take 15 (v:=?_) rfl (by kernel_rfl) (fun _ _ _ h=>h) (by rfl) ?hy15q36 hHeld ?rest15q36
  case hy15q36=>(intro w hSw;(try dsimp only at hSw);go_simp;try with_reducible rfl)
  try simp only[Act.put,zsa,zsz,zss]
  refine anyE_take 16 (v:=?_) rfl (by kernel_rfl) (fun _ _ _ h=>h) (by rfl) ?hy16q37 hHeld ?rest16q37
  case hy16q37=>(intro w hSw;(try dsimp only at hSw);go_simp;try with_reducible rfl)
  try simp only[Act.put,zsa,zsz,zss]
  refine anyE_take 17 (v:=?_) rfl (by kernel_rfl) (fun _ _ _ h=>h) (by rfl) ?hy17q38 hHeld ?rest17q38
  case hy17q38=>(intro w hSw;(try dsimp only at hSw);go_simp;try with_reducible rfl)
  try simp only[Act.put,zsa,zsz,zss]
  refine anyE_one 18 rfl (by kernel_rfl) (fun K hK=>?_)
  (go_simp;go_at_call 12;refine (KW3.out _ (ext_trans HX.out y3)).mono ?_;rintro _ vy4 ⟨_,rfl,hb,rfl⟩;have y4:=ext_trans y3 hb;clear hb)
  refine hK.out _ _ (fun _=>KEEP.out _ y4) (fun hHeld=>?_);replace hHeld:=hHeld rfl
  clear hK K
  try simp only[Act.put,zsa,zsz,zss]
  cases b3 with
  | false=>
    refine anyE_take 19 (v:=?_) rfl (by kernel_rfl) (fun _ _ _ h=>h) (by rfl) ?hy19q39 hHeld ?rest19q39
    case hy19q39=>(intro w hSw;(try dsimp only at hSw);go_simp;try with_reducible rfl)
    try simp only[Act.put,zsa,zsz,zss]
    refine anyE_take 20 (v:=?_) rfl (by kernel_rfl) (fun _ _ _ h=>h) (by rfl) ?hy20q40 hHeld ?rest20q40
    case hy20q40=>(intro w hSw;(try dsimp only at hSw);go_simp;try with_reducible rfl)
    try simp only[Act.put,zsa,zsz,zss]
    refine anyE_take 21 (v:=?_) rfl (by kernel_rfl) (fun _ _ _ h=>h) (by rfl) ?hy21q41 hHeld ?rest21q41
    case hy21q41=>(intro w hSw;(try dsimp only at hSw);go_simp;try with_reducible rfl)
    try simp only[Act.put,zsa,zsz,zss]
    refine anyE_skip 22 rfl (by kernel_rfl) (fun _ _ _ h=>h) (by rfl) hHeld ?_
    try simp only[Act.put,zsa,zsz,zss]
    refine anyE_skip 23 rfl (by kernel_rfl) (fun _ _ _ h=>h) (by rfl) hHeld ?_
    try simp only[Act.put,zsa,zsz,zss]
    refine anyE_skip 24 rfl (by kernel_rfl) (fun _ _ _ h=>h) (by rfl) hHeld ?_
    try simp only[Act.put,zsa,zsz,zss]
    refine anyE_skip 25 rfl (by kernel_rfl) (fun _ _ _ h=>h) (by rfl) hHeld ?_
    try simp only[Act.put,zsa,zsz,zss]
    refine anyE_skip 26 rfl (by kernel_rfl) (fun _ _ _ h=>h) (by rfl) hHeld ?_
    try simp only[Act.put,zsa,zsz,zss]
    refine anyE_skip 27 rfl (by kernel_rfl) (fun _ _ _ h=>h) (by rfl) hHeld ?_
    try simp only[Act.put,zsa,zsz,zss]
    refine anyE_skip 28 rfl (by kernel_rfl) (fun _ _ _ h=>h) (by rfl) hHeld ?_
    try simp only[Act.put,zsa,zsz,zss]
    refine anyE_skip 29 rfl (by kernel_rfl) (fun _ _ _ h=>h) (by rfl) hHeld ?_
    try simp only[Act.put,zsa,zsz,zss]
    refine anyE_skip 30 rfl (by kernel_rfl) (fun _ _ _ h=>h) (by rfl) hHeld ?_
    try simp only[Act.put,zsa,zsz,zss]
    refine anyE_skip 31 rfl (by kernel_rfl) (fun _ _ _ h=>h) (by rfl) hHeld ?_
    try simp only[Act.put,zsa,zsz,zss]
    refine anyE_skip 32 rfl (by kernel_rfl) (fun _ _ _ h=>h) (by rfl) hHeld ?_
    try simp only[Act.put,zsa,zsz,zss]
    refine anyE_skip 33 rfl (by kernel_rfl) (fun _ _ _ h=>h) (by rfl) hHeld ?_
    try simp only[Act.put,zsa,zsz,zss]
    refine anyE_skip 34 rfl (by kernel_rfl) (fun _ _ _ h=>h) (by rfl) hHeld ?_
    try simp only[Act.put,zsa,zsz,zss]
    refine anyE_skip 35 rfl (by kernel_rfl) (fun _ _ _ h=>h) (by rfl) hHeld ?_
    try simp only[Act.put,zsa,zsz,zss]
    refine anyE_skip 36 rfl (by kernel_rfl) (fun _ _ _ h=>h) (by rfl) hHeld ?_
    try simp only[Act.put,zsa,zsz,zss]
    refine anyE_take 37 (v:=?_) rfl (by kernel_rfl) (fun _ _ _ h=>h) (by rfl) ?hy37q42 hHeld ?rest37q42
    case hy37q42=>(intro w hSw;(try dsimp only at hSw);go_simp;try with_reducible rfl)
    try simp only[Act.put,zsa,zsz,zss]
    refine anyE_done (by kernel_rfl) ?_ _
    have HE:=Lib.hid (ext_trans HX.out y4)
    clear hHeld KEEP HX HR0 HR1
    go_wp2_with fail
    refine (awake_calls _).mono ?_
    rintro _ w99 ⟨_,rfl,hb,rfl⟩
    have HE2:=Lib.hid (ext_trans HE.out hb)
    clear hb HE
    go_wp2
    go_ret
    exact .mk HE2.out rfl
  | true=>
  refine anyE_take 19 (v:=?_) rfl (by kernel_rfl) (fun _ _ _ h=>h) (by rfl) ?hy19q43 hHeld ?rest19q43
  case hy19q43=>(intro w hSw;(try dsimp only at hSw);go_simp;try with_reducible rfl)
  try simp only[Act.put,zsa,zsz,zss]
  refine anyE_take 20 (v:=?_) rfl (by kernel_rfl) (fun _ _ _ h=>h) (by rfl) ?hy20q44 hHeld ?rest20q44
  case hy20q44=>(intro w hSw;(try dsimp only at hSw);go_simp;try with_reducible rfl)
  try simp only[Act.put,zsa,zsz,zss]
  refine anyE_take 21 (v:=?_) rfl (by kernel_rfl) (fun _ _ _ h=>h) (by rfl) ?hy21q45 hHeld ?rest21q45
  case hy21q45=>(intro w hSw;(try dsimp only at hSw);go_simp;try with_reducible rfl)
  try simp only[Act.put,zsa,zsz,zss]
  refine anyE_take 22 (v:=?_) rfl (by kernel_rfl) (fun _ _ _ h=>h) (by rfl) ?hy22q46 hHeld ?rest22q46
  case hy22q46=>(intro w hSw;(try dsimp only at hSw);go_simp;try with_reducible rfl)
  try simp only[Act.put,zsa,zsz,zss]
  refine anyE_take 23 (v:=?_) rfl (by kernel_rfl) (fun _ _ _ h=>h) (by rfl) ?hy23q47 hHeld ?rest23q47
  case hy23q47=>(intro w hSw;(try dsimp only at hSw);go_simp;try with_reducible rfl)
  try simp only[Act.put,zsa,zsz,zss]
  refine anyE_take 24 (v:=?_) rfl (by kernel_rfl) (fun _ _ _ h=>h) (by rfl) ?hy24q48 hHeld ?rest24q48
  case hy24q48=>(intro w hSw;(try dsimp only at hSw);go_simp;try with_reducible rfl)
  try simp only[Act.put,zsa,zsz,zss]
  refine anyE_take 26 (v:=?_) rfl (by kernel_rfl) (fun _ _ _ h=>h) (by rfl) ?hy26q49 hHeld ?rest26q49
  case hy26q49=>(intro w hSw;(try dsimp only at hSw);go_simp;try with_reducible rfl)
  try simp only[Act.put,zsa,zsz,zss]
  refine anyE_take 27 (v:=?_) rfl (by kernel_rfl) (fun _ _ _ h=>h) (by rfl) ?hy27q50 hHeld ?rest27q50
  case hy27q50=>(intro w hSw;(try dsimp only at hSw);go_simp;try with_reducible rfl)
  try simp only[Act.put,zsa,zsz,zss]
  refine anyE_take 28 (v:=?_) rfl (by kernel_rfl) (fun _ _ _ h=>h) (by rfl) ?hy28q51 hHeld ?rest28q51
  case hy28q51=>(intro w hSw;(try dsimp only at hSw);go_simp;try with_reducible rfl)
  try simp only[Act.put,zsa,zsz,zss]
  refine anyE_take 31 (v:=?_) rfl (by kernel_rfl) (fun _ _ _ h=>h) (by rfl) ?hy31q52 hHeld ?rest31q52
  case hy31q52=>(intro w hSw;(try dsimp only at hSw);go_simp;try with_reducible rfl)
  try simp only[Act.put,zsa,zsz,zss]
  refine anyE_take 32 (v:=?_) rfl (by kernel_rfl) (fun _ _ _ h=>h) (by rfl) ?hy32q53 hHeld ?rest32q53
  case hy32q53=>(intro w hSw;(try dsimp only at hSw);go_simp;try with_reducible rfl)
  try simp only[Act.put,zsa,zsz,zss]
  refine anyE_take 33 (v:=?_) rfl (by kernel_rfl) (fun _ _ _ h=>h) (by rfl) ?hy33q54 hHeld ?rest33q54
  case hy33q54=>(intro w hSw;(try dsimp only at hSw);go_simp;try with_reducible rfl)
  try simp only[Act.put,zsa,zsz,zss]
  refine anyE_one 25 rfl (by kernel_rfl) (fun K hK=>?_)
  (go_simp;go_at_call 16;refine (KC1.out hfew _ (ext_trans HX.out y4)).mono ?_;rintro _ vy5 ⟨_,rfl,hb,rfl⟩;have y5:=ext_trans y4 hb;clear hb)
  refine hK.out _ _ (fun _=>KEEP.out _ y5) (fun hHeld=>?_);replace hHeld:=hHeld rfl
  clear hK K
  try simp only[Act.put,zsa,zsz,zss]
  refine anyE_one 29 rfl (by kernel_rfl) (fun K hK=>?_)
  (go_simp;go_at_call 16;refine (KC2.out hfew _ (ext_trans HX.out y5)).mono ?_;rintro _ vy6 ⟨_,rfl,hb,rfl⟩;have y6:=ext_trans y5 hb;clear hb)
  refine hK.out _ _ (fun _=>KEEP.out _ y6) (fun hHeld=>?_);replace hHeld:=hHeld rfl
  clear hK K
  try simp only[Act.put,zsa,zsz,zss]
  refine anyE_take 30 (v:=?_) rfl (by kernel_rfl) (fun _ _ _ h=>h) (by rfl) ?hy30q55 hHeld ?rest30q55
  case hy30q55=>(intro w hSw;(try dsimp only at hSw);go_simp;try with_reducible rfl)
  try simp only[Act.put,zsa,zsz,zss]
  refine anyE_one 34 rfl (by kernel_rfl) (fun K hK=>?_)
  (go_simp;go_at_call 16;refine (KC3.out hfew _ (ext_trans HX.out y6)).mono ?_;rintro _ vy7 ⟨_,rfl,hb,rfl⟩;have y7:=ext_trans y6 hb;clear hb)
  refine hK.out _ _ (fun _=>KEEP.out _ y7) (fun hHeld=>?_);replace hHeld:=hHeld rfl
  clear hK K
  try simp only[Act.put,zsa,zsz,zss]
  by_cases hz:e1=0∧e2=0∧e3=0
  case neg=>
    have hw3:(IntKind.i64.wrap (IntKind.i64.wrap (e1+e2)+e3) !=0)=true:=by
      have g1:=HN1.out
      have g2:=HN2.out
      have g3:=HN3.out
      unfold ErrN at g1 g2 g3
      rw[IntWalk.i64_left,IntWalk.i64_left,IntWalk.wrap64_in (e1+e2) (by omega),IntWalk.wrap64_in _ (by omega)]
      simp;omega
    clear hz
    refine anyE_take 35 (v:=?_) rfl (by kernel_rfl) (fun _ _ _ h=>h) (by rfl) ?hy35q56 hHeld ?rest35q56
    case hy35q56=>(intro w hSw;(try dsimp only at hSw);go_simp;try with_reducible rfl)
    try simp only[Act.put,zsa,zsz,zss]
    refine anyE_take 36 (v:=?_) rfl (by kernel_rfl) (fun _ _ _ h=>h) (by rfl) ?hy36q57 hHeld ?rest36q57
    case hy36q57=>(intro w hSw;(try dsimp only at hSw);go_simp;try with_reducible rfl)
    try simp only[Act.put,zsa,zsz,zss]
    refine anyE_take 37 (v:=?_) rfl (by kernel_rfl) (fun _ _ _ h=>h) (by rfl) ?hy37q58 hHeld ?rest37q58
    case hy37q58=>(intro w hSw;(try dsimp only at hSw);go_simp;try with_reducible rfl)
    try simp only[Act.put,zsa,zsz,zss]
    refine anyE_done (by kernel_rfl) ?_ _
    have HE:=Lib.hid (ext_trans HX.out y7)
    clear hHeld KEEP HX HR0 HR1
    go_wp2_with fail
    refine (awake_calls _).mono ?_
    rintro _ w99 ⟨_,rfl,hb,rfl⟩
    have HE2:=Lib.hid (ext_trans HE.out hb)
    clear hb HE
    go_wp2
    go_ret
    exact .mk HE2.out rfl
  obtain ⟨rfl,rfl,rfl⟩:=hz
  refine anyE_take 35 (v:=?_) rfl (by kernel_rfl) (fun _ _ _ h=>h) (by rfl) ?hy35q59 hHeld ?rest35q59
  case hy35q59=>(intro w hSw;(try dsimp only at hSw);go_simp;try with_reducible rfl)
  try simp only[Act.put,zsa,zsz,zss]
  refine anyE_take 36 (v:=?_) rfl (by kernel_rfl) (fun _ _ _ h=>h) (by rfl) ?hy36q60 hHeld ?rest36q60
  case hy36q60=>(intro w hSw;(try dsimp only at hSw);go_simp;try with_reducible rfl)
  try simp only[Act.put,zsa,zsz,zss]
  refine anyE_take 37 (v:=?_) rfl (by kernel_rfl) (fun _ _ _ h=>h) (by rfl) ?hy37q61 hHeld ?rest37q61
  case hy37q61=>(intro w hSw;(try dsimp only at hSw);go_simp;try with_reducible rfl)
  try simp only[Act.put,zsa,zsz,zss]
  refine anyE_done (by kernel_rfl) ?_ _
  have ex:=ext_trans HX.out y7
  have R0:=HR0.out.ext y7
  have R1:=HR1.out.ext y7
  obtain ⟨rfl,HO1⟩:=HO.out rfl rfl
  have HP:=Lib.hid HO1
  clear HO hHeld KEEP HX HR0 HR1 HO1 y1 y2 y3 y4 y5 y6 y7 KW1 KW2 KW3 KC1 KC2 KC3 KFS
  have t0:=R0.cell (j:=0) rfl
  have t1:=R0.cell (j:=1) rfl
  have t2:=R0.cell (j:=2) rfl
  have t3:=R0.cell (j:=3) rfl
  have t4:=R0.cell (j:=4) rfl
  have t5:=R0.cell (j:=5) rfl
  have t6:=R0.cell (j:=6) rfl
  have t7:=R0.cell (j:=7) rfl
  have t8:=R0.cell (j:=8) rfl
  have t9:=R0.cell (j:=9) rfl
  have r0:=R1.cell (j:=0) rfl
  have r1:=R1.cell (j:=1) rfl
  have r2:=R1.cell (j:=2) rfl
  have l0:=R0.lt
  have l1:=R1.lt
  go_wp2_with fail
  refine (KE11.out hfew trivial trivial _ ex).mono ?_
  rintro _ w1 ⟨_,rfl,hb,rfl⟩
  replace R0:=R0.ext hb
  replace R1:=R1.ext hb
  replace ex:=ext_trans ex hb
  clear hb t0 t1 t2 t3 t4 t5 t6 t7 t8 t9 r0 r1 r2 l0 l1 KE11
  have t0:=R0.cell (j:=0) rfl
  have t1:=R0.cell (j:=1) rfl
  have t2:=R0.cell (j:=2) rfl
  have t3:=R0.cell (j:=3) rfl
  have t4:=R0.cell (j:=4) rfl
  have t5:=R0.cell (j:=5) rfl
  have t6:=R0.cell (j:=6) rfl
  have t7:=R0.cell (j:=7) rfl
  have t8:=R0.cell (j:=8) rfl
  have t9:=R0.cell (j:=9) rfl
  have r0:=R1.cell (j:=0) rfl
  have r1:=R1.cell (j:=1) rfl
  have r2:=R1.cell (j:=2) rfl
  have l0:=R0.lt
  have l1:=R1.lt
  go_wp2_with fail
  refine (KE12.out hfew trivial trivial _ ex).mono ?_
  rintro _ w2 ⟨_,rfl,hb,rfl⟩
  replace R0:=R0.ext hb
  replace R1:=R1.ext hb
  replace ex:=ext_trans ex hb
  clear hb t0 t1 t2 t3 t4 t5 t6 t7 t8 t9 r0 r1 r2 l0 l1 KE12
  have t0:=R0.cell (j:=0) rfl
  have t1:=R0.cell (j:=1) rfl
  have t2:=R0.cell (j:=2) rfl
  have t3:=R0.cell (j:=3) rfl
  have t4:=R0.cell (j:=4) rfl
  have t5:=R0.cell (j:=5) rfl
  have t6:=R0.cell (j:=6) rfl
  have t7:=R0.cell (j:=7) rfl
  have t8:=R0.cell (j:=8) rfl
  have t9:=R0.cell (j:=9) rfl
  have r0:=R1.cell (j:=0) rfl
  have r1:=R1.cell (j:=1) rfl
  have r2:=R1.cell (j:=2) rfl
  have l0:=R0.lt
  have l1:=R1.lt
  go_wp2_with fail
  refine (KE23.out hfew trivial trivial _ ex).mono ?_
  rintro _ w3 ⟨_,rfl,hb,rfl⟩
  replace R0:=R0.ext hb
  replace R1:=R1.ext hb
  replace ex:=ext_trans ex hb
  clear hb t0 t1 t2 t3 t4 t5 t6 t7 t8 t9 r0 r1 r2 l0 l1 KE23
  have t0:=R0.cell (j:=0) rfl
  have t1:=R0.cell (j:=1) rfl
  have t2:=R0.cell (j:=2) rfl
  have t3:=R0.cell (j:=3) rfl
  have t4:=R0.cell (j:=4) rfl
  have t5:=R0.cell (j:=5) rfl
  have t6:=R0.cell (j:=6) rfl
  have t7:=R0.cell (j:=7) rfl
  have t8:=R0.cell (j:=8) rfl
  have t9:=R0.cell (j:=9) rfl
  have r0:=R1.cell (j:=0) rfl
  have r1:=R1.cell (j:=1) rfl
  have r2:=R1.cell (j:=2) rfl
  have l0:=R0.lt
  have l1:=R1.lt
  go_wp2_with fail
  refine (KE13.out hfew trivial trivial _ ex).mono ?_
  rintro _ w4 ⟨_,rfl,hb,rfl⟩
  replace R0:=R0.ext hb
  replace R1:=R1.ext hb
  replace ex:=ext_trans ex hb
  clear hb t0 t1 t2 t3 t4 t5 t6 t7 t8 t9 r0 r1 r2 l0 l1 KE13
  cases s12 with
  | false=>
    have t0:=R0.cell (j:=0) rfl
    have t1:=R0.cell (j:=1) rfl
    have t2:=R0.cell (j:=2) rfl
    have t3:=R0.cell (j:=3) rfl
    have t4:=R0.cell (j:=4) rfl
    have t5:=R0.cell (j:=5) rfl
    have t6:=R0.cell (j:=6) rfl
    have t7:=R0.cell (j:=7) rfl
    have t8:=R0.cell (j:=8) rfl
    have t9:=R0.cell (j:=9) rfl
    have r0:=R1.cell (j:=0) rfl
    have r1:=R1.cell (j:=1) rfl
    have r2:=R1.cell (j:=2) rfl
    have l0:=R0.lt
    have l1:=R1.lt
    go_wp2_with fail
    refine (KM1.out hfew _ ex).mono ?_
    rintro _ w11 ⟨_,rfl,hb,rfl⟩
    replace R0:=R0.ext hb
    replace R1:=R1.ext hb
    replace ex:=ext_trans ex hb
    clear hb t0 t1 t2 t3 t4 t5 t6 t7 t8 t9 r0 r1 r2 l0 l1 KM1
    have t0:=R0.cell (j:=0) rfl
    have t1:=R0.cell (j:=1) rfl
    have t2:=R0.cell (j:=2) rfl
    have t3:=R0.cell (j:=3) rfl
    have t4:=R0.cell (j:=4) rfl
    have t5:=R0.cell (j:=5) rfl
    have t6:=R0.cell (j:=6) rfl
    have t7:=R0.cell (j:=7) rfl
    have t8:=R0.cell (j:=8) rfl
    have t9:=R0.cell (j:=9) rfl
    have r0:=R1.cell (j:=0) rfl
    have r1:=R1.cell (j:=1) rfl
    have r2:=R1.cell (j:=2) rfl
    have l0:=R0.lt
    have l1:=R1.lt
    go_wp2_with fail
    refine (KM2.out hfew _ ex).mono ?_
    rintro _ w12 ⟨_,rfl,hb,rfl⟩
    replace R0:=R0.ext hb
    replace R1:=R1.ext hb
    replace ex:=ext_trans ex hb
    clear hb t0 t1 t2 t3 t4 t5 t6 t7 t8 t9 r0 r1 r2 l0 l1 KM2
    clear R0 R1
    clear HP
    go_wp2_with fail
    refine (awake_calls _).mono ?_
    rintro _ w99 ⟨_,rfl,hb,rfl⟩
    replace ex:=ext_trans ex hb
    clear hb
    go_wp2
    go_ret
    exact .mk ex rfl
  | true=>
  cases s23 with
  | false=>
    have t0:=R0.cell (j:=0) rfl
    have t1:=R0.cell (j:=1) rfl
    have t2:=R0.cell (j:=2) rfl
    have t3:=R0.cell (j:=3) rfl
    have t4:=R0.cell (j:=4) rfl
    have t5:=R0.cell (j:=5) rfl
    have t6:=R0.cell (j:=6) rfl
    have t7:=R0.cell (j:=7) rfl
    have t8:=R0.cell (j:=8) rfl
    have t9:=R0.cell (j:=9) rfl
    have r0:=R1.cell (j:=0) rfl
    have r1:=R1.cell (j:=1) rfl
    have r2:=R1.cell (j:=2) rfl
    have l0:=R0.lt
    have l1:=R1.lt
    go_wp2_with fail
    refine (KM1.out hfew _ ex).mono ?_
    rintro _ w11 ⟨_,rfl,hb,rfl⟩
    replace R0:=R0.ext hb
    replace R1:=R1.ext hb
    replace ex:=ext_trans ex hb
    clear hb t0 t1 t2 t3 t4 t5 t6 t7 t8 t9 r0 r1 r2 l0 l1 KM1
    have t0:=R0.cell (j:=0) rfl
    have t1:=R0.cell (j:=1) rfl
    have t2:=R0.cell (j:=2) rfl
    have t3:=R0.cell (j:=3) rfl
    have t4:=R0.cell (j:=4) rfl
    have t5:=R0.cell (j:=5) rfl
    have t6:=R0.cell (j:=6) rfl
    have t7:=R0.cell (j:=7) rfl
    have t8:=R0.cell (j:=8) rfl
    have t9:=R0.cell (j:=9) rfl
    have r0:=R1.cell (j:=0) rfl
    have r1:=R1.cell (j:=1) rfl
    have r2:=R1.cell (j:=2) rfl
    have l0:=R0.lt
    have l1:=R1.lt
    go_wp2_with fail
    refine (KM2.out hfew _ ex).mono ?_
    rintro _ w12 ⟨_,rfl,hb,rfl⟩
    replace R0:=R0.ext hb
    replace R1:=R1.ext hb
    replace ex:=ext_trans ex hb
    clear hb t0 t1 t2 t3 t4 t5 t6 t7 t8 t9 r0 r1 r2 l0 l1 KM2
    clear R0 R1
    by_cases hj:z2=0
    case neg=>
      have dj:(z2==0)=false:=by simp[hj]
      clear hj HP
      go_wp2_with fail
      refine (awake_calls _).mono ?_
      rintro _ w99 ⟨_,rfl,hb,rfl⟩
      replace ex:=ext_trans ex hb
      clear hb
      go_wp2
      go_ret
      exact .mk ex rfl
    subst hj
    obtain rfl:z1=0:=HP.out.2 (by simp) rfl
    clear HP
    go_wp2_with fail
    refine (awake_calls _).mono ?_
    rintro _ w99 ⟨_,rfl,hb,rfl⟩
    replace ex:=ext_trans ex hb
    clear hb
    go_wp2
    go_ret
    exact .mk ex rfl
  | true=>
  obtain rfl:s13=true:=HP.out.1 (by simp) rfl
  have t0:=R0.cell (j:=0) rfl
  have t1:=R0.cell (j:=1) rfl
  have t2:=R0.cell (j:=2) rfl
  have t3:=R0.cell (j:=3) rfl
  have t4:=R0.cell (j:=4) rfl
  have t5:=R0.cell (j:=5) rfl
  have t6:=R0.cell (j:=6) rfl
  have t7:=R0.cell (j:=7) rfl
  have t8:=R0.cell (j:=8) rfl
  have t9:=R0.cell (j:=9) rfl
  have r0:=R1.cell (j:=0) rfl
  have r1:=R1.cell (j:=1) rfl
  have r2:=R1.cell (j:=2) rfl
  have l0:=R0.lt
  have l1:=R1.lt
  go_wp2_with fail
  refine (KM1.out hfew _ ex).mono ?_
  rintro _ w11 ⟨_,rfl,hb,rfl⟩
  replace R0:=R0.ext hb
  replace R1:=R1.ext hb
  replace ex:=ext_trans ex hb
  clear hb t0 t1 t2 t3 t4 t5 t6 t7 t8 t9 r0 r1 r2 l0 l1 KM1
  have t0:=R0.cell (j:=0) rfl
  have t1:=R0.cell (j:=1) rfl
  have t2:=R0.cell (j:=2) rfl
  have t3:=R0.cell (j:=3) rfl
  have t4:=R0.cell (j:=4) rfl
  have t5:=R0.cell (j:=5) rfl
  have t6:=R0.cell (j:=6) rfl
  have t7:=R0.cell (j:=7) rfl
  have t8:=R0.cell (j:=8) rfl
  have t9:=R0.cell (j:=9) rfl
  have r0:=R1.cell (j:=0) rfl
  have r1:=R1.cell (j:=1) rfl
  have r2:=R1.cell (j:=2) rfl
  have l0:=R0.lt
  have l1:=R1.lt
  go_wp2_with fail
  refine (KM2.out hfew _ ex).mono ?_
  rintro _ w12 ⟨_,rfl,hb,rfl⟩
  replace R0:=R0.ext hb
  replace R1:=R1.ext hb
  replace ex:=ext_trans ex hb
  clear hb t0 t1 t2 t3 t4 t5 t6 t7 t8 t9 r0 r1 r2 l0 l1 KM2
  clear R0 R1
  by_cases hj:z2=0
  case neg=>
    have dj:(z2==0)=false:=by simp[hj]
    clear hj HP
    go_wp2_with fail
    refine (awake_calls _).mono ?_
    rintro _ w99 ⟨_,rfl,hb,rfl⟩
    replace ex:=ext_trans ex hb
    clear hb
    go_wp2
    go_ret
    exact .mk ex rfl
  subst hj
  obtain rfl:z1=0:=HP.out.2 (by simp) rfl
  clear HP
  go_wp2_with fail
  refine (awake_calls _).mono ?_
  rintro _ w99 ⟨_,rfl,hb,rfl⟩
  replace ex:=ext_trans ex hb
  clear hb
  go_wp2
  go_ret
  exact .mk ex rfl
end Go.Proofs.YtcopehiceihdaaaGreat
