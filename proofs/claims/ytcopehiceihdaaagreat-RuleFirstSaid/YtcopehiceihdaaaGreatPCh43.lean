/- Part of the proof that the laws of chapter 45 answer true for every input. -/
import Derived.Test.YtcopehiceihdaaaGreatPCh41
import Derived.Test.YtcopehiceihdaaaGreatPCh42
set_option linter.unusedSimpArgs false
set_option linter.unnecessarySimpa false
set_option linter.unusedVariables false
set_option maxRecDepth 100000
set_option maxHeartbeats 40000000
namespace Go.Proofs.YtcopehiceihdaaaGreat
open Go.RowKit
attribute [local go_sem ↓] Go.wp_at_zero Go.wp_at_succ
theorem ex_few:FewP exP:=⟨by refine ⟨by decide,fun k hk=>?_⟩;match k,hk with | 0,_=>exact ⟨by decide,⟨by decide,by decide⟩,⟨by decide,by decide⟩⟩ | 1,_=>exact ⟨by decide,⟨by decide,by decide⟩,⟨by decide,by decide⟩⟩ | k+2,h=>exact absurd h (by simp[exP]),by decide+kernel,by decide,fun _=>.inl (by decide+kernel)⟩
theorem ex_full:exP.full=exS:=rfl
theorem equal_same {S S':Nat→Prop} {w:World} {v1 v2:Value} {l:List Int} (h1:Ints S w v1 l) (h2:Ints S' w v2 l):Calls Tryz.prog 32 #[v1,v2] w (Post w fun _ r=>r=.bool true):=by
  have:=equal_calls h1 h2
  rw[decide_eq_true rfl]at this
  exact this
theorem zero_row (W:World):Ints (fun b=>b=W.heap.size) (W.alloc (.cells (madeCells #[.int .i64 0] 8) 3)) (.slice (some ⟨W.heap.size,0,none⟩) 8 8) exZ:=by
  have h:=Row.made W (.int .i64 0) 8 3
  exact Row.ints (l:=exZ) h (by decide) (by intro x hx;simp[exZ]at hx;unfold WF;omega)
theorem awake_calls (w:World):Calls Tryz.prog 13 #[] w (Post w fun _ r=>r=.bool true):=by
  have hmk:∀W:World,(Instr.makeSlice 36 (.int .i64 8) (.int .i64 8)).run Tryz.prog W=.ok (.slice (some ⟨W.heap.size,0,none⟩) 8 8) (W.alloc (.cells (madeCells #[.int .i64 0] 8) 3)):=run_make_row' 36 3 (.int .i64 0) 8 Tryz.underlying36 info_int rfl .i64 .i64 8 (by omega) (by omega)
  have wr0:IntKind.i64.wrap 0=0:=by decide
  go_enter Tryz.func13,Tryz.ntmps13
  go_wp2_with fail
  refine (example_calls w).mono ?_
  rintro _ w1 ⟨_,rfl,hb1,vc,vs,rfl,hc,hs⟩
  obtain ⟨ca0,cc0,rfl,_⟩:=hc.form
  obtain ⟨sa0,sc0,rfl,_⟩:=hs.form
  have KB:=Lib.hid (pbuild_calls hc hs ex_few.few)
  clear hc hs
  go_wp2_with fail
  refine KB.out.mono ?_
  rintro _ w2 ⟨rv,rfl,hb2,hB⟩
  replace hb1:=ext_trans hb1 hb2
  rcases hB with ⟨_,v,rfl,hS⟩ | ⟨h0,_⟩
  case inr=>exact absurd ex_build h0
  rw[ex_full]at hS
  clear KB hb2
  have KE:Hid (∀W vch ch S,Below w2.heap.size w2 W→Ints S W vch ch→Calls Tryz.prog 14 #[v,.agg #[vch]] W (Post W (EarlyR W.heap.size exS ch))):=Lib.hid fun W vch ch S hW hi=>pearly_calls (hS.ext hW) ex_few.few hi (by decide+kernel)
  have KM:Hid (∀W vch S,Below w2.heap.size w2 W→Ints S W vch exZ→Calls Tryz.prog 21 #[v,.agg #[vch]] W (Post W fun _ r=>r=.tuple #[.int .i64 0,.int .i64 0,.int .i64 0])):=Lib.hid fun W vch S hW hi=>by
    have:=pmea_calls (hS.ext hW) ex_few.few hi
    rw[ex_meas]at this;exact this
  have KZ:Hid (∀W vch S,Below w2.heap.size w2 W→Ints S W vch exZ→Calls Tryz.prog 19 #[v,.agg #[vch]] W (Post W fun _ r=>r=.tuple #[.bool true,.int .i64 0,.int .i64 0])):=Lib.hid fun W vch S hW hi=>by
    have:=psol_calls (hS.ext hW) ex_few.few hi
    rw[ex_solZ]at this;exact this
  have KO:Hid (∀W vch S,Below w2.heap.size w2 W→Ints S W vch exE→Calls Tryz.prog 19 #[v,.agg #[vch]] W (Post W fun _ r=>r=.tuple #[.bool false,.int .i64 3,.int .i64 0])):=Lib.hid fun W vch S hW hi=>by
    have:=psol_calls (hS.ext hW) ex_few.few hi
    rw[ex_solE]at this;exact this
  have KD:Hid (∀W vch S,Below w2.heap.size w2 W→Ints S W vch exE→Calls Tryz.prog 28 #[v,.agg #[vch],.int .i64 3] W (Post W fun w' r=>∃u,r=.tuple #[u,.int .i64 0]∧Ints (fun b=>W.heap.size≤b) w' u [1,0])):=Lib.hid fun W vch S hW hi=>by
    refine (pDec_calls 3 (hS.ext hW) ex_few.few hi).mono ?_
    rintro e w' ⟨r,rfl,hb,h⟩
    refine ⟨r,rfl,hb,?_⟩
    rcases h with ⟨_,u,h1,h2⟩ | ⟨h0,_⟩
    · exact ⟨u,h1,by have:=ex_vals;rw[show (3:Int).toNat=3 from rfl,this]at h2;exact h2⟩
    · exact absurd ex_scene h0
  have EZ:Hid (∀B w' r,EarlyR B exS exZ w' r→∃zv,r=.tuple #[zv,.int .i64 0]∧∃zu,zv=.agg #[zu]∧Ints (fun b=>B≤b) w' zu exZ):=Lib.hid fun B w' r h=>by
    rcases h with ⟨_,v,h1,u,h2,h3⟩ | ⟨h0,_⟩
    · rw[ex_earlyZ]at h3;exact ⟨v,h1,u,h2,h3⟩
    · exact absurd ex_earZ h0
  have EO:Hid (∀B w' r,EarlyR B exS exO w' r→∃zv,r=.tuple #[zv,.int .i64 0]∧∃zu,zv=.agg #[zu]∧Ints (fun b=>B≤b) w' zu exE):=Lib.hid fun B w' r h=>by
    rcases h with ⟨_,v,h1,u,h2,h3⟩ | ⟨h0,_⟩
    · rw[ex_earlyO]at h3;exact ⟨v,h1,u,h2,h3⟩
    · exact absurd ex_earO h0
  obtain ⟨s,hs⟩:∃s,s=exS:=⟨_,rfl⟩
  rw[←hs]at hS KE EZ EO
  obtain ⟨vc,vs,vt,vx,rfl,hc,hs2,ht,hx⟩:=hS
  obtain ⟨ca,cc,rfl,_⟩:=hc.form
  obtain ⟨sa,sc,rfl,_⟩:=hs2.form
  obtain ⟨ta,tc,rfl,_⟩:=ht.form
  obtain ⟨xa,xc,rfl,_⟩:=hx.form
  clear hc hs2 ht hx hs
  have R1:=row_new w2 [.int .i64 s.p.n,.int .i64 s.p.ins,.int .i64 s.p.outs,.slice ca s.p.cs.length cc,.int .i64 s.p.an,.slice sa s.p.st.length sc,.int .i64 s.p.rounds,.int .i64 s.tn,.slice ta s.tab.length tc,.slice xa s.ex.length xc] 35
  have hx2:=ext_alloc w2 (.cells #[.int .i64 s.p.n,.int .i64 s.p.ins,.int .i64 s.p.outs,.slice ca s.p.cs.length cc,.int .i64 s.p.an,.slice sa s.p.st.length sc,.int .i64 s.p.rounds,.int .i64 s.tn,.slice ta s.tab.length tc,.slice xa s.ex.length xc] 35)
  go_wp2
  obtain ⟨w3,hw3⟩:∃w3,w3=w2.alloc (.cells #[.int .i64 s.p.n,.int .i64 s.p.ins,.int .i64 s.p.outs,.slice ca s.p.cs.length cc,.int .i64 s.p.an,.slice sa s.p.st.length sc,.int .i64 s.p.rounds,.int .i64 s.tn,.slice ta s.tab.length tc,.slice xa s.ex.length xc] 35):=⟨_,rfl⟩
  obtain ⟨B1,hB1⟩:∃B1,B1=w2.heap.size:=⟨_,rfl⟩
  rw[←hw3]at R1 hx2 ⊢
  rw[←hB1]at R1 ⊢
  clear hw3 hB1
  have HX:=Lib.hid (ext_trans hb1 hx2)
  have H23:=Lib.hid hx2
  have KEEP:Hid (∀w',Below w3.heap.size w3 w'→(fun w':World=>w'.cell? ⟨B1,0,none⟩=some (.int .i64 s.p.n)∧w'.cell? ⟨B1,1,none⟩=some (.int .i64 s.p.ins)∧w'.cell? ⟨B1,2,none⟩=some (.int .i64 s.p.outs)∧w'.cell? ⟨B1,3,none⟩=some (.slice ca s.p.cs.length cc)∧w'.cell? ⟨B1,4,none⟩=some (.int .i64 s.p.an)∧w'.cell? ⟨B1,5,none⟩=some (.slice sa s.p.st.length sc)∧w'.cell? ⟨B1,6,none⟩=some (.int .i64 s.p.rounds)∧w'.cell? ⟨B1,7,none⟩=some (.int .i64 s.tn)∧w'.cell? ⟨B1,8,none⟩=some (.slice ta s.tab.length tc)∧w'.cell? ⟨B1,9,none⟩=some (.slice xa s.ex.length xc)) w'):=Lib.hid fun w' hw=>⟨(R1.ext hw).cell (j:=0) rfl,(R1.ext hw).cell (j:=1) rfl,(R1.ext hw).cell (j:=2) rfl,(R1.ext hw).cell (j:=3) rfl,(R1.ext hw).cell (j:=4) rfl,(R1.ext hw).cell (j:=5) rfl,(R1.ext hw).cell (j:=6) rfl,(R1.ext hw).cell (j:=7) rfl,(R1.ext hw).cell (j:=8) rfl,(R1.ext hw).cell (j:=9) rfl⟩
  have HR1:=Lib.hid R1
  have KE1:Hid (∀W,Below w3.heap.size w3 W→∀S vch,Ints S W vch exZ→Calls Tryz.prog 14 #[.agg #[.int .i64 s.p.n,.int .i64 s.p.ins,.int .i64 s.p.outs,.slice ca s.p.cs.length cc,.int .i64 s.p.an,.slice sa s.p.st.length sc,.int .i64 s.p.rounds,.int .i64 s.tn,.slice ta s.tab.length tc,.slice xa s.ex.length xc],.agg #[vch]] W (Post W (EarlyR W.heap.size s exZ))):=Lib.hid fun W hW S vch hi=>KE.out W vch exZ S (ext_trans H23.out hW) hi
  clear R1 hx2 hb1
  refine region_E (fun w':World=>w'.cell? ⟨B1,0,none⟩=some (.int .i64 s.p.n)∧w'.cell? ⟨B1,1,none⟩=some (.int .i64 s.p.ins)∧w'.cell? ⟨B1,2,none⟩=some (.int .i64 s.p.outs)∧w'.cell? ⟨B1,3,none⟩=some (.slice ca s.p.cs.length cc)∧w'.cell? ⟨B1,4,none⟩=some (.int .i64 s.p.an)∧w'.cell? ⟨B1,5,none⟩=some (.slice sa s.p.st.length sc)∧w'.cell? ⟨B1,6,none⟩=some (.int .i64 s.p.rounds)∧w'.cell? ⟨B1,7,none⟩=some (.int .i64 s.tn)∧w'.cell? ⟨B1,8,none⟩=some (.slice ta s.tab.length tc)∧w'.cell? ⟨B1,9,none⟩=some (.slice xa s.ex.length xc)) (fun i=>false) (by kernel_rfl) ?_ (fun hHeld=>?_)
  · exact KEEP.out _ (drewN_below _ _ 1)
  have d0:Below w3.heap.size w3 w3.drew:=drewN_below _ _ 1
  obtain ⟨w9,hw9⟩:∃w9,w9=w3.drew:=⟨_,rfl⟩
  rw[←hw9]at d0 hHeld ⊢
  clear hw9
  refine anyE_take 0 (v:=?_) rfl (by kernel_rfl) (fun _ _ _ h=>h) (by rfl) ?hy0a hHeld ?rest0a
  case hy0a=>(intro w hSw;(try dsimp only at hSw);go_simp;try with_reducible rfl)
  try simp only[Act.put,zsa,zsz,zss]
  refine anyE_two 1 7 rfl rfl (by kernel_rfl) (fun K hK=>?_) (fun K hK=>?_)
  · go_simp
    refine hK.out _ _ (fun _=>KEEP.out _ (ext_alloc' d0 _)) (fun hHeld=>?_);replace hHeld:=hHeld rfl
    clear hK K
    try simp only[Act.put,zsa,zsz,zss]
    have iz:=zero_row w9
    have dA:=ext_alloc' d0 (.cells (madeCells #[.int .i64 0] 8) 3)
    have hzl:w9.heap.size<(w9.alloc (.cells (madeCells #[.int .i64 0] 8) 3)).heap.size:=by simp
    obtain ⟨wA,hwA⟩:∃wA,wA=w9.alloc (.cells (madeCells #[.int .i64 0] 8) 3):=⟨_,rfl⟩
    rw[←hwA]at iz dA hzl hHeld ⊢
    clear hwA
    refine anyE_take 2 (v:=?_) rfl (by kernel_rfl) (fun _ _ _ h=>h) (by rfl) ?hy2b hHeld ?rest2b
    case hy2b=>(intro w hSw;(try dsimp only at hSw);go_simp;try with_reducible rfl)
    try simp only[Act.put,zsa,zsz,zss]
    refine anyE_two 3 7 rfl rfl (by kernel_rfl) (fun K hK=>?_) (fun K hK=>?_)
    · (go_simp;go_at_call 14;refine (KE1.out _ dA _ _ iz).mono ?_;rintro _ w4 ⟨_,rfl,hb4,hEE⟩;obtain ⟨zv,rfl,zu,rfl,hz⟩:=EZ.out _ _ _ hEE;have y4:=ext_trans dA hb4;obtain ⟨za,zc,rfl,_⟩:=hz.form)
      refine hK.out _ _ (fun _=>KEEP.out _ y4) (fun hHeld=>?_);replace hHeld:=hHeld rfl
      clear hK K
      try simp only[Act.put,zsa,zsz,zss]
      refine anyE_take 4 (v:=?_) rfl (by kernel_rfl) (fun _ _ _ h=>h) (by rfl) ?hy4x1 hHeld ?rest4x1
      case hy4x1=>(intro w hSw;(try dsimp only at hSw);go_simp;try with_reducible rfl)
      try simp only[Act.put,zsa,zsz,zss]
      refine anyE_take 5 (v:=?_) rfl (by kernel_rfl) (fun _ _ _ h=>h) (by rfl) ?hy5x1 hHeld ?rest5x1
      case hy5x1=>(intro w hSw;(try dsimp only at hSw);go_simp;try with_reducible rfl)
      try simp only[Act.put,zsa,zsz,zss]
      refine anyE_take 6 (v:=?_) rfl (by kernel_rfl) (fun _ _ _ h=>h) (by rfl) ?hy6x1 hHeld ?rest6x1
      case hy6x1=>(intro w hSw;(try dsimp only at hSw);go_simp;try with_reducible rfl)
      try simp only[Act.put,zsa,zsz,zss]
      refine anyE_one 7 rfl (by kernel_rfl) (fun K hK=>?_)
      go_simp
      refine hK.out _ _ (fun _=>KEEP.out _ (ext_alloc' y4 _)) (fun hHeld=>?_);replace hHeld:=hHeld rfl
      clear hK K
      try simp only[Act.put,zsa,zsz,zss]
      refine anyE_one 8 rfl (by kernel_rfl) (fun K hK=>?_)
      go_simp
      refine hK.out _ _ (fun _=>KEEP.out _ (ext_alloc' y4 _)) (fun hHeld=>?_);replace hHeld:=hHeld rfl
      clear hK K
      try simp only[Act.put,zsa,zsz,zss]
      refine anyE_take 9 (v:=?_) rfl (by kernel_rfl) (fun _ _ _ h=>h) (by rfl) ?hy9x1 hHeld ?rest9x1
      case hy9x1=>(intro w hSw;(try dsimp only at hSw);go_simp;try with_reducible rfl)
      try simp only[Act.put,zsa,zsz,zss]
      refine anyE_done (by kernel_rfl) ?_ _
      have R3:=row_new w4 [.slice za exZ.length zc] 38
      have y5:=ext_alloc' y4 (.cells #[.slice za exZ.length zc] 38)
      have hz5:=hz.ext (ext_alloc w4 (.cells #[.slice za exZ.length zc] 38))
      obtain ⟨B3,hB3⟩:∃B3,B3=w4.heap.size:=⟨_,rfl⟩
      obtain ⟨w5,hw5⟩:∃w5,w5=w4.alloc (.cells #[.slice za exZ.length zc] 38):=⟨_,rfl⟩
      rw[←hw5]at R3 y5 hz5 ⊢
      rw[←hB3]at R3 ⊢
      clear hw5 hB3 y4 hz hb4 hEE iz dA hzl d0
      clear hHeld KEEP
      have HZ5:=Lib.hid hz5
      have HY5:=Lib.hid (ext_trans H23.out y5)
      have HXX:=Lib.hid (ext_trans HX.out y5)
      have R1:=HR1.out.ext y5
      clear HR1 y5 hz5 HX
      have t0:=R1.cell (j:=0) rfl
      have t1:=R1.cell (j:=1) rfl
      have t2:=R1.cell (j:=2) rfl
      have t3:=R1.cell (j:=3) rfl
      have t4:=R1.cell (j:=4) rfl
      have t5:=R1.cell (j:=5) rfl
      have t6:=R1.cell (j:=6) rfl
      have t7:=R1.cell (j:=7) rfl
      have t8:=R1.cell (j:=8) rfl
      have t9:=R1.cell (j:=9) rfl
      have r3:=R3.cell (j:=0) rfl
      have l1:=R1.lt
      have l3:=R3.lt
      go_wp2_with fail
      refine (KM.out _ _ _ HY5.out HZ5.out).mono ?_
      rintro _ w6 ⟨_,rfl,hb6,rfl⟩
      replace R1:=R1.ext hb6
      replace R3:=R3.ext hb6
      replace HZ5:=Lib.hid (HZ5.out.ext hb6)
      replace HY5:=Lib.hid (ext_trans HY5.out hb6)
      replace HXX:=Lib.hid (ext_trans HXX.out hb6)
      clear t0 t1 t2 t3 t4 t5 t6 t7 t8 t9 r3 l1 l3 hb6
      have t0:=R1.cell (j:=0) rfl
      have t1:=R1.cell (j:=1) rfl
      have t2:=R1.cell (j:=2) rfl
      have t3:=R1.cell (j:=3) rfl
      have t4:=R1.cell (j:=4) rfl
      have t5:=R1.cell (j:=5) rfl
      have t6:=R1.cell (j:=6) rfl
      have t7:=R1.cell (j:=7) rfl
      have t8:=R1.cell (j:=8) rfl
      have t9:=R1.cell (j:=9) rfl
      have r3:=R3.cell (j:=0) rfl
      have l1:=R1.lt
      have l3:=R3.lt
      go_wp2_with fail
      refine (KZ.out _ _ _ HY5.out HZ5.out).mono ?_
      rintro _ w7 ⟨_,rfl,hb7,rfl⟩
      replace R1:=R1.ext hb7
      replace R3:=R3.ext hb7
      replace HZ5:=Lib.hid (HZ5.out.ext hb7)
      replace HY5:=Lib.hid (ext_trans HY5.out hb7)
      replace HXX:=Lib.hid (ext_trans HXX.out hb7)
      clear t0 t1 t2 t3 t4 t5 t6 t7 t8 t9 r3 l1 l3 hb7
      have HR3:=Lib.hid R3
      have HR1:=Lib.hid R1
      clear R3 R1
      go_wp2
      refine region_E (fun w':World=>w'.cell? ⟨B3,0,none⟩=some (.slice za exZ.length zc)) (fun i=>false) (by kernel_rfl) ?_ (fun hHeld=>?_)
      · exact (HR3.out.ext (drewN_below _ _ 1)).cell (j:=0) rfl
      refine anyE_take 0 (v:=?_) rfl (by kernel_rfl) (fun _ _ _ h=>h) (by rfl) ?hy0Am hHeld ?rest0Am
      case hy0Am=>(intro w hSw;(try dsimp only at hSw);go_simp;try with_reducible rfl)
      try simp only[Act.put,zsa,zsz,zss]
      refine anyE_take 1 (v:=?_) rfl (by kernel_rfl) (fun _ _ _ h=>h) (by rfl) ?hy1Am hHeld ?rest1Am
      case hy1Am=>(intro w hSw;(try dsimp only at hSw);go_simp;try with_reducible rfl)
      try simp only[Act.put,zsa,zsz,zss]
      refine anyE_take 2 (v:=?_) rfl (by kernel_rfl) (fun _ _ _ h=>h) (by rfl) ?hy2Am hHeld ?rest2Am
      case hy2Am=>(intro w hSw;(try dsimp only at hSw);go_simp;try with_reducible rfl)
      try simp only[Act.put,zsa,zsz,zss]
      refine anyE_take 3 (v:=?_) rfl (by kernel_rfl) (fun _ _ _ h=>h) (by rfl) ?hy3Am hHeld ?rest3Am
      case hy3Am=>(intro w hSw;(try dsimp only at hSw);go_simp;try with_reducible rfl)
      try simp only[Act.put,zsa,zsz,zss]
      refine anyE_take 4 (v:=?_) rfl (by kernel_rfl) (fun _ _ _ h=>h) (by rfl) ?hy4Am hHeld ?rest4Am
      case hy4Am=>(intro w hSw;(try dsimp only at hSw);go_simp;try with_reducible rfl)
      try simp only[Act.put,zsa,zsz,zss]
      refine anyE_take 5 (v:=?_) rfl (by kernel_rfl) (fun _ _ _ h=>h) (by rfl) ?hy5Am hHeld ?rest5Am
      case hy5Am=>(intro w hSw;(try dsimp only at hSw);go_simp;try with_reducible rfl)
      try simp only[Act.put,zsa,zsz,zss]
      refine anyE_take 6 (v:=?_) rfl (by kernel_rfl) (fun _ _ _ h=>h) (by rfl) ?hy6Am hHeld ?rest6Am
      case hy6Am=>(intro w hSw;(try dsimp only at hSw);go_simp;try with_reducible rfl)
      try simp only[Act.put,zsa,zsz,zss]
      refine anyE_take 7 (v:=?_) rfl (by kernel_rfl) (fun _ _ _ h=>h) (by rfl) ?hy7Am hHeld ?rest7Am
      case hy7Am=>(intro w hSw;(try dsimp only at hSw);go_simp;try with_reducible rfl)
      try simp only[Act.put,zsa,zsz,zss]
      refine anyE_take 8 (v:=?_) rfl (by kernel_rfl) (fun _ _ _ h=>h) (by rfl) ?hy8Am hHeld ?rest8Am
      case hy8Am=>(intro w hSw;(try dsimp only at hSw);go_simp;try with_reducible rfl)
      try simp only[Act.put,zsa,zsz,zss]
      refine anyE_take 9 (v:=?_) rfl (by kernel_rfl) (fun _ _ _ h=>h) (by rfl) ?hy9Am hHeld ?rest9Am
      case hy9Am=>(intro w hSw;(try dsimp only at hSw);go_simp;try with_reducible rfl)
      try simp only[Act.put,zsa,zsz,zss]
      refine anyE_take 10 (v:=?_) rfl (by kernel_rfl) (fun _ _ _ h=>h) (by rfl) ?hy10Am hHeld ?rest10Am
      case hy10Am=>(intro w hSw;(try dsimp only at hSw);go_simp;try with_reducible rfl)
      try simp only[Act.put,zsa,zsz,zss]
      refine anyE_one 11 rfl (by kernel_rfl) (fun K hK=>?_)
      go_simp
      refine hK.out _ _ (fun _=>(HR3.out.ext (ext_alloc' (drewN_below _ _ 1) _)).cell (j:=0) rfl) (fun hHeld=>?_);replace hHeld:=hHeld rfl
      clear hK K
      try simp only[Act.put,zsa,zsz,zss]
      refine anyE_one 12 rfl (by kernel_rfl) (fun K hK=>?_)
      (go_simp;go_at_call 32;refine (equal_same (HZ5.out.ext (ext_alloc' (drewN_below w7.heap.size w7 1) (.cells (madeCells #[.int .i64 0] 8) 3))) (zero_row w7.drew)).mono ?_;rintro _ w8 ⟨_,rfl,hb8,rfl⟩;have y8:=ext_trans (ext_alloc' (drewN_below w7.heap.size w7 1) (.cells (madeCells #[.int .i64 0] 8) 3)) hb8;clear hb8)
      refine hK.out _ _ (fun _=>(HR3.out.ext y8).cell (j:=0) rfl) (fun hHeld=>?_);replace hHeld:=hHeld rfl
      clear hK K
      try simp only[Act.put,zsa,zsz,zss]
      refine anyE_take 13 (v:=?_) rfl (by kernel_rfl) (fun _ _ _ h=>h) (by rfl) ?hy13An hHeld ?rest13An
      case hy13An=>(intro w hSw;(try dsimp only at hSw);go_simp;try with_reducible rfl)
      try simp only[Act.put,zsa,zsz,zss]
      refine anyE_take 14 (v:=?_) rfl (by kernel_rfl) (fun _ _ _ h=>h) (by rfl) ?hy14An hHeld ?rest14An
      case hy14An=>(intro w hSw;(try dsimp only at hSw);go_simp;try with_reducible rfl)
      try simp only[Act.put,zsa,zsz,zss]
      refine anyE_take 15 (v:=?_) rfl (by kernel_rfl) (fun _ _ _ h=>h) (by rfl) ?hy15An hHeld ?rest15An
      case hy15An=>(intro w hSw;(try dsimp only at hSw);go_simp;try with_reducible rfl)
      try simp only[Act.put,zsa,zsz,zss]
      refine anyE_take 16 (v:=?_) rfl (by kernel_rfl) (fun _ _ _ h=>h) (by rfl) ?hy16An hHeld ?rest16An
      case hy16An=>(intro w hSw;(try dsimp only at hSw);go_simp;try with_reducible rfl)
      try simp only[Act.put,zsa,zsz,zss]
      refine anyE_take 17 (v:=?_) rfl (by kernel_rfl) (fun _ _ _ h=>h) (by rfl) ?hy17An hHeld ?rest17An
      case hy17An=>(intro w hSw;(try dsimp only at hSw);go_simp;try with_reducible rfl)
      try simp only[Act.put,zsa,zsz,zss]
      refine anyE_take 18 (v:=?_) rfl (by kernel_rfl) (fun _ _ _ h=>h) (by rfl) ?hy18An hHeld ?rest18An
      case hy18An=>(intro w hSw;(try dsimp only at hSw);go_simp;try with_reducible rfl)
      try simp only[Act.put,zsa,zsz,zss]
      refine anyE_take 19 (v:=?_) rfl (by kernel_rfl) (fun _ _ _ h=>h) (by rfl) ?hy19An hHeld ?rest19An
      case hy19An=>(intro w hSw;(try dsimp only at hSw);go_simp;try with_reducible rfl)
      try simp only[Act.put,zsa,zsz,zss]
      refine anyE_take 20 (v:=?_) rfl (by kernel_rfl) (fun _ _ _ h=>h) (by rfl) ?hy20An hHeld ?rest20An
      case hy20An=>(intro w hSw;(try dsimp only at hSw);go_simp;try with_reducible rfl)
      try simp only[Act.put,zsa,zsz,zss]
      refine anyE_take 21 (v:=?_) rfl (by kernel_rfl) (fun _ _ _ h=>h) (by rfl) ?hy21An hHeld ?rest21An
      case hy21An=>(intro w hSw;(try dsimp only at hSw);go_simp;try with_reducible rfl)
      try simp only[Act.put,zsa,zsz,zss]
      refine anyE_take 22 (v:=?_) rfl (by kernel_rfl) (fun _ _ _ h=>h) (by rfl) ?hy22An hHeld ?rest22An
      case hy22An=>(intro w hSw;(try dsimp only at hSw);go_simp;try with_reducible rfl)
      try simp only[Act.put,zsa,zsz,zss]
      refine anyE_take 23 (v:=?_) rfl (by kernel_rfl) (fun _ _ _ h=>h) (by rfl) ?hy23An hHeld ?rest23An
      case hy23An=>(intro w hSw;(try dsimp only at hSw);go_simp;try with_reducible rfl)
      try simp only[Act.put,zsa,zsz,zss]
      refine anyE_take 24 (v:=?_) rfl (by kernel_rfl) (fun _ _ _ h=>h) (by rfl) ?hy24An hHeld ?rest24An
      case hy24An=>(intro w hSw;(try dsimp only at hSw);go_simp;try with_reducible rfl)
      try simp only[Act.put,zsa,zsz,zss]
      refine anyE_take 25 (v:=?_) rfl (by kernel_rfl) (fun _ _ _ h=>h) (by rfl) ?hy25An hHeld ?rest25An
      case hy25An=>(intro w hSw;(try dsimp only at hSw);go_simp;try with_reducible rfl)
      try simp only[Act.put,zsa,zsz,zss]
      refine anyE_take 26 (v:=?_) rfl (by kernel_rfl) (fun _ _ _ h=>h) (by rfl) ?hy26An hHeld ?rest26An
      case hy26An=>(intro w hSw;(try dsimp only at hSw);go_simp;try with_reducible rfl)
      try simp only[Act.put,zsa,zsz,zss]
      refine anyE_done (by kernel_rfl) ?_ _
      have R1:=HR1.out.ext y8
      have R3:=HR3.out.ext y8
      replace HY5:=Lib.hid (ext_trans HY5.out y8)
      replace HXX:=Lib.hid (ext_trans HXX.out y8)
      clear hHeld HR1 HR3 HZ5 y8 R3
      have t0:=R1.cell (j:=0) rfl
      have t1:=R1.cell (j:=1) rfl
      have t2:=R1.cell (j:=2) rfl
      have t3:=R1.cell (j:=3) rfl
      have t4:=R1.cell (j:=4) rfl
      have t5:=R1.cell (j:=5) rfl
      have t6:=R1.cell (j:=6) rfl
      have t7:=R1.cell (j:=7) rfl
      have t8:=R1.cell (j:=8) rfl
      have t9:=R1.cell (j:=9) rfl
      have l1:=R1.lt
      go_wp2_with fail
      have jo:=Row.ints (l:=exO) (row_new w8 [.int .i64 0,.int .i64 0,.int .i64 0,.int .i64 0,.int .i64 0,.int .i64 0,.int .i64 0,.int .i64 1] 3) (by decide) (by intro x hx;simp[exO]at hx;unfold WF;omega)
      have ea:=ext_alloc w8 (.cells #[.int .i64 0,.int .i64 0,.int .i64 0,.int .i64 0,.int .i64 0,.int .i64 0,.int .i64 0,.int .i64 1] 3)
      refine (KE.out _ _ _ _ (ext_trans HY5.out ea) jo).mono ?_
      rintro _ w10 ⟨_,rfl,hb10,hEE⟩
      obtain ⟨ov,rfl,ou,rfl,ho⟩:=EO.out _ _ _ hEE
      obtain ⟨oa,oc,rfl,_⟩:=ho.form
      have y10:=ext_trans ea hb10
      replace R1:=(R1.ext y10).alloc (.cells #[.slice oa exE.length oc] 38)
      have R11:=row_new w10 [.slice oa exE.length oc] 38
      have hx11:=ext_alloc' y10 (.cells #[.slice oa exE.length oc] 38)
      have HO5:=Lib.hid (ho.ext (ext_alloc w10 (.cells #[.slice oa exE.length oc] 38)))
      replace HY5:=Lib.hid (ext_trans HY5.out hx11)
      replace HXX:=Lib.hid (ext_trans HXX.out hx11)
      clear t0 t1 t2 t3 t4 t5 t6 t7 t8 t9 l1 jo ea hEE ho hb10 y10 hx11
      have t0:=R1.cell (j:=0) rfl
      have t1:=R1.cell (j:=1) rfl
      have t2:=R1.cell (j:=2) rfl
      have t3:=R1.cell (j:=3) rfl
      have t4:=R1.cell (j:=4) rfl
      have t5:=R1.cell (j:=5) rfl
      have t6:=R1.cell (j:=6) rfl
      have t7:=R1.cell (j:=7) rfl
      have t8:=R1.cell (j:=8) rfl
      have t9:=R1.cell (j:=9) rfl
      have r3:=R11.cell (j:=0) rfl
      have l1:=R1.lt
      have l3:=R11.lt
      go_wp2_with fail
      refine (KO.out _ _ _ HY5.out HO5.out).mono ?_
      rintro _ w12 ⟨_,rfl,hb12,rfl⟩
      replace R1:=R1.ext hb12
      replace R11:=R11.ext hb12
      replace HO5:=Lib.hid (HO5.out.ext hb12)
      replace HY5:=Lib.hid (ext_trans HY5.out hb12)
      replace HXX:=Lib.hid (ext_trans HXX.out hb12)
      clear t0 t1 t2 t3 t4 t5 t6 t7 t8 t9 r3 l1 l3 hb12
      have t0:=R1.cell (j:=0) rfl
      have t1:=R1.cell (j:=1) rfl
      have t2:=R1.cell (j:=2) rfl
      have t3:=R1.cell (j:=3) rfl
      have t4:=R1.cell (j:=4) rfl
      have t5:=R1.cell (j:=5) rfl
      have t6:=R1.cell (j:=6) rfl
      have t7:=R1.cell (j:=7) rfl
      have t8:=R1.cell (j:=8) rfl
      have t9:=R1.cell (j:=9) rfl
      have r3:=R11.cell (j:=0) rfl
      have l1:=R1.lt
      have l3:=R11.lt
      go_wp2_with fail
      refine (KD.out _ _ _ HY5.out HO5.out).mono ?_
      rintro _ w13 ⟨_,rfl,hb13,du,rfl,hd⟩
      obtain ⟨da,dc,rfl,_⟩:=hd.form
      replace R11:=R11.ext hb13
      replace HO5:=Lib.hid (HO5.out.ext hb13)
      replace HXX:=Lib.hid (ext_trans HXX.out hb13)
      have HD5:=Lib.hid hd
      clear t0 t1 t2 t3 t4 t5 t6 t7 t8 t9 r3 l1 l3 hb13 R1 hd HY5
      have r3:=R11.cell (j:=0) rfl
      have l3:=R11.lt
      have je:=Row.ints (l:=exE) (row_new w13 [.int .i64 (-1),.int .i64 0,.int .i64 0,.int .i64 0,.int .i64 0,.int .i64 0,.int .i64 0,.int .i64 1] 3) (by decide) (by intro x hx;simp[exE]at hx;unfold WF;omega)
      have eb:Below w13.heap.size w13 (w13.alloc (.cells #[.int .i64 (-1),.int .i64 0,.int .i64 0,.int .i64 0,.int .i64 0,.int .i64 0,.int .i64 0,.int .i64 1] 3)):=ext_alloc w13 _
      have KQ:=Lib.hid (equal_same (HO5.out.ext eb) je)
      have HEB:=Lib.hid eb
      clear je eb
      go_wp2_with fail
      refine KQ.out.mono ?_
      rintro _ w14 ⟨_,rfl,hb14,rfl⟩
      have y14:=ext_trans HEB.out hb14
      have jd:=Row.ints (l:=[1,0]) (row_new w14 [.int .i64 1,.int .i64 0] 3) (by decide) (by intro x hx;simp at hx;unfold WF;omega)
      have ec:Below w13.heap.size w13 (w14.alloc (.cells #[.int .i64 1,.int .i64 0] 3)):=ext_alloc' y14 _
      have KQ2:=Lib.hid (equal_same (HD5.out.ext ec) jd)
      have HEC:=Lib.hid (ext_trans HXX.out ec)
      clear jd ec y14 hb14 KQ r3 l3 R11 HEB
      go_wp2_with fail
      refine KQ2.out.mono ?_
      rintro _ w15 ⟨_,rfl,hb15,rfl⟩
      have HEND:=Lib.hid (ext_trans HEC.out hb15)
      clear HO5 HD5 KQ2 hb15 HXX HEC
      go_wp2
      go_ret
      exact .mk HEND.out rfl
    · go_simp
      refine hK.out _ _ (fun _=>KEEP.out _ (ext_alloc' dA _)) (fun hHeld=>?_);replace hHeld:=hHeld rfl
      clear hK K
      try simp only[Act.put,zsa,zsz,zss]
      have RN:=row_new wA [.slice none 0 0] 38
      have dN:=ext_alloc' dA (.cells #[.slice none 0 0] 38)
      have hNl:w3.heap.size≤wA.heap.size:=(dA).size
      have eN:=ext_alloc wA (.cells #[.slice none 0 0] 38)
      obtain ⟨B3,hB3⟩:∃B3,B3=wA.heap.size:=⟨_,rfl⟩
      obtain ⟨wN,hwN⟩:∃wN,wN=wA.alloc (.cells #[.slice none 0 0] 38):=⟨_,rfl⟩
      rw[←hwN]at RN dN eN hHeld ⊢
      rw[←hB3]at RN hNl ⊢
      clear hwN hB3
      have iz2:=iz.ext eN
      refine anyE_one 3 rfl (by kernel_rfl) (fun K hK=>?_)
      (go_simp;go_at_call 14;refine (KE1.out _ dN _ _ iz2).mono ?_;rintro _ w4 ⟨_,rfl,hb4,hEE⟩;obtain ⟨zv,rfl,zu,rfl,hz⟩:=EZ.out _ _ _ hEE;have y4:=ext_trans dN hb4;obtain ⟨za,zc,rfl,_⟩:=hz.form)
      refine hK.out _ _ (fun _=>KEEP.out _ y4) (fun hHeld=>?_);replace hHeld:=hHeld rfl
      clear hK K
      try simp only[Act.put,zsa,zsz,zss]
      have hb4s:=hb4
      have hsN:B3<wN.heap.size:=RN.lt
      refine anyE_take 4 (v:=?_) rfl (by kernel_rfl) (fun _ _ _ h=>h) (by rfl) ?hy4x2 hHeld ?rest4x2
      case hy4x2=>(intro w hSw;(try dsimp only at hSw);go_simp;try with_reducible rfl)
      try simp only[Act.put,zsa,zsz,zss]
      refine anyE_take 5 (v:=?_) rfl (by kernel_rfl) (fun _ _ _ h=>h) (by rfl) ?hy5x2 hHeld ?rest5x2
      case hy5x2=>(intro w hSw;(try dsimp only at hSw);go_simp;try with_reducible rfl)
      try simp only[Act.put,zsa,zsz,zss]
      refine anyE_take 6 (v:=?_) rfl (by kernel_rfl) (fun _ _ _ h=>h) (by rfl) ?hy6x2 hHeld ?rest6x2
      case hy6x2=>(intro w hSw;(try dsimp only at hSw);go_simp;try with_reducible rfl)
      try simp only[Act.put,zsa,zsz,zss]
      have RN4:=RN.ext hb4s
      have c0:=RN4.cell (j:=0) rfl
      have f0:=RN4.free 0
      have l0:=RN4.lt
      have hB13:B1<B3:=Nat.lt_of_lt_of_le HR1.out.lt hNl
      have R3:=RN4.set 0 (.slice za exZ.length zc)
      have y5:=y4.setCell (p:=⟨B3,0,none⟩) hNl (.slice za exZ.length zc)
      have hz5:=(hz.agree (w':=w4.setCell ⟨B3,0,none⟩ (.slice za exZ.length zc)) (.of_grown (grownBy_setCell _ _ _ _) fun b hb e=>by injection e with e;omega))
      refine anyE_one 8 rfl (by kernel_rfl) (fun K hK=>?_)
      go_simp
      refine hK.out _ _ (fun _=>by have RR:=(HR1.out.ext y4).grown (grownBy_setCell w4 B3 0 (.slice za exZ.length zc)) (fun e=>by injection e with e;omega);exact ⟨RR.cell (j:=0) rfl,RR.cell (j:=1) rfl,RR.cell (j:=2) rfl,RR.cell (j:=3) rfl,RR.cell (j:=4) rfl,RR.cell (j:=5) rfl,RR.cell (j:=6) rfl,RR.cell (j:=7) rfl,RR.cell (j:=8) rfl,RR.cell (j:=9) rfl⟩) (fun hHeld=>?_);replace hHeld:=hHeld rfl
      clear hK K
      try simp only[Act.put,zsa,zsz,zss]
      refine anyE_take 9 (v:=?_) rfl (by kernel_rfl) (fun _ _ _ h=>h) (by rfl) ?hy9x2 hHeld ?rest9x2
      case hy9x2=>(intro w hSw;(try dsimp only at hSw);go_simp;try with_reducible rfl)
      try simp only[Act.put,zsa,zsz,zss]
      refine anyE_done (by kernel_rfl) ?_ _
      obtain ⟨w5,hw5⟩:∃w5,w5=w4.setCell ⟨B3,0,none⟩ (.slice za exZ.length zc):=⟨_,rfl⟩
      rw[←hw5]at R3 y5 hz5 ⊢
      clear hw5 c0 f0 l0 RN4 RN y4 hz hb4s
      clear hb4 hEE iz iz2 dA dN eN hzl d0 hB13 hNl hsN
      clear hHeld KEEP
      have HZ5:=Lib.hid hz5
      have HY5:=Lib.hid (ext_trans H23.out y5)
      have HXX:=Lib.hid (ext_trans HX.out y5)
      have R1:=HR1.out.ext y5
      clear HR1 y5 hz5 HX
      have t0:=R1.cell (j:=0) rfl
      have t1:=R1.cell (j:=1) rfl
      have t2:=R1.cell (j:=2) rfl
      have t3:=R1.cell (j:=3) rfl
      have t4:=R1.cell (j:=4) rfl
      have t5:=R1.cell (j:=5) rfl
      have t6:=R1.cell (j:=6) rfl
      have t7:=R1.cell (j:=7) rfl
      have t8:=R1.cell (j:=8) rfl
      have t9:=R1.cell (j:=9) rfl
      have r3:=R3.cell (j:=0) rfl
      have l1:=R1.lt
      have l3:=R3.lt
      go_wp2_with fail
      refine (KM.out _ _ _ HY5.out HZ5.out).mono ?_
      rintro _ w6 ⟨_,rfl,hb6,rfl⟩
      replace R1:=R1.ext hb6
      replace R3:=R3.ext hb6
      replace HZ5:=Lib.hid (HZ5.out.ext hb6)
      replace HY5:=Lib.hid (ext_trans HY5.out hb6)
      replace HXX:=Lib.hid (ext_trans HXX.out hb6)
      clear t0 t1 t2 t3 t4 t5 t6 t7 t8 t9 r3 l1 l3 hb6
      have t0:=R1.cell (j:=0) rfl
      have t1:=R1.cell (j:=1) rfl
      have t2:=R1.cell (j:=2) rfl
      have t3:=R1.cell (j:=3) rfl
      have t4:=R1.cell (j:=4) rfl
      have t5:=R1.cell (j:=5) rfl
      have t6:=R1.cell (j:=6) rfl
      have t7:=R1.cell (j:=7) rfl
      have t8:=R1.cell (j:=8) rfl
      have t9:=R1.cell (j:=9) rfl
      have r3:=R3.cell (j:=0) rfl
      have l1:=R1.lt
      have l3:=R3.lt
      go_wp2_with fail
      refine (KZ.out _ _ _ HY5.out HZ5.out).mono ?_
      rintro _ w7 ⟨_,rfl,hb7,rfl⟩
      replace R1:=R1.ext hb7
      replace R3:=R3.ext hb7
      replace HZ5:=Lib.hid (HZ5.out.ext hb7)
      replace HY5:=Lib.hid (ext_trans HY5.out hb7)
      replace HXX:=Lib.hid (ext_trans HXX.out hb7)
      clear t0 t1 t2 t3 t4 t5 t6 t7 t8 t9 r3 l1 l3 hb7
      have HR3:=Lib.hid R3
      have HR1:=Lib.hid R1
      clear R3 R1
      go_wp2
      refine region_E (fun w':World=>w'.cell? ⟨B3,0,none⟩=some (.slice za exZ.length zc)) (fun i=>false) (by kernel_rfl) ?_ (fun hHeld=>?_)
      · exact (HR3.out.ext (drewN_below _ _ 1)).cell (j:=0) rfl
      refine anyE_take 0 (v:=?_) rfl (by kernel_rfl) (fun _ _ _ h=>h) (by rfl) ?hy0Bm hHeld ?rest0Bm
      case hy0Bm=>(intro w hSw;(try dsimp only at hSw);go_simp;try with_reducible rfl)
      try simp only[Act.put,zsa,zsz,zss]
      refine anyE_take 1 (v:=?_) rfl (by kernel_rfl) (fun _ _ _ h=>h) (by rfl) ?hy1Bm hHeld ?rest1Bm
      case hy1Bm=>(intro w hSw;(try dsimp only at hSw);go_simp;try with_reducible rfl)
      try simp only[Act.put,zsa,zsz,zss]
      refine anyE_take 2 (v:=?_) rfl (by kernel_rfl) (fun _ _ _ h=>h) (by rfl) ?hy2Bm hHeld ?rest2Bm
      case hy2Bm=>(intro w hSw;(try dsimp only at hSw);go_simp;try with_reducible rfl)
      try simp only[Act.put,zsa,zsz,zss]
      refine anyE_take 3 (v:=?_) rfl (by kernel_rfl) (fun _ _ _ h=>h) (by rfl) ?hy3Bm hHeld ?rest3Bm
      case hy3Bm=>(intro w hSw;(try dsimp only at hSw);go_simp;try with_reducible rfl)
      try simp only[Act.put,zsa,zsz,zss]
      refine anyE_take 4 (v:=?_) rfl (by kernel_rfl) (fun _ _ _ h=>h) (by rfl) ?hy4Bm hHeld ?rest4Bm
      case hy4Bm=>(intro w hSw;(try dsimp only at hSw);go_simp;try with_reducible rfl)
      try simp only[Act.put,zsa,zsz,zss]
      refine anyE_take 5 (v:=?_) rfl (by kernel_rfl) (fun _ _ _ h=>h) (by rfl) ?hy5Bm hHeld ?rest5Bm
      case hy5Bm=>(intro w hSw;(try dsimp only at hSw);go_simp;try with_reducible rfl)
      try simp only[Act.put,zsa,zsz,zss]
      refine anyE_take 6 (v:=?_) rfl (by kernel_rfl) (fun _ _ _ h=>h) (by rfl) ?hy6Bm hHeld ?rest6Bm
      case hy6Bm=>(intro w hSw;(try dsimp only at hSw);go_simp;try with_reducible rfl)
      try simp only[Act.put,zsa,zsz,zss]
      refine anyE_take 7 (v:=?_) rfl (by kernel_rfl) (fun _ _ _ h=>h) (by rfl) ?hy7Bm hHeld ?rest7Bm
      case hy7Bm=>(intro w hSw;(try dsimp only at hSw);go_simp;try with_reducible rfl)
      try simp only[Act.put,zsa,zsz,zss]
      refine anyE_take 8 (v:=?_) rfl (by kernel_rfl) (fun _ _ _ h=>h) (by rfl) ?hy8Bm hHeld ?rest8Bm
      case hy8Bm=>(intro w hSw;(try dsimp only at hSw);go_simp;try with_reducible rfl)
      try simp only[Act.put,zsa,zsz,zss]
      refine anyE_take 9 (v:=?_) rfl (by kernel_rfl) (fun _ _ _ h=>h) (by rfl) ?hy9Bm hHeld ?rest9Bm
      case hy9Bm=>(intro w hSw;(try dsimp only at hSw);go_simp;try with_reducible rfl)
      try simp only[Act.put,zsa,zsz,zss]
      refine anyE_take 10 (v:=?_) rfl (by kernel_rfl) (fun _ _ _ h=>h) (by rfl) ?hy10Bm hHeld ?rest10Bm
      case hy10Bm=>(intro w hSw;(try dsimp only at hSw);go_simp;try with_reducible rfl)
      try simp only[Act.put,zsa,zsz,zss]
      refine anyE_one 11 rfl (by kernel_rfl) (fun K hK=>?_)
      go_simp
      refine hK.out _ _ (fun _=>(HR3.out.ext (ext_alloc' (drewN_below _ _ 1) _)).cell (j:=0) rfl) (fun hHeld=>?_);replace hHeld:=hHeld rfl
      clear hK K
      try simp only[Act.put,zsa,zsz,zss]
      refine anyE_one 12 rfl (by kernel_rfl) (fun K hK=>?_)
      (go_simp;go_at_call 32;refine (equal_same (HZ5.out.ext (ext_alloc' (drewN_below w7.heap.size w7 1) (.cells (madeCells #[.int .i64 0] 8) 3))) (zero_row w7.drew)).mono ?_;rintro _ w8 ⟨_,rfl,hb8,rfl⟩;have y8:=ext_trans (ext_alloc' (drewN_below w7.heap.size w7 1) (.cells (madeCells #[.int .i64 0] 8) 3)) hb8;clear hb8)
      refine hK.out _ _ (fun _=>(HR3.out.ext y8).cell (j:=0) rfl) (fun hHeld=>?_);replace hHeld:=hHeld rfl
      clear hK K
      try simp only[Act.put,zsa,zsz,zss]
      refine anyE_take 13 (v:=?_) rfl (by kernel_rfl) (fun _ _ _ h=>h) (by rfl) ?hy13Bn hHeld ?rest13Bn
      case hy13Bn=>(intro w hSw;(try dsimp only at hSw);go_simp;try with_reducible rfl)
      try simp only[Act.put,zsa,zsz,zss]
      refine anyE_take 14 (v:=?_) rfl (by kernel_rfl) (fun _ _ _ h=>h) (by rfl) ?hy14Bn hHeld ?rest14Bn
      case hy14Bn=>(intro w hSw;(try dsimp only at hSw);go_simp;try with_reducible rfl)
      try simp only[Act.put,zsa,zsz,zss]
      refine anyE_take 15 (v:=?_) rfl (by kernel_rfl) (fun _ _ _ h=>h) (by rfl) ?hy15Bn hHeld ?rest15Bn
      case hy15Bn=>(intro w hSw;(try dsimp only at hSw);go_simp;try with_reducible rfl)
      try simp only[Act.put,zsa,zsz,zss]
      refine anyE_take 16 (v:=?_) rfl (by kernel_rfl) (fun _ _ _ h=>h) (by rfl) ?hy16Bn hHeld ?rest16Bn
      case hy16Bn=>(intro w hSw;(try dsimp only at hSw);go_simp;try with_reducible rfl)
      try simp only[Act.put,zsa,zsz,zss]
      refine anyE_take 17 (v:=?_) rfl (by kernel_rfl) (fun _ _ _ h=>h) (by rfl) ?hy17Bn hHeld ?rest17Bn
      case hy17Bn=>(intro w hSw;(try dsimp only at hSw);go_simp;try with_reducible rfl)
      try simp only[Act.put,zsa,zsz,zss]
      refine anyE_take 18 (v:=?_) rfl (by kernel_rfl) (fun _ _ _ h=>h) (by rfl) ?hy18Bn hHeld ?rest18Bn
      case hy18Bn=>(intro w hSw;(try dsimp only at hSw);go_simp;try with_reducible rfl)
      try simp only[Act.put,zsa,zsz,zss]
      refine anyE_take 19 (v:=?_) rfl (by kernel_rfl) (fun _ _ _ h=>h) (by rfl) ?hy19Bn hHeld ?rest19Bn
      case hy19Bn=>(intro w hSw;(try dsimp only at hSw);go_simp;try with_reducible rfl)
      try simp only[Act.put,zsa,zsz,zss]
      refine anyE_take 20 (v:=?_) rfl (by kernel_rfl) (fun _ _ _ h=>h) (by rfl) ?hy20Bn hHeld ?rest20Bn
      case hy20Bn=>(intro w hSw;(try dsimp only at hSw);go_simp;try with_reducible rfl)
      try simp only[Act.put,zsa,zsz,zss]
      refine anyE_take 21 (v:=?_) rfl (by kernel_rfl) (fun _ _ _ h=>h) (by rfl) ?hy21Bn hHeld ?rest21Bn
      case hy21Bn=>(intro w hSw;(try dsimp only at hSw);go_simp;try with_reducible rfl)
      try simp only[Act.put,zsa,zsz,zss]
      refine anyE_take 22 (v:=?_) rfl (by kernel_rfl) (fun _ _ _ h=>h) (by rfl) ?hy22Bn hHeld ?rest22Bn
      case hy22Bn=>(intro w hSw;(try dsimp only at hSw);go_simp;try with_reducible rfl)
      try simp only[Act.put,zsa,zsz,zss]
      refine anyE_take 23 (v:=?_) rfl (by kernel_rfl) (fun _ _ _ h=>h) (by rfl) ?hy23Bn hHeld ?rest23Bn
      case hy23Bn=>(intro w hSw;(try dsimp only at hSw);go_simp;try with_reducible rfl)
      try simp only[Act.put,zsa,zsz,zss]
      refine anyE_take 24 (v:=?_) rfl (by kernel_rfl) (fun _ _ _ h=>h) (by rfl) ?hy24Bn hHeld ?rest24Bn
      case hy24Bn=>(intro w hSw;(try dsimp only at hSw);go_simp;try with_reducible rfl)
      try simp only[Act.put,zsa,zsz,zss]
      refine anyE_take 25 (v:=?_) rfl (by kernel_rfl) (fun _ _ _ h=>h) (by rfl) ?hy25Bn hHeld ?rest25Bn
      case hy25Bn=>(intro w hSw;(try dsimp only at hSw);go_simp;try with_reducible rfl)
      try simp only[Act.put,zsa,zsz,zss]
      refine anyE_take 26 (v:=?_) rfl (by kernel_rfl) (fun _ _ _ h=>h) (by rfl) ?hy26Bn hHeld ?rest26Bn
      case hy26Bn=>(intro w hSw;(try dsimp only at hSw);go_simp;try with_reducible rfl)
      try simp only[Act.put,zsa,zsz,zss]
      refine anyE_done (by kernel_rfl) ?_ _
      have R1:=HR1.out.ext y8
      have R3:=HR3.out.ext y8
      replace HY5:=Lib.hid (ext_trans HY5.out y8)
      replace HXX:=Lib.hid (ext_trans HXX.out y8)
      clear hHeld HR1 HR3 HZ5 y8 R3
      have t0:=R1.cell (j:=0) rfl
      have t1:=R1.cell (j:=1) rfl
      have t2:=R1.cell (j:=2) rfl
      have t3:=R1.cell (j:=3) rfl
      have t4:=R1.cell (j:=4) rfl
      have t5:=R1.cell (j:=5) rfl
      have t6:=R1.cell (j:=6) rfl
      have t7:=R1.cell (j:=7) rfl
      have t8:=R1.cell (j:=8) rfl
      have t9:=R1.cell (j:=9) rfl
      have l1:=R1.lt
      go_wp2_with fail
      have jo:=Row.ints (l:=exO) (row_new w8 [.int .i64 0,.int .i64 0,.int .i64 0,.int .i64 0,.int .i64 0,.int .i64 0,.int .i64 0,.int .i64 1] 3) (by decide) (by intro x hx;simp[exO]at hx;unfold WF;omega)
      have ea:=ext_alloc w8 (.cells #[.int .i64 0,.int .i64 0,.int .i64 0,.int .i64 0,.int .i64 0,.int .i64 0,.int .i64 0,.int .i64 1] 3)
      refine (KE.out _ _ _ _ (ext_trans HY5.out ea) jo).mono ?_
      rintro _ w10 ⟨_,rfl,hb10,hEE⟩
      obtain ⟨ov,rfl,ou,rfl,ho⟩:=EO.out _ _ _ hEE
      obtain ⟨oa,oc,rfl,_⟩:=ho.form
      have y10:=ext_trans ea hb10
      replace R1:=(R1.ext y10).alloc (.cells #[.slice oa exE.length oc] 38)
      have R11:=row_new w10 [.slice oa exE.length oc] 38
      have hx11:=ext_alloc' y10 (.cells #[.slice oa exE.length oc] 38)
      have HO5:=Lib.hid (ho.ext (ext_alloc w10 (.cells #[.slice oa exE.length oc] 38)))
      replace HY5:=Lib.hid (ext_trans HY5.out hx11)
      replace HXX:=Lib.hid (ext_trans HXX.out hx11)
      clear t0 t1 t2 t3 t4 t5 t6 t7 t8 t9 l1 jo ea hEE ho hb10 y10 hx11
      have t0:=R1.cell (j:=0) rfl
      have t1:=R1.cell (j:=1) rfl
      have t2:=R1.cell (j:=2) rfl
      have t3:=R1.cell (j:=3) rfl
      have t4:=R1.cell (j:=4) rfl
      have t5:=R1.cell (j:=5) rfl
      have t6:=R1.cell (j:=6) rfl
      have t7:=R1.cell (j:=7) rfl
      have t8:=R1.cell (j:=8) rfl
      have t9:=R1.cell (j:=9) rfl
      have r3:=R11.cell (j:=0) rfl
      have l1:=R1.lt
      have l3:=R11.lt
      go_wp2_with fail
      refine (KO.out _ _ _ HY5.out HO5.out).mono ?_
      rintro _ w12 ⟨_,rfl,hb12,rfl⟩
      replace R1:=R1.ext hb12
      replace R11:=R11.ext hb12
      replace HO5:=Lib.hid (HO5.out.ext hb12)
      replace HY5:=Lib.hid (ext_trans HY5.out hb12)
      replace HXX:=Lib.hid (ext_trans HXX.out hb12)
      clear t0 t1 t2 t3 t4 t5 t6 t7 t8 t9 r3 l1 l3 hb12
      have t0:=R1.cell (j:=0) rfl
      have t1:=R1.cell (j:=1) rfl
      have t2:=R1.cell (j:=2) rfl
      have t3:=R1.cell (j:=3) rfl
      have t4:=R1.cell (j:=4) rfl
      have t5:=R1.cell (j:=5) rfl
      have t6:=R1.cell (j:=6) rfl
      have t7:=R1.cell (j:=7) rfl
      have t8:=R1.cell (j:=8) rfl
      have t9:=R1.cell (j:=9) rfl
      have r3:=R11.cell (j:=0) rfl
      have l1:=R1.lt
      have l3:=R11.lt
      go_wp2_with fail
      refine (KD.out _ _ _ HY5.out HO5.out).mono ?_
      rintro _ w13 ⟨_,rfl,hb13,du,rfl,hd⟩
      obtain ⟨da,dc,rfl,_⟩:=hd.form
      replace R11:=R11.ext hb13
      replace HO5:=Lib.hid (HO5.out.ext hb13)
      replace HXX:=Lib.hid (ext_trans HXX.out hb13)
      have HD5:=Lib.hid hd
      clear t0 t1 t2 t3 t4 t5 t6 t7 t8 t9 r3 l1 l3 hb13 R1 hd HY5
      have r3:=R11.cell (j:=0) rfl
      have l3:=R11.lt
      have je:=Row.ints (l:=exE) (row_new w13 [.int .i64 (-1),.int .i64 0,.int .i64 0,.int .i64 0,.int .i64 0,.int .i64 0,.int .i64 0,.int .i64 1] 3) (by decide) (by intro x hx;simp[exE]at hx;unfold WF;omega)
      have eb:Below w13.heap.size w13 (w13.alloc (.cells #[.int .i64 (-1),.int .i64 0,.int .i64 0,.int .i64 0,.int .i64 0,.int .i64 0,.int .i64 0,.int .i64 1] 3)):=ext_alloc w13 _
      have KQ:=Lib.hid (equal_same (HO5.out.ext eb) je)
      have HEB:=Lib.hid eb
      clear je eb
      go_wp2_with fail
      refine KQ.out.mono ?_
      rintro _ w14 ⟨_,rfl,hb14,rfl⟩
      have y14:=ext_trans HEB.out hb14
      have jd:=Row.ints (l:=[1,0]) (row_new w14 [.int .i64 1,.int .i64 0] 3) (by decide) (by intro x hx;simp at hx;unfold WF;omega)
      have ec:Below w13.heap.size w13 (w14.alloc (.cells #[.int .i64 1,.int .i64 0] 3)):=ext_alloc' y14 _
      have KQ2:=Lib.hid (equal_same (HD5.out.ext ec) jd)
      have HEC:=Lib.hid (ext_trans HXX.out ec)
      clear jd ec y14 hb14 KQ r3 l3 R11 HEB
      go_wp2_with fail
      refine KQ2.out.mono ?_
      rintro _ w15 ⟨_,rfl,hb15,rfl⟩
      have HEND:=Lib.hid (ext_trans HEC.out hb15)
      clear HO5 HD5 KQ2 hb15 HXX HEC
      go_wp2
      go_ret
      exact .mk HEND.out rfl
  · go_simp
    refine hK.out _ _ (fun _=>KEEP.out _ (ext_alloc' d0 _)) (fun hHeld=>?_);replace hHeld:=hHeld rfl
    clear hK K
    try simp only[Act.put,zsa,zsz,zss]
    have RN:=row_new w9 [.slice none 0 0] 38
    have dN:=ext_alloc' d0 (.cells #[.slice none 0 0] 38)
    have hNl:w3.heap.size≤w9.heap.size:=(d0).size
    have eN:=ext_alloc w9 (.cells #[.slice none 0 0] 38)
    obtain ⟨B3,hB3⟩:∃B3,B3=w9.heap.size:=⟨_,rfl⟩
    obtain ⟨wN,hwN⟩:∃wN,wN=w9.alloc (.cells #[.slice none 0 0] 38):=⟨_,rfl⟩
    rw[←hwN]at RN dN eN hHeld ⊢
    rw[←hB3]at RN hNl ⊢
    clear hwN hB3
    refine anyE_one 1 rfl (by kernel_rfl) (fun K hK=>?_)
    go_simp
    refine hK.out _ _ (fun _=>KEEP.out _ (ext_alloc' dN _)) (fun hHeld=>?_);replace hHeld:=hHeld rfl
    clear hK K
    try simp only[Act.put,zsa,zsz,zss]
    have hsN:B3<wN.heap.size:=RN.lt
    have eA:=ext_alloc wN (.cells (madeCells #[.int .i64 0] 8) 3)
    have RNA:=RN.ext eA
    have iz:=zero_row wN
    have dA:=ext_alloc' dN (.cells (madeCells #[.int .i64 0] 8) 3)
    have hzl:wN.heap.size<(wN.alloc (.cells (madeCells #[.int .i64 0] 8) 3)).heap.size:=by simp
    obtain ⟨wA,hwA⟩:∃wA,wA=wN.alloc (.cells (madeCells #[.int .i64 0] 8) 3):=⟨_,rfl⟩
    rw[←hwA]at iz dA hzl hHeld ⊢
    rw[←hwA]at eA RNA
    clear hwA
    refine anyE_take 2 (v:=?_) rfl (by kernel_rfl) (fun _ _ _ h=>h) (by rfl) ?hy2x3 hHeld ?rest2x3
    case hy2x3=>(intro w hSw;(try dsimp only at hSw);go_simp;try with_reducible rfl)
    try simp only[Act.put,zsa,zsz,zss]
    refine anyE_one 3 rfl (by kernel_rfl) (fun K hK=>?_)
    (go_simp;go_at_call 14;refine (KE1.out _ dA _ _ iz).mono ?_;rintro _ w4 ⟨_,rfl,hb4,hEE⟩;obtain ⟨zv,rfl,zu,rfl,hz⟩:=EZ.out _ _ _ hEE;have y4:=ext_trans dA hb4;obtain ⟨za,zc,rfl,_⟩:=hz.form)
    refine hK.out _ _ (fun _=>KEEP.out _ y4) (fun hHeld=>?_);replace hHeld:=hHeld rfl
    clear hK K
    try simp only[Act.put,zsa,zsz,zss]
    have hb4s:=ext_trans eA hb4
    refine anyE_take 4 (v:=?_) rfl (by kernel_rfl) (fun _ _ _ h=>h) (by rfl) ?hy4x3 hHeld ?rest4x3
    case hy4x3=>(intro w hSw;(try dsimp only at hSw);go_simp;try with_reducible rfl)
    try simp only[Act.put,zsa,zsz,zss]
    refine anyE_take 5 (v:=?_) rfl (by kernel_rfl) (fun _ _ _ h=>h) (by rfl) ?hy5x3 hHeld ?rest5x3
    case hy5x3=>(intro w hSw;(try dsimp only at hSw);go_simp;try with_reducible rfl)
    try simp only[Act.put,zsa,zsz,zss]
    refine anyE_take 6 (v:=?_) rfl (by kernel_rfl) (fun _ _ _ h=>h) (by rfl) ?hy6x3 hHeld ?rest6x3
    case hy6x3=>(intro w hSw;(try dsimp only at hSw);go_simp;try with_reducible rfl)
    try simp only[Act.put,zsa,zsz,zss]
    have RN4:=RN.ext hb4s
    have c0:=RN4.cell (j:=0) rfl
    have f0:=RN4.free 0
    have l0:=RN4.lt
    have hB13:B1<B3:=Nat.lt_of_lt_of_le HR1.out.lt hNl
    have R3:=RN4.set 0 (.slice za exZ.length zc)
    have y5:=y4.setCell (p:=⟨B3,0,none⟩) hNl (.slice za exZ.length zc)
    have hz5:=(hz.agree (w':=w4.setCell ⟨B3,0,none⟩ (.slice za exZ.length zc)) (.of_grown (grownBy_setCell _ _ _ _) fun b hb e=>by injection e with e;omega))
    refine anyE_one 8 rfl (by kernel_rfl) (fun K hK=>?_)
    go_simp
    refine hK.out _ _ (fun _=>by have RR:=(HR1.out.ext y4).grown (grownBy_setCell w4 B3 0 (.slice za exZ.length zc)) (fun e=>by injection e with e;omega);exact ⟨RR.cell (j:=0) rfl,RR.cell (j:=1) rfl,RR.cell (j:=2) rfl,RR.cell (j:=3) rfl,RR.cell (j:=4) rfl,RR.cell (j:=5) rfl,RR.cell (j:=6) rfl,RR.cell (j:=7) rfl,RR.cell (j:=8) rfl,RR.cell (j:=9) rfl⟩) (fun hHeld=>?_);replace hHeld:=hHeld rfl
    clear hK K
    try simp only[Act.put,zsa,zsz,zss]
    refine anyE_take 9 (v:=?_) rfl (by kernel_rfl) (fun _ _ _ h=>h) (by rfl) ?hy9x3 hHeld ?rest9x3
    case hy9x3=>(intro w hSw;(try dsimp only at hSw);go_simp;try with_reducible rfl)
    try simp only[Act.put,zsa,zsz,zss]
    refine anyE_done (by kernel_rfl) ?_ _
    obtain ⟨w5,hw5⟩:∃w5,w5=w4.setCell ⟨B3,0,none⟩ (.slice za exZ.length zc):=⟨_,rfl⟩
    rw[←hw5]at R3 y5 hz5 ⊢
    clear hw5 c0 f0 l0 RN4 RN y4 hz hb4s
    clear hb4 hEE iz dA dN eN hzl d0 hB13 hNl hsN eA RNA
    clear hHeld KEEP
    have HZ5:=Lib.hid hz5
    have HY5:=Lib.hid (ext_trans H23.out y5)
    have HXX:=Lib.hid (ext_trans HX.out y5)
    have R1:=HR1.out.ext y5
    clear HR1 y5 hz5 HX
    have t0:=R1.cell (j:=0) rfl
    have t1:=R1.cell (j:=1) rfl
    have t2:=R1.cell (j:=2) rfl
    have t3:=R1.cell (j:=3) rfl
    have t4:=R1.cell (j:=4) rfl
    have t5:=R1.cell (j:=5) rfl
    have t6:=R1.cell (j:=6) rfl
    have t7:=R1.cell (j:=7) rfl
    have t8:=R1.cell (j:=8) rfl
    have t9:=R1.cell (j:=9) rfl
    have r3:=R3.cell (j:=0) rfl
    have l1:=R1.lt
    have l3:=R3.lt
    go_wp2_with fail
    refine (KM.out _ _ _ HY5.out HZ5.out).mono ?_
    rintro _ w6 ⟨_,rfl,hb6,rfl⟩
    replace R1:=R1.ext hb6
    replace R3:=R3.ext hb6
    replace HZ5:=Lib.hid (HZ5.out.ext hb6)
    replace HY5:=Lib.hid (ext_trans HY5.out hb6)
    replace HXX:=Lib.hid (ext_trans HXX.out hb6)
    clear t0 t1 t2 t3 t4 t5 t6 t7 t8 t9 r3 l1 l3 hb6
    have t0:=R1.cell (j:=0) rfl
    have t1:=R1.cell (j:=1) rfl
    have t2:=R1.cell (j:=2) rfl
    have t3:=R1.cell (j:=3) rfl
    have t4:=R1.cell (j:=4) rfl
    have t5:=R1.cell (j:=5) rfl
    have t6:=R1.cell (j:=6) rfl
    have t7:=R1.cell (j:=7) rfl
    have t8:=R1.cell (j:=8) rfl
    have t9:=R1.cell (j:=9) rfl
    have r3:=R3.cell (j:=0) rfl
    have l1:=R1.lt
    have l3:=R3.lt
    go_wp2_with fail
    refine (KZ.out _ _ _ HY5.out HZ5.out).mono ?_
    rintro _ w7 ⟨_,rfl,hb7,rfl⟩
    replace R1:=R1.ext hb7
    replace R3:=R3.ext hb7
    replace HZ5:=Lib.hid (HZ5.out.ext hb7)
    replace HY5:=Lib.hid (ext_trans HY5.out hb7)
    replace HXX:=Lib.hid (ext_trans HXX.out hb7)
    clear t0 t1 t2 t3 t4 t5 t6 t7 t8 t9 r3 l1 l3 hb7
    have HR3:=Lib.hid R3
    have HR1:=Lib.hid R1
    clear R3 R1
    go_wp2
    refine region_E (fun w':World=>w'.cell? ⟨B3,0,none⟩=some (.slice za exZ.length zc)) (fun i=>false) (by kernel_rfl) ?_ (fun hHeld=>?_)
    · exact (HR3.out.ext (drewN_below _ _ 1)).cell (j:=0) rfl
    refine anyE_take 0 (v:=?_) rfl (by kernel_rfl) (fun _ _ _ h=>h) (by rfl) ?hy0Cm hHeld ?rest0Cm
    case hy0Cm=>(intro w hSw;(try dsimp only at hSw);go_simp;try with_reducible rfl)
    try simp only[Act.put,zsa,zsz,zss]
    refine anyE_take 1 (v:=?_) rfl (by kernel_rfl) (fun _ _ _ h=>h) (by rfl) ?hy1Cm hHeld ?rest1Cm
    case hy1Cm=>(intro w hSw;(try dsimp only at hSw);go_simp;try with_reducible rfl)
    try simp only[Act.put,zsa,zsz,zss]
    refine anyE_take 2 (v:=?_) rfl (by kernel_rfl) (fun _ _ _ h=>h) (by rfl) ?hy2Cm hHeld ?rest2Cm
    case hy2Cm=>(intro w hSw;(try dsimp only at hSw);go_simp;try with_reducible rfl)
    try simp only[Act.put,zsa,zsz,zss]
    refine anyE_take 3 (v:=?_) rfl (by kernel_rfl) (fun _ _ _ h=>h) (by rfl) ?hy3Cm hHeld ?rest3Cm
    case hy3Cm=>(intro w hSw;(try dsimp only at hSw);go_simp;try with_reducible rfl)
    try simp only[Act.put,zsa,zsz,zss]
    refine anyE_take 4 (v:=?_) rfl (by kernel_rfl) (fun _ _ _ h=>h) (by rfl) ?hy4Cm hHeld ?rest4Cm
    case hy4Cm=>(intro w hSw;(try dsimp only at hSw);go_simp;try with_reducible rfl)
    try simp only[Act.put,zsa,zsz,zss]
    refine anyE_take 5 (v:=?_) rfl (by kernel_rfl) (fun _ _ _ h=>h) (by rfl) ?hy5Cm hHeld ?rest5Cm
    case hy5Cm=>(intro w hSw;(try dsimp only at hSw);go_simp;try with_reducible rfl)
    try simp only[Act.put,zsa,zsz,zss]
    refine anyE_take 6 (v:=?_) rfl (by kernel_rfl) (fun _ _ _ h=>h) (by rfl) ?hy6Cm hHeld ?rest6Cm
    case hy6Cm=>(intro w hSw;(try dsimp only at hSw);go_simp;try with_reducible rfl)
    try simp only[Act.put,zsa,zsz,zss]
    refine anyE_take 7 (v:=?_) rfl (by kernel_rfl) (fun _ _ _ h=>h) (by rfl) ?hy7Cm hHeld ?rest7Cm
    case hy7Cm=>(intro w hSw;(try dsimp only at hSw);go_simp;try with_reducible rfl)
    try simp only[Act.put,zsa,zsz,zss]
    refine anyE_take 8 (v:=?_) rfl (by kernel_rfl) (fun _ _ _ h=>h) (by rfl) ?hy8Cm hHeld ?rest8Cm
    case hy8Cm=>(intro w hSw;(try dsimp only at hSw);go_simp;try with_reducible rfl)
    try simp only[Act.put,zsa,zsz,zss]
    refine anyE_take 9 (v:=?_) rfl (by kernel_rfl) (fun _ _ _ h=>h) (by rfl) ?hy9Cm hHeld ?rest9Cm
    case hy9Cm=>(intro w hSw;(try dsimp only at hSw);go_simp;try with_reducible rfl)
    try simp only[Act.put,zsa,zsz,zss]
    refine anyE_take 10 (v:=?_) rfl (by kernel_rfl) (fun _ _ _ h=>h) (by rfl) ?hy10Cm hHeld ?rest10Cm
    case hy10Cm=>(intro w hSw;(try dsimp only at hSw);go_simp;try with_reducible rfl)
    try simp only[Act.put,zsa,zsz,zss]
    refine anyE_one 11 rfl (by kernel_rfl) (fun K hK=>?_)
    go_simp
    refine hK.out _ _ (fun _=>(HR3.out.ext (ext_alloc' (drewN_below _ _ 1) _)).cell (j:=0) rfl) (fun hHeld=>?_);replace hHeld:=hHeld rfl
    clear hK K
    try simp only[Act.put,zsa,zsz,zss]
    refine anyE_one 12 rfl (by kernel_rfl) (fun K hK=>?_)
    (go_simp;go_at_call 32;refine (equal_same (HZ5.out.ext (ext_alloc' (drewN_below w7.heap.size w7 1) (.cells (madeCells #[.int .i64 0] 8) 3))) (zero_row w7.drew)).mono ?_;rintro _ w8 ⟨_,rfl,hb8,rfl⟩;have y8:=ext_trans (ext_alloc' (drewN_below w7.heap.size w7 1) (.cells (madeCells #[.int .i64 0] 8) 3)) hb8;clear hb8)
    refine hK.out _ _ (fun _=>(HR3.out.ext y8).cell (j:=0) rfl) (fun hHeld=>?_);replace hHeld:=hHeld rfl
    clear hK K
    try simp only[Act.put,zsa,zsz,zss]
    refine anyE_take 13 (v:=?_) rfl (by kernel_rfl) (fun _ _ _ h=>h) (by rfl) ?hy13Cn hHeld ?rest13Cn
    case hy13Cn=>(intro w hSw;(try dsimp only at hSw);go_simp;try with_reducible rfl)
    try simp only[Act.put,zsa,zsz,zss]
    refine anyE_take 14 (v:=?_) rfl (by kernel_rfl) (fun _ _ _ h=>h) (by rfl) ?hy14Cn hHeld ?rest14Cn
    case hy14Cn=>(intro w hSw;(try dsimp only at hSw);go_simp;try with_reducible rfl)
    try simp only[Act.put,zsa,zsz,zss]
    refine anyE_take 15 (v:=?_) rfl (by kernel_rfl) (fun _ _ _ h=>h) (by rfl) ?hy15Cn hHeld ?rest15Cn
    case hy15Cn=>(intro w hSw;(try dsimp only at hSw);go_simp;try with_reducible rfl)
    try simp only[Act.put,zsa,zsz,zss]
    refine anyE_take 16 (v:=?_) rfl (by kernel_rfl) (fun _ _ _ h=>h) (by rfl) ?hy16Cn hHeld ?rest16Cn
    case hy16Cn=>(intro w hSw;(try dsimp only at hSw);go_simp;try with_reducible rfl)
    try simp only[Act.put,zsa,zsz,zss]
    refine anyE_take 17 (v:=?_) rfl (by kernel_rfl) (fun _ _ _ h=>h) (by rfl) ?hy17Cn hHeld ?rest17Cn
    case hy17Cn=>(intro w hSw;(try dsimp only at hSw);go_simp;try with_reducible rfl)
    try simp only[Act.put,zsa,zsz,zss]
    refine anyE_take 18 (v:=?_) rfl (by kernel_rfl) (fun _ _ _ h=>h) (by rfl) ?hy18Cn hHeld ?rest18Cn
    case hy18Cn=>(intro w hSw;(try dsimp only at hSw);go_simp;try with_reducible rfl)
    try simp only[Act.put,zsa,zsz,zss]
    refine anyE_take 19 (v:=?_) rfl (by kernel_rfl) (fun _ _ _ h=>h) (by rfl) ?hy19Cn hHeld ?rest19Cn
    case hy19Cn=>(intro w hSw;(try dsimp only at hSw);go_simp;try with_reducible rfl)
    try simp only[Act.put,zsa,zsz,zss]
    refine anyE_take 20 (v:=?_) rfl (by kernel_rfl) (fun _ _ _ h=>h) (by rfl) ?hy20Cn hHeld ?rest20Cn
    case hy20Cn=>(intro w hSw;(try dsimp only at hSw);go_simp;try with_reducible rfl)
    try simp only[Act.put,zsa,zsz,zss]
    refine anyE_take 21 (v:=?_) rfl (by kernel_rfl) (fun _ _ _ h=>h) (by rfl) ?hy21Cn hHeld ?rest21Cn
    case hy21Cn=>(intro w hSw;(try dsimp only at hSw);go_simp;try with_reducible rfl)
    try simp only[Act.put,zsa,zsz,zss]
    refine anyE_take 22 (v:=?_) rfl (by kernel_rfl) (fun _ _ _ h=>h) (by rfl) ?hy22Cn hHeld ?rest22Cn
    case hy22Cn=>(intro w hSw;(try dsimp only at hSw);go_simp;try with_reducible rfl)
    try simp only[Act.put,zsa,zsz,zss]
    refine anyE_take 23 (v:=?_) rfl (by kernel_rfl) (fun _ _ _ h=>h) (by rfl) ?hy23Cn hHeld ?rest23Cn
    case hy23Cn=>(intro w hSw;(try dsimp only at hSw);go_simp;try with_reducible rfl)
    try simp only[Act.put,zsa,zsz,zss]
    refine anyE_take 24 (v:=?_) rfl (by kernel_rfl) (fun _ _ _ h=>h) (by rfl) ?hy24Cn hHeld ?rest24Cn
    case hy24Cn=>(intro w hSw;(try dsimp only at hSw);go_simp;try with_reducible rfl)
    try simp only[Act.put,zsa,zsz,zss]
    refine anyE_take 25 (v:=?_) rfl (by kernel_rfl) (fun _ _ _ h=>h) (by rfl) ?hy25Cn hHeld ?rest25Cn
    case hy25Cn=>(intro w hSw;(try dsimp only at hSw);go_simp;try with_reducible rfl)
    try simp only[Act.put,zsa,zsz,zss]
    refine anyE_take 26 (v:=?_) rfl (by kernel_rfl) (fun _ _ _ h=>h) (by rfl) ?hy26Cn hHeld ?rest26Cn
    case hy26Cn=>(intro w hSw;(try dsimp only at hSw);go_simp;try with_reducible rfl)
    try simp only[Act.put,zsa,zsz,zss]
    refine anyE_done (by kernel_rfl) ?_ _
    have R1:=HR1.out.ext y8
    have R3:=HR3.out.ext y8
    replace HY5:=Lib.hid (ext_trans HY5.out y8)
    replace HXX:=Lib.hid (ext_trans HXX.out y8)
    clear hHeld HR1 HR3 HZ5 y8 R3
    have t0:=R1.cell (j:=0) rfl
    have t1:=R1.cell (j:=1) rfl
    have t2:=R1.cell (j:=2) rfl
    have t3:=R1.cell (j:=3) rfl
    have t4:=R1.cell (j:=4) rfl
    have t5:=R1.cell (j:=5) rfl
    have t6:=R1.cell (j:=6) rfl
    have t7:=R1.cell (j:=7) rfl
    have t8:=R1.cell (j:=8) rfl
    have t9:=R1.cell (j:=9) rfl
    have l1:=R1.lt
    go_wp2_with fail
    have jo:=Row.ints (l:=exO) (row_new w8 [.int .i64 0,.int .i64 0,.int .i64 0,.int .i64 0,.int .i64 0,.int .i64 0,.int .i64 0,.int .i64 1] 3) (by decide) (by intro x hx;simp[exO]at hx;unfold WF;omega)
    have ea:=ext_alloc w8 (.cells #[.int .i64 0,.int .i64 0,.int .i64 0,.int .i64 0,.int .i64 0,.int .i64 0,.int .i64 0,.int .i64 1] 3)
    refine (KE.out _ _ _ _ (ext_trans HY5.out ea) jo).mono ?_
    rintro _ w10 ⟨_,rfl,hb10,hEE⟩
    obtain ⟨ov,rfl,ou,rfl,ho⟩:=EO.out _ _ _ hEE
    obtain ⟨oa,oc,rfl,_⟩:=ho.form
    have y10:=ext_trans ea hb10
    replace R1:=(R1.ext y10).alloc (.cells #[.slice oa exE.length oc] 38)
    have R11:=row_new w10 [.slice oa exE.length oc] 38
    have hx11:=ext_alloc' y10 (.cells #[.slice oa exE.length oc] 38)
    have HO5:=Lib.hid (ho.ext (ext_alloc w10 (.cells #[.slice oa exE.length oc] 38)))
    replace HY5:=Lib.hid (ext_trans HY5.out hx11)
    replace HXX:=Lib.hid (ext_trans HXX.out hx11)
    clear t0 t1 t2 t3 t4 t5 t6 t7 t8 t9 l1 jo ea hEE ho hb10 y10 hx11
    have t0:=R1.cell (j:=0) rfl
    have t1:=R1.cell (j:=1) rfl
    have t2:=R1.cell (j:=2) rfl
    have t3:=R1.cell (j:=3) rfl
    have t4:=R1.cell (j:=4) rfl
    have t5:=R1.cell (j:=5) rfl
    have t6:=R1.cell (j:=6) rfl
    have t7:=R1.cell (j:=7) rfl
    have t8:=R1.cell (j:=8) rfl
    have t9:=R1.cell (j:=9) rfl
    have r3:=R11.cell (j:=0) rfl
    have l1:=R1.lt
    have l3:=R11.lt
    go_wp2_with fail
    refine (KO.out _ _ _ HY5.out HO5.out).mono ?_
    rintro _ w12 ⟨_,rfl,hb12,rfl⟩
    replace R1:=R1.ext hb12
    replace R11:=R11.ext hb12
    replace HO5:=Lib.hid (HO5.out.ext hb12)
    replace HY5:=Lib.hid (ext_trans HY5.out hb12)
    replace HXX:=Lib.hid (ext_trans HXX.out hb12)
    clear t0 t1 t2 t3 t4 t5 t6 t7 t8 t9 r3 l1 l3 hb12
    have t0:=R1.cell (j:=0) rfl
    have t1:=R1.cell (j:=1) rfl
    have t2:=R1.cell (j:=2) rfl
    have t3:=R1.cell (j:=3) rfl
    have t4:=R1.cell (j:=4) rfl
    have t5:=R1.cell (j:=5) rfl
    have t6:=R1.cell (j:=6) rfl
    have t7:=R1.cell (j:=7) rfl
    have t8:=R1.cell (j:=8) rfl
    have t9:=R1.cell (j:=9) rfl
    have r3:=R11.cell (j:=0) rfl
    have l1:=R1.lt
    have l3:=R11.lt
    go_wp2_with fail
    refine (KD.out _ _ _ HY5.out HO5.out).mono ?_
    rintro _ w13 ⟨_,rfl,hb13,du,rfl,hd⟩
    obtain ⟨da,dc,rfl,_⟩:=hd.form
    replace R11:=R11.ext hb13
    replace HO5:=Lib.hid (HO5.out.ext hb13)
    replace HXX:=Lib.hid (ext_trans HXX.out hb13)
    have HD5:=Lib.hid hd
    clear t0 t1 t2 t3 t4 t5 t6 t7 t8 t9 r3 l1 l3 hb13 R1 hd HY5
    have r3:=R11.cell (j:=0) rfl
    have l3:=R11.lt
    have je:=Row.ints (l:=exE) (row_new w13 [.int .i64 (-1),.int .i64 0,.int .i64 0,.int .i64 0,.int .i64 0,.int .i64 0,.int .i64 0,.int .i64 1] 3) (by decide) (by intro x hx;simp[exE]at hx;unfold WF;omega)
    have eb:Below w13.heap.size w13 (w13.alloc (.cells #[.int .i64 (-1),.int .i64 0,.int .i64 0,.int .i64 0,.int .i64 0,.int .i64 0,.int .i64 0,.int .i64 1] 3)):=ext_alloc w13 _
    have KQ:=Lib.hid (equal_same (HO5.out.ext eb) je)
    have HEB:=Lib.hid eb
    clear je eb
    go_wp2_with fail
    refine KQ.out.mono ?_
    rintro _ w14 ⟨_,rfl,hb14,rfl⟩
    have y14:=ext_trans HEB.out hb14
    have jd:=Row.ints (l:=[1,0]) (row_new w14 [.int .i64 1,.int .i64 0] 3) (by decide) (by intro x hx;simp at hx;unfold WF;omega)
    have ec:Below w13.heap.size w13 (w14.alloc (.cells #[.int .i64 1,.int .i64 0] 3)):=ext_alloc' y14 _
    have KQ2:=Lib.hid (equal_same (HD5.out.ext ec) jd)
    have HEC:=Lib.hid (ext_trans HXX.out ec)
    clear jd ec y14 hb14 KQ r3 l3 R11 HEB
    go_wp2_with fail
    refine KQ2.out.mono ?_
    rintro _ w15 ⟨_,rfl,hb15,rfl⟩
    have HEND:=Lib.hid (ext_trans HEC.out hb15)
    clear HO5 HD5 KQ2 hb15 HXX HEC
    go_wp2
    go_ret
    exact .mk HEND.out rfl
end Go.Proofs.YtcopehiceihdaaaGreat
