/- Part of the proof that the laws of chapter 45 answer true for every input. -/
import Derived.Test.YtcopehiceihdaaaGreatPCa45
set_option linter.unusedSimpArgs false
set_option linter.unnecessarySimpa false
set_option linter.unusedVariables false
set_option maxRecDepth 100000
set_option maxHeartbeats 40000000
namespace Go.Proofs.YtcopehiceihdaaaGreat
open Go.RowKit
attribute [local go_sem ↓] Go.wp_at_zero Go.wp_at_succ
theorem rfew_calls {S:Nat→Prop} {w:World} {vch:Value} {ch:List Int} (h:Ints S w vch ch):Calls Tryz.prog 12 #[.agg #[vch]] w (Post w fun _ r=>r=.bool (decide (ch.length≤1000))):=by
  obtain ⟨a,c,rfl,_⟩:=h.form
  have ex:=ext_alloc w (.cells #[.slice a ch.length c] 38)
  have R:=row_new w [.slice a ch.length c] 38
  have r0:=R.cell (j:=0) rfl
  have l0:=R.lt
  have HX:=Lib.hid ex
  clear h ex R
  by_cases hl:ch.length≤1000
  · have d1:decide (ch.length≤1000)=true:=decide_eq_true hl
    rw[d1]
    have HL:=Lib.hid hl
    clear hl
    go_enter Tryz.func12,Tryz.ntmps12
    go_wp2
    go_ret
    exact .mk HX.out (by have:=HL.out;simp;omega)
  · have d1:decide (ch.length≤1000)=false:=decide_eq_false hl
    rw[d1]
    have HL:=Lib.hid hl
    clear hl
    go_enter Tryz.func12,Tryz.ntmps12
    go_wp2
    go_ret
    exact .mk HX.out (by have:=HL.out;simp;omega)
end Go.Proofs.YtcopehiceihdaaaGreat
namespace Go.Proofs.YtcopehiceihdaaaGreat
open Go.RowKit
attribute [local go_sem ↓] Go.wp_at_zero Go.wp_at_succ
theorem ints_none (S:Nat→Prop) (w:World):Ints S w (.slice none 0 0) []:=⟨none,0,rfl,.inl ⟨rfl,rfl⟩,Nat.le_refl _,by simp[maxLen],fun j hj=>by simp at hj,fun x hx=>by simp at hx⟩
def decLst (s:SysF) (ch:List Int) (e:Int):List Int:=if sceneE s ch e=0 then valsL ch (finL s e.toNat) else []
def timLst (s:SysF) (ch:List Int) (e:Int):List Int:=if sceneE s ch e=0 then rndL s ch e.toNat else []
def PairR (l:List Int) (x:Int) (w':World) (r:Value):Prop:=∃u,r=.tuple #[u,.int .i64 x]∧Ints (fun _=>True) w' u l
theorem DecR.pair {B:Nat} {s:SysF} {ch:List Int} {e:Int} {w':World} {r:Value} (h:DecR B s ch e w' r):PairR (decLst s ch e) (sceneE s ch e) w' r:=by
  unfold decLst
  rcases h with ⟨h0,u,h1,h2⟩ | ⟨h0,h1⟩
  · rw[if_pos h0,h0];exact ⟨u,h1,h2.mono fun _ _=>trivial⟩
  · rw[if_neg h0];exact ⟨_,h1,ints_none _ _⟩
theorem TimR.pair {B:Nat} {s:SysF} {ch:List Int} {e:Int} {w':World} {r:Value} (h:TimR B s ch e w' r):PairR (timLst s ch e) (sceneE s ch e) w' r:=by
  unfold timLst
  rcases h with ⟨h0,u,h1,h2⟩ | ⟨h0,h1⟩
  · rw[if_pos h0,h0];exact ⟨u,h1,h2.mono fun _ _=>trivial⟩
  · rw[if_neg h0];exact ⟨_,h1,ints_none _ _⟩
theorem post_mono {w w':World} {e:Ending} {R R':World→Value→Prop} (h:Post w R e w') (hR:∀a b,R a b→R' a b):Post w R' e w':=by
  obtain ⟨r,h1,h2,h3⟩:=h
  exact ⟨r,h1,h2,hR _ _ h3⟩
end Go.Proofs.YtcopehiceihdaaaGreat
namespace Go.Proofs.YtcopehiceihdaaaGreat
open Go.RowKit
attribute [local go_sem ↓] Go.wp_at_zero Go.wp_at_succ
def earLst (s:SysF) (ch:List Int):List Int:=if earE s ch=0 then earlyTo s.tab (decL s s.N s.K) ch s.tab.length else []
def RuleR (l:List Int) (x:Int) (w':World) (r:Value):Prop:=∃u,r=.tuple #[.agg #[u],.int .i64 x]∧Ints (fun _=>True) w' u l
theorem EarlyR.pair {B:Nat} {s:SysF} {ch:List Int} {w':World} {r:Value} (h:EarlyR B s ch w' r):RuleR (earLst s ch) (earE s ch) w' r:=by
  unfold earLst
  rcases h with ⟨h0,v,h1,u,h2,h3⟩ | ⟨h0,h1⟩
  · rw[if_pos h0,h0];subst h2;exact ⟨u,h1,h3.mono fun _ _=>trivial⟩
  · rw[if_neg h0];exact ⟨_,h1,ints_none _ _⟩
theorem rsame_calls {S S':Nat→Prop} {w:World} {va vb:Value} {l:List Int} (h:Ints S w va l) (h':Ints S' w vb l):Calls Tryz.prog 18 #[.agg #[va],.agg #[vb]] w (Post w fun _ r=>r=.bool true):=by
  have KO:Hid (∀W,Below w.heap.size w W→Calls Tryz.prog 47 #[va,vb] W (QuietP W (.int .i64 0))):=Lib.hid fun W hW=>by
    have:=order_q (h.ext hW) (h'.ext hW)
    rw[ordL_zero.2 rfl]at this;exact this
  obtain ⟨a,c,rfl,_⟩:=h.form
  obtain ⟨b,d,rfl,_⟩:=h'.form
  have ex:=ext_alloc' (ext_alloc w (.cells #[.slice a l.length c] 38)) (.cells #[.slice b l.length d] 38)
  have R0:=(row_new w [.slice a l.length c] 38).alloc (.cells #[.slice b l.length d] 38)
  have R1:=row_new (w.alloc (.cells #[.slice a l.length c] 38)) [.slice b l.length d] 38
  rw[World.size_alloc]at R1
  have q0:=R0.cell (j:=0) rfl
  have l0:=R0.lt
  have q1:=R1.cell (j:=0) rfl
  have l1:=R1.lt
  have HX:=Lib.hid ex
  clear h h' R0 R1 ex
  go_enter Tryz.func18,Tryz.ntmps18
  go_wp2_with fail
  refine ((KO.out _ HX.out).mono fun _ _ h=>h.take).mono ?_
  rintro _ w2 ⟨_,rfl,hq2,rfl⟩
  have HY:=Lib.hid (ext_trans HX.out hq2.ext)
  clear q0 q1 l0 l1 hq2 KO HX
  go_wp2
  go_ret
  exact .mk HY.out rfl
theorem walkRuleChecks {S Sx1:Nat→Prop} {w:World} {v vx1:Value} {s:SysF} {x1:List Int} (h:SysV S w v s) (hx1:Ints Sx1 w vx1 x1):
    Calls Tryz.prog 3 #[v,.agg #[vx1]] w (Post w fun _ r=>r=.bool true):=by
  have KFS:Hid (∀W,Below w.heap.size w W→Calls Tryz.prog 11 #[v] W (Post W fun _ r=>Tells (FewS s) r)):=Lib.hid fun W hW=>fewS_calls (h.ext hW)
  have KWx1:Hid (∀W,Below w.heap.size w W→Calls Tryz.prog 12 #[.agg #[vx1]] W (Post W fun _ r=>r=.bool (decide (x1.length≤1000)))):=Lib.hid fun W hW=>rfew_calls (hx1.ext hW)
  have KP:Hid (FewS s→∀W,Below w.heap.size w W→Calls Tryz.prog 14 #[v,.agg #[vx1]] W (Post W (RuleR (earLst s x1) (earE s x1)))):=Lib.hid fun hf W hW=>(pearly_calls (h.ext hW) hf.p.few (hx1.ext hW) (by have:=hf.t;omega)).mono fun _ _ h=>post_mono h fun _ _ h=>h.pair
  have KR:Hid (FewS s→∀W,Below w.heap.size w W→Calls Tryz.prog 15 #[v,.agg #[vx1]] W (Post W (RuleR (earLst s x1) (earE s x1)))):=Lib.hid fun hf W hW=>(rearly_calls (h.ext hW) hf.p.few.small (hx1.ext hW) (by have:=hf.t;omega)).mono fun _ _ h=>post_mono h fun _ _ h=>h.pair
  have KP2:Hid (FewS s→∀W,Below w.heap.size w W→Calls Tryz.prog 16 #[v,.agg #[vx1]] W (Post W fun _ r=>r=.int .i64 (ruleE s x1))):=Lib.hid fun hf W hW=>pcheck_calls (h.ext hW) hf.p.few (hx1.ext hW)
  have KR2:Hid (FewS s→∀W,Below w.heap.size w W→Calls Tryz.prog 17 #[v,.agg #[vx1]] W (Post W fun _ r=>r=.int .i64 (ruleE s x1))):=Lib.hid fun hf W hW=>rcheck_calls (h.ext hW) hf.p.few.small (hx1.ext hW)
  obtain ⟨el,hel⟩:∃d,d=earLst s x1:=⟨_,rfl⟩
  obtain ⟨ee,hee⟩:∃d,d=earE s x1:=⟨_,rfl⟩
  obtain ⟨ve,hve⟩:∃d,d=ruleE s x1:=⟨_,rfl⟩
  rw[←hel,←hee]at KP KR
  rw[←hve]at KP2 KR2
  clear hel hee hve
  have g1:(ee==ee)=true:=by simp
  have g2:(ve==ve)=true:=by simp
  obtain ⟨vc,vs,vt,vx,rfl,hc,hs,ht,hx⟩:=h
  obtain ⟨ca,cc,rfl,_⟩:=hc.form
  obtain ⟨sa,sc,rfl,_⟩:=hs.form
  obtain ⟨ta,tc,rfl,_⟩:=ht.form
  obtain ⟨xa,xc,rfl,_⟩:=hx.form
  obtain ⟨ax1,cx1,rfl,_⟩:=hx1.form
  have ex:=ext_alloc' (ext_alloc w (.cells #[.int .i64 s.p.n,.int .i64 s.p.ins,.int .i64 s.p.outs,.slice ca s.p.cs.length cc,.int .i64 s.p.an,.slice sa s.p.st.length sc,.int .i64 s.p.rounds,.int .i64 s.tn,.slice ta s.tab.length tc,.slice xa s.ex.length xc] 35)) (.cells #[.slice ax1 x1.length cx1] 38)
  have R0:=(row_new w [.int .i64 s.p.n,.int .i64 s.p.ins,.int .i64 s.p.outs,.slice ca s.p.cs.length cc,.int .i64 s.p.an,.slice sa s.p.st.length sc,.int .i64 s.p.rounds,.int .i64 s.tn,.slice ta s.tab.length tc,.slice xa s.ex.length xc] 35).alloc (.cells #[.slice ax1 x1.length cx1] 38)
  have R1:=row_new (w.alloc (.cells #[.int .i64 s.p.n,.int .i64 s.p.ins,.int .i64 s.p.outs,.slice ca s.p.cs.length cc,.int .i64 s.p.an,.slice sa s.p.st.length sc,.int .i64 s.p.rounds,.int .i64 s.tn,.slice ta s.tab.length tc,.slice xa s.ex.length xc] 35)) [.slice ax1 x1.length cx1] 38
  simp only[World.size_alloc]at R1
  clear hc hs ht hx hx1
  go_enter Tryz.func3,Tryz.ntmps3
  have t0:=R0.cell (j:=0) rfl
  have t1:=R0.cell (j:=1) rfl
  have t2:=R0.cell (j:=2) rfl
  have t3:=R0.cell (j:=3) rfl
  have t4:=R0.cell (j:=4) rfl
  have t5:=R0.cell (j:=5) rfl
  have t6:=R0.cell (j:=6) rfl
  have t7:=R0.cell (j:=7) rfl
  have t8:=R0.cell (j:=8) rfl
  have t9:=R0.cell (j:=9) rfl
  have l0:=R0.lt
  have qR1:=R1.cell (j:=0) rfl
  have lR1:=R1.lt
  go_wp2_with fail
  refine (KFS.out _ ex).mono ?_
  rintro _ w1 ⟨_,rfl,hb,b0,rfl,hb0⟩
  replace R0:=R0.ext hb
  replace R1:=R1.ext hb
  replace ex:=ext_trans ex hb
  clear hb t0 t1 t2 t3 t4 t5 t6 t7 t8 t9 l0 qR1 lR1
  cases b0 with
  | false=>
    go_wp2_with fail
    refine (awake_calls _).mono ?_
    rintro _ w99 ⟨_,rfl,hb,rfl⟩
    replace ex:=ext_trans ex hb
    clear hb R0 R1
    go_wp2
    go_ret
    exact .mk ex rfl
  | true=>
  have hfew:=hb0 rfl
  clear hb0
  obtain ⟨bx1,hbx1⟩:∃b,b=decide (x1.length≤1000):=⟨_,rfl⟩
  rw[←hbx1]at KWx1
  clear hbx1
  have t0:=R0.cell (j:=0) rfl
  have t1:=R0.cell (j:=1) rfl
  have t2:=R0.cell (j:=2) rfl
  have t3:=R0.cell (j:=3) rfl
  have t4:=R0.cell (j:=4) rfl
  have t5:=R0.cell (j:=5) rfl
  have t6:=R0.cell (j:=6) rfl
  have t7:=R0.cell (j:=7) rfl
  have t8:=R0.cell (j:=8) rfl
  have t9:=R0.cell (j:=9) rfl
  have l0:=R0.lt
  have qR1:=R1.cell (j:=0) rfl
  have lR1:=R1.lt
  go_wp2_with fail
  refine (KWx1.out _ ex).mono ?_
  rintro _ w2 ⟨_,rfl,hb,rfl⟩
  replace R0:=R0.ext hb
  replace R1:=R1.ext hb
  replace ex:=ext_trans ex hb
  clear hb t0 t1 t2 t3 t4 t5 t6 t7 t8 t9 l0 qR1 lR1 KWx1
  cases bx1 with
  | false=>
    go_wp2_with fail
    refine (awake_calls _).mono ?_
    rintro _ w99 ⟨_,rfl,hb,rfl⟩
    replace ex:=ext_trans ex hb
    clear hb R0 R1
    go_wp2
    go_ret
    exact .mk ex rfl
  | true=>
  have t0:=R0.cell (j:=0) rfl
  have t1:=R0.cell (j:=1) rfl
  have t2:=R0.cell (j:=2) rfl
  have t3:=R0.cell (j:=3) rfl
  have t4:=R0.cell (j:=4) rfl
  have t5:=R0.cell (j:=5) rfl
  have t6:=R0.cell (j:=6) rfl
  have t7:=R0.cell (j:=7) rfl
  have t8:=R0.cell (j:=8) rfl
  have t9:=R0.cell (j:=9) rfl
  have l0:=R0.lt
  have qR1:=R1.cell (j:=0) rfl
  have lR1:=R1.lt
  go_wp2_with fail
  refine (KP.out hfew _ ex).mono ?_
  rintro _ w3 ⟨_,rfl,hb,u1,rfl,hu1⟩
  replace R0:=R0.ext hb
  replace R1:=R1.ext hb
  replace ex:=ext_trans ex hb
  clear hb t0 t1 t2 t3 t4 t5 t6 t7 t8 t9 l0 qR1 lR1 KP
  obtain ⟨ua,uc,rfl,_⟩:=hu1.form
  have RA:=row_new w3 [.slice ua el.length uc] 38
  replace R0:=R0.alloc (.cells #[.slice ua el.length uc] 38)
  replace R1:=R1.alloc (.cells #[.slice ua el.length uc] 38)
  have HU:=Lib.hid (hu1.ext (ext_alloc w3 (.cells #[.slice ua el.length uc] 38)))
  replace ex:=ext_alloc' ex (.cells #[.slice ua el.length uc] 38)
  clear hu1
  have t0:=R0.cell (j:=0) rfl
  have t1:=R0.cell (j:=1) rfl
  have t2:=R0.cell (j:=2) rfl
  have t3:=R0.cell (j:=3) rfl
  have t4:=R0.cell (j:=4) rfl
  have t5:=R0.cell (j:=5) rfl
  have t6:=R0.cell (j:=6) rfl
  have t7:=R0.cell (j:=7) rfl
  have t8:=R0.cell (j:=8) rfl
  have t9:=R0.cell (j:=9) rfl
  have l0:=R0.lt
  have qR1:=R1.cell (j:=0) rfl
  have lR1:=R1.lt
  go_wp2_with fail
  refine (KR.out hfew _ ex).mono ?_
  rintro _ w8 ⟨_,rfl,hb,u2,rfl,hu2⟩
  obtain ⟨ub,ud,rfl,_⟩:=hu2.form
  replace R0:=(R0.ext hb).alloc (.cells #[.slice ub el.length ud] 38)
  replace R1:=(R1.ext hb).alloc (.cells #[.slice ub el.length ud] 38)
  replace RA:=(RA.ext hb).alloc (.cells #[.slice ub el.length ud] 38)
  have RB:=row_new w8 [.slice ub el.length ud] 38
  replace HU:=Lib.hid ((HU.out.ext hb).ext (ext_alloc w8 (.cells #[.slice ub el.length ud] 38)))
  have HV:=Lib.hid (hu2.ext (ext_alloc w8 (.cells #[.slice ub el.length ud] 38)))
  replace ex:=ext_alloc' (ext_trans ex hb) (.cells #[.slice ub el.length ud] 38)
  clear hb KR hu2 t0 t1 t2 t3 t4 t5 t6 t7 t8 t9 l0 qR1 lR1
  go_wp2
  obtain ⟨w9,hw9⟩:∃w9,w9=w8.alloc (.cells #[.slice ub el.length ud] 38):=⟨_,rfl⟩
  obtain ⟨BB,hBB⟩:∃BB,BB=w8.heap.size:=⟨_,rfl⟩
  obtain ⟨BA,hBA⟩:∃BA,BA=w3.heap.size:=⟨_,rfl⟩
  rw[←hw9]at R0 R1 RA RB HU HV ex ⊢
  rw[←hBB]at RB ⊢
  rw[←hBA]at RA ⊢
  clear hw9 hBB hBA
  have KEEP:Hid (∀w',Below w9.heap.size w9 w'→(fun w':World=>w'.cell? ⟨w.heap.size,0,none⟩=some (.int .i64 s.p.n)∧w'.cell? ⟨w.heap.size,1,none⟩=some (.int .i64 s.p.ins)∧w'.cell? ⟨w.heap.size,2,none⟩=some (.int .i64 s.p.outs)∧w'.cell? ⟨w.heap.size,3,none⟩=some (.slice ca s.p.cs.length cc)∧w'.cell? ⟨w.heap.size,4,none⟩=some (.int .i64 s.p.an)∧w'.cell? ⟨w.heap.size,5,none⟩=some (.slice sa s.p.st.length sc)∧w'.cell? ⟨w.heap.size,6,none⟩=some (.int .i64 s.p.rounds)∧w'.cell? ⟨w.heap.size,7,none⟩=some (.int .i64 s.tn)∧w'.cell? ⟨w.heap.size,8,none⟩=some (.slice ta s.tab.length tc)∧w'.cell? ⟨w.heap.size,9,none⟩=some (.slice xa s.ex.length xc)∧w'.cell? ⟨w.heap.size+1,0,none⟩=some (.slice ax1 x1.length cx1)∧w'.cell? ⟨BA,0,none⟩=some (.slice ua el.length uc)∧w'.cell? ⟨BB,0,none⟩=some (.slice ub el.length ud)) w'):=Lib.hid fun w' hw=>⟨(R0.ext hw).cell (j:=0) rfl,(R0.ext hw).cell (j:=1) rfl,(R0.ext hw).cell (j:=2) rfl,(R0.ext hw).cell (j:=3) rfl,(R0.ext hw).cell (j:=4) rfl,(R0.ext hw).cell (j:=5) rfl,(R0.ext hw).cell (j:=6) rfl,(R0.ext hw).cell (j:=7) rfl,(R0.ext hw).cell (j:=8) rfl,(R0.ext hw).cell (j:=9) rfl,(R1.ext hw).cell (j:=0) rfl,(RA.ext hw).cell (j:=0) rfl,(RB.ext hw).cell (j:=0) rfl⟩
  have HX:=Lib.hid ex
  clear R0 R1 RA RB ex
  refine region_E (fun w':World=>w'.cell? ⟨w.heap.size,0,none⟩=some (.int .i64 s.p.n)∧w'.cell? ⟨w.heap.size,1,none⟩=some (.int .i64 s.p.ins)∧w'.cell? ⟨w.heap.size,2,none⟩=some (.int .i64 s.p.outs)∧w'.cell? ⟨w.heap.size,3,none⟩=some (.slice ca s.p.cs.length cc)∧w'.cell? ⟨w.heap.size,4,none⟩=some (.int .i64 s.p.an)∧w'.cell? ⟨w.heap.size,5,none⟩=some (.slice sa s.p.st.length sc)∧w'.cell? ⟨w.heap.size,6,none⟩=some (.int .i64 s.p.rounds)∧w'.cell? ⟨w.heap.size,7,none⟩=some (.int .i64 s.tn)∧w'.cell? ⟨w.heap.size,8,none⟩=some (.slice ta s.tab.length tc)∧w'.cell? ⟨w.heap.size,9,none⟩=some (.slice xa s.ex.length xc)∧w'.cell? ⟨w.heap.size+1,0,none⟩=some (.slice ax1 x1.length cx1)∧w'.cell? ⟨BA,0,none⟩=some (.slice ua el.length uc)∧w'.cell? ⟨BB,0,none⟩=some (.slice ub el.length ud)) (fun i=>false) (by kernel_rfl) ?_ (fun hHeld=>?_)
  · exact KEEP.out _ (drewN_below w9.heap.size w9 1)
  refine anyE_take 0 (v:=?_) rfl (by kernel_rfl) (fun _ _ _ h=>h) (by rfl) ?hy0 hHeld ?rest0
  case hy0=>(intro w hSw;(try dsimp only at hSw);go_simp;try with_reducible rfl)
  try simp only[Act.put,zsa,zsz,zss]
  refine anyE_take 1 (v:=?_) rfl (by kernel_rfl) (fun _ _ _ h=>h) (by rfl) ?hy1 hHeld ?rest1
  case hy1=>(intro w hSw;(try dsimp only at hSw);go_simp;try with_reducible rfl)
  try simp only[Act.put,zsa,zsz,zss]
  refine anyE_take 3 (v:=?_) rfl (by kernel_rfl) (fun _ _ _ h=>h) (by rfl) ?hy3 hHeld ?rest3
  case hy3=>(intro w hSw;(try dsimp only at hSw);go_simp;try with_reducible rfl)
  try simp only[Act.put,zsa,zsz,zss]
  refine anyE_take 4 (v:=?_) rfl (by kernel_rfl) (fun _ _ _ h=>h) (by rfl) ?hy4 hHeld ?rest4
  case hy4=>(intro w hSw;(try dsimp only at hSw);go_simp;try with_reducible rfl)
  try simp only[Act.put,zsa,zsz,zss]
  refine anyE_one 2 rfl (by kernel_rfl) (fun K hK=>?_)
  (go_simp;go_at_call 16;refine (KP2.out hfew _ (ext_trans HX.out (drewN_below w9.heap.size w9 1))).mono ?_;rintro _ v1 ⟨_,rfl,hb,rfl⟩;have y1:=ext_trans (drewN_below w9.heap.size w9 1) hb;clear hb)
  refine hK.out _ _ (fun _=>KEEP.out _ y1) (fun hHeld=>?_);replace hHeld:=hHeld rfl
  clear hK K
  try simp only[Act.put,zsa,zsz,zss]
  refine anyE_one 5 rfl (by kernel_rfl) (fun K hK=>?_)
  (go_simp;go_at_call 17;refine (KR2.out hfew _ (ext_trans HX.out y1)).mono ?_;rintro _ v2 ⟨_,rfl,hb,rfl⟩;have y2:=ext_trans y1 hb;clear hb)
  refine hK.out _ _ (fun _=>KEEP.out _ y2) (fun hHeld=>?_);replace hHeld:=hHeld rfl
  clear hK K
  try simp only[Act.put,zsa,zsz,zss]
  refine anyE_take 6 (v:=?_) rfl (by kernel_rfl) (fun _ _ _ h=>h) (by rfl) ?hy6 hHeld ?rest6
  case hy6=>(intro w hSw;(try dsimp only at hSw);go_simp;try with_reducible rfl)
  try simp only[Act.put,zsa,zsz,zss]
  refine anyE_take 7 (v:=?_) rfl (by kernel_rfl) (fun _ _ _ h=>h) (by rfl) ?hy7 hHeld ?rest7
  case hy7=>(intro w hSw;(try dsimp only at hSw);go_simp;try with_reducible rfl)
  try simp only[Act.put,zsa,zsz,zss]
  refine anyE_take 8 (v:=?_) rfl (by kernel_rfl) (fun _ _ _ h=>h) (by rfl) ?hy8 hHeld ?rest8
  case hy8=>(intro w hSw;(try dsimp only at hSw);go_simp;try with_reducible rfl)
  try simp only[Act.put,zsa,zsz,zss]
  refine anyE_take 9 (v:=?_) rfl (by kernel_rfl) (fun _ _ _ h=>h) (by rfl) ?hy9 hHeld ?rest9
  case hy9=>(intro w hSw;(try dsimp only at hSw);go_simp;try with_reducible rfl)
  try simp only[Act.put,zsa,zsz,zss]
  refine anyE_one 10 rfl (by kernel_rfl) (fun K hK=>?_)
  (go_simp;go_at_call 18;refine (rsame_calls (HU.out.ext y2) (HV.out.ext y2)).mono ?_;rintro _ v3 ⟨_,rfl,hb,rfl⟩;have y3:=ext_trans y2 hb;clear hb)
  refine hK.out _ _ (fun _=>KEEP.out _ y3) (fun hHeld=>?_);replace hHeld:=hHeld rfl
  clear hK K
  try simp only[Act.put,zsa,zsz,zss]
  refine anyE_take 11 (v:=?_) rfl (by kernel_rfl) (fun _ _ _ h=>h) (by rfl) ?hy11 hHeld ?rest11
  case hy11=>(intro w hSw;(try dsimp only at hSw);go_simp;try with_reducible rfl)
  try simp only[Act.put,zsa,zsz,zss]
  refine anyE_take 12 (v:=?_) rfl (by kernel_rfl) (fun _ _ _ h=>h) (by rfl) ?hy12 hHeld ?rest12
  case hy12=>(intro w hSw;(try dsimp only at hSw);go_simp;try with_reducible rfl)
  try simp only[Act.put,zsa,zsz,zss]
  refine anyE_take 13 (v:=?_) rfl (by kernel_rfl) (fun _ _ _ h=>h) (by rfl) ?hy13 hHeld ?rest13
  case hy13=>(intro w hSw;(try dsimp only at hSw);go_simp;try with_reducible rfl)
  try simp only[Act.put,zsa,zsz,zss]
  refine anyE_take 14 (v:=?_) rfl (by kernel_rfl) (fun _ _ _ h=>h) (by rfl) ?hy14 hHeld ?rest14
  case hy14=>(intro w hSw;(try dsimp only at hSw);go_simp;try with_reducible rfl)
  try simp only[Act.put,zsa,zsz,zss]
  refine anyE_take 15 (v:=?_) rfl (by kernel_rfl) (fun _ _ _ h=>h) (by rfl) ?hy15 hHeld ?rest15
  case hy15=>(intro w hSw;(try dsimp only at hSw);go_simp;try with_reducible rfl)
  try simp only[Act.put,zsa,zsz,zss]
  refine anyE_take 16 (v:=?_) rfl (by kernel_rfl) (fun _ _ _ h=>h) (by rfl) ?hy16 hHeld ?rest16
  case hy16=>(intro w hSw;(try dsimp only at hSw);go_simp;try with_reducible rfl)
  try simp only[Act.put,zsa,zsz,zss]
  refine anyE_take 17 (v:=?_) rfl (by kernel_rfl) (fun _ _ _ h=>h) (by rfl) ?hy17 hHeld ?rest17
  case hy17=>(intro w hSw;(try dsimp only at hSw);go_simp;try with_reducible rfl)
  try simp only[Act.put,zsa,zsz,zss]
  refine anyE_one 18 rfl (by kernel_rfl) (fun K hK=>?_)
  (go_simp;go_at_call 13;refine (awake_calls _).mono ?_;rintro _ v4 ⟨_,rfl,hb,rfl⟩;have y4:=ext_trans y3 hb;clear hb)
  refine hK.out _ _ (fun _=>KEEP.out _ y4) (fun hHeld=>?_);replace hHeld:=hHeld rfl
  clear hK K
  try simp only[Act.put,zsa,zsz,zss]
  refine anyE_take 19 (v:=?_) rfl (by kernel_rfl) (fun _ _ _ h=>h) (by rfl) ?hy19 hHeld ?rest19
  case hy19=>(intro w hSw;(try dsimp only at hSw);go_simp;try with_reducible rfl)
  try simp only[Act.put,zsa,zsz,zss]
  refine anyE_take 20 (v:=?_) rfl (by kernel_rfl) (fun _ _ _ h=>h) (by rfl) ?hy20 hHeld ?rest20
  case hy20=>(intro w hSw;(try dsimp only at hSw);go_simp;try with_reducible rfl)
  try simp only[Act.put,zsa,zsz,zss]
  refine anyE_done (by kernel_rfl) ?_ _
  have HE:=Lib.hid (ext_trans HX.out y4)
  clear hHeld KEEP KP2 KR2 HU HV y1 y2 y3 y4 HX
  go_wp2
  go_ret
  exact .mk HE.out rfl
end Go.Proofs.YtcopehiceihdaaaGreat
