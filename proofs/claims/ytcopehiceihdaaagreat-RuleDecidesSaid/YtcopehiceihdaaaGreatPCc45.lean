/- Part of the proof that the laws of chapter 45 answer true for every input. -/
import Derived.Test.YtcopehiceihdaaaGreatPCc44
set_option linter.unusedSimpArgs false
set_option linter.unnecessarySimpa false
set_option linter.unusedVariables false
set_option maxRecDepth 100000
set_option maxHeartbeats 40000000
namespace Go.Proofs.YtcopehiceihdaaaGreat
open Go.RowKit
attribute [local go_sem ↓] Go.wp_at_zero Go.wp_at_succ
theorem rfew_calls {S:Nat→Prop} {w:World} {vch:Value} {ch:List Int} (h:Ints S w vch ch):Calls Tryz.prog 12 #[.agg #[vch]] w (Post w fun _ r=>r=.bool (decide (ch.length≤1000))):=by
  obtain ⟨a,c,rfl,_⟩:=h.form
  have ex:=ext_alloc w (.cells #[.slice a ch.length c] 38)
  have R:=row_new w [.slice a ch.length c] 38
  have r0:=R.cell (j:=0) rfl
  have l0:=R.lt
  have HX:=Lib.hid ex
  clear h ex R
  by_cases hl:ch.length≤1000
  · have d1:decide (ch.length≤1000)=true:=decide_eq_true hl
    rw[d1]
    have HL:=Lib.hid hl
    clear hl
    go_enter Tryz.func12,Tryz.ntmps12
    go_wp2
    go_ret
    exact .mk HX.out (by have:=HL.out;simp;omega)
  · have d1:decide (ch.length≤1000)=false:=decide_eq_false hl
    rw[d1]
    have HL:=Lib.hid hl
    clear hl
    go_enter Tryz.func12,Tryz.ntmps12
    go_wp2
    go_ret
    exact .mk HX.out (by have:=HL.out;simp;omega)
end Go.Proofs.YtcopehiceihdaaaGreat
namespace Go.Proofs.YtcopehiceihdaaaGreat
open Go.RowKit
attribute [local go_sem ↓] Go.wp_at_zero Go.wp_at_succ
theorem ints_none (S:Nat→Prop) (w:World):Ints S w (.slice none 0 0) []:=⟨none,0,rfl,.inl ⟨rfl,rfl⟩,Nat.le_refl _,by simp[maxLen],fun j hj=>by simp at hj,fun x hx=>by simp at hx⟩
def decLst (s:SysF) (ch:List Int) (e:Int):List Int:=if sceneE s ch e=0 then valsL ch (finL s e.toNat) else []
def timLst (s:SysF) (ch:List Int) (e:Int):List Int:=if sceneE s ch e=0 then rndL s ch e.toNat else []
def PairR (l:List Int) (x:Int) (w':World) (r:Value):Prop:=∃u,r=.tuple #[u,.int .i64 x]∧Ints (fun _=>True) w' u l
theorem DecR.pair {B:Nat} {s:SysF} {ch:List Int} {e:Int} {w':World} {r:Value} (h:DecR B s ch e w' r):PairR (decLst s ch e) (sceneE s ch e) w' r:=by
  unfold decLst
  rcases h with ⟨h0,u,h1,h2⟩ | ⟨h0,h1⟩
  · rw[if_pos h0,h0];exact ⟨u,h1,h2.mono fun _ _=>trivial⟩
  · rw[if_neg h0];exact ⟨_,h1,ints_none _ _⟩
theorem TimR.pair {B:Nat} {s:SysF} {ch:List Int} {e:Int} {w':World} {r:Value} (h:TimR B s ch e w' r):PairR (timLst s ch e) (sceneE s ch e) w' r:=by
  unfold timLst
  rcases h with ⟨h0,u,h1,h2⟩ | ⟨h0,h1⟩
  · rw[if_pos h0,h0];exact ⟨u,h1,h2.mono fun _ _=>trivial⟩
  · rw[if_neg h0];exact ⟨_,h1,ints_none _ _⟩
theorem post_mono {w w':World} {e:Ending} {R R':World→Value→Prop} (h:Post w R e w') (hR:∀a b,R a b→R' a b):Post w R' e w':=by
  obtain ⟨r,h1,h2,h3⟩:=h
  exact ⟨r,h1,h2,hR _ _ h3⟩
theorem walkRuleDecides {S Sx1:Nat→Prop} {w:World} {v vx1:Value} {s:SysF} {x1:List Int} {e:Int} (h:SysV S w v s) (hx1:Ints Sx1 w vx1 x1):
    Calls Tryz.prog 6 #[v,.agg #[vx1],.int .i64 e] w (Post w fun _ r=>r=.bool true):=by
  have KFS:Hid (∀W,Below w.heap.size w W→Calls Tryz.prog 11 #[v] W (Post W fun _ r=>Tells (FewS s) r)):=Lib.hid fun W hW=>fewS_calls (h.ext hW)
  have KWx1:Hid (∀W,Below w.heap.size w W→Calls Tryz.prog 12 #[.agg #[vx1]] W (Post W fun _ r=>r=.bool (decide (x1.length≤1000)))):=Lib.hid fun W hW=>rfew_calls (hx1.ext hW)
  have KP:Hid (FewS s→∀W,Below w.heap.size w W→Calls Tryz.prog 28 #[v,.agg #[vx1],.int .i64 e] W (Post W (PairR (decLst s x1 e) (sceneE s x1 e)))):=Lib.hid fun hf W hW=>(pDec_calls e (h.ext hW) hf.p.few (hx1.ext hW)).mono fun _ _ h=>post_mono h fun _ _ h=>h.pair
  have KR:Hid (FewS s→∀W,Below w.heap.size w W→Calls Tryz.prog 29 #[v,.agg #[vx1],.int .i64 e] W (Post W (PairR (decLst s x1 e) (sceneE s x1 e)))):=Lib.hid fun hf W hW=>(rDec_calls e (h.ext hW) hf.p.few.small (hx1.ext hW)).mono fun _ _ h=>post_mono h fun _ _ h=>h.pair
  have KP2:Hid (FewS s→∀W,Below w.heap.size w W→Calls Tryz.prog 30 #[v,.agg #[vx1],.int .i64 e] W (Post W (PairR (timLst s x1 e) (sceneE s x1 e)))):=Lib.hid fun hf W hW=>(pTim_calls e (h.ext hW) hf.p.few (hx1.ext hW)).mono fun _ _ h=>post_mono h fun _ _ h=>h.pair
  have KR2:Hid (FewS s→∀W,Below w.heap.size w W→Calls Tryz.prog 31 #[v,.agg #[vx1],.int .i64 e] W (Post W (PairR (timLst s x1 e) (sceneE s x1 e)))):=Lib.hid fun hf W hW=>(rTim_calls e (h.ext hW) hf.p.few.small (hx1.ext hW)).mono fun _ _ h=>post_mono h fun _ _ h=>h.pair
  obtain ⟨d1,hd1⟩:∃d,d=decLst s x1 e:=⟨_,rfl⟩
  obtain ⟨d2,hd2⟩:∃d,d=timLst s x1 e:=⟨_,rfl⟩
  obtain ⟨se,hse⟩:∃d,d=sceneE s x1 e:=⟨_,rfl⟩
  rw[←hd1,←hse]at KP KR
  rw[←hd2,←hse]at KP2 KR2
  clear hd1 hd2 hse
  have g1:(se==se)=true:=by simp
  obtain ⟨vc,vs,vt,vx,rfl,hc,hs,ht,hx⟩:=h
  obtain ⟨ca,cc,rfl,_⟩:=hc.form
  obtain ⟨sa,sc,rfl,_⟩:=hs.form
  obtain ⟨ta,tc,rfl,_⟩:=ht.form
  obtain ⟨xa,xc,rfl,_⟩:=hx.form
  obtain ⟨ax1,cx1,rfl,_⟩:=hx1.form
  have ex:=ext_alloc' (ext_alloc w (.cells #[.int .i64 s.p.n,.int .i64 s.p.ins,.int .i64 s.p.outs,.slice ca s.p.cs.length cc,.int .i64 s.p.an,.slice sa s.p.st.length sc,.int .i64 s.p.rounds,.int .i64 s.tn,.slice ta s.tab.length tc,.slice xa s.ex.length xc] 35)) (.cells #[.slice ax1 x1.length cx1] 38)
  have R0:=(row_new w [.int .i64 s.p.n,.int .i64 s.p.ins,.int .i64 s.p.outs,.slice ca s.p.cs.length cc,.int .i64 s.p.an,.slice sa s.p.st.length sc,.int .i64 s.p.rounds,.int .i64 s.tn,.slice ta s.tab.length tc,.slice xa s.ex.length xc] 35).alloc (.cells #[.slice ax1 x1.length cx1] 38)
  have R1:=row_new (w.alloc (.cells #[.int .i64 s.p.n,.int .i64 s.p.ins,.int .i64 s.p.outs,.slice ca s.p.cs.length cc,.int .i64 s.p.an,.slice sa s.p.st.length sc,.int .i64 s.p.rounds,.int .i64 s.tn,.slice ta s.tab.length tc,.slice xa s.ex.length xc] 35)) [.slice ax1 x1.length cx1] 38
  simp only[World.size_alloc]at R1
  clear hc hs ht hx hx1
  go_enter Tryz.func6,Tryz.ntmps6
  have t0:=R0.cell (j:=0) rfl
  have t1:=R0.cell (j:=1) rfl
  have t2:=R0.cell (j:=2) rfl
  have t3:=R0.cell (j:=3) rfl
  have t4:=R0.cell (j:=4) rfl
  have t5:=R0.cell (j:=5) rfl
  have t6:=R0.cell (j:=6) rfl
  have t7:=R0.cell (j:=7) rfl
  have t8:=R0.cell (j:=8) rfl
  have t9:=R0.cell (j:=9) rfl
  have l0:=R0.lt
  have qR1:=R1.cell (j:=0) rfl
  have lR1:=R1.lt
  go_wp2_with fail
  refine (KFS.out _ ex).mono ?_
  rintro _ w1 ⟨_,rfl,hb,b0,rfl,hb0⟩
  replace R0:=R0.ext hb
  replace R1:=R1.ext hb
  replace ex:=ext_trans ex hb
  clear hb t0 t1 t2 t3 t4 t5 t6 t7 t8 t9 l0 qR1 lR1
  cases b0 with
  | false=>
    go_wp2_with fail
    refine (awake_calls _).mono ?_
    rintro _ w99 ⟨_,rfl,hb,rfl⟩
    replace ex:=ext_trans ex hb
    clear hb R0 R1
    go_wp2
    go_ret
    exact .mk ex rfl
  | true=>
  have hfew:=hb0 rfl
  clear hb0
  obtain ⟨bx1,hbx1⟩:∃b,b=decide (x1.length≤1000):=⟨_,rfl⟩
  rw[←hbx1]at KWx1
  clear hbx1
  have t0:=R0.cell (j:=0) rfl
  have t1:=R0.cell (j:=1) rfl
  have t2:=R0.cell (j:=2) rfl
  have t3:=R0.cell (j:=3) rfl
  have t4:=R0.cell (j:=4) rfl
  have t5:=R0.cell (j:=5) rfl
  have t6:=R0.cell (j:=6) rfl
  have t7:=R0.cell (j:=7) rfl
  have t8:=R0.cell (j:=8) rfl
  have t9:=R0.cell (j:=9) rfl
  have l0:=R0.lt
  have qR1:=R1.cell (j:=0) rfl
  have lR1:=R1.lt
  go_wp2_with fail
  refine (KWx1.out _ ex).mono ?_
  rintro _ w2 ⟨_,rfl,hb,rfl⟩
  replace R0:=R0.ext hb
  replace R1:=R1.ext hb
  replace ex:=ext_trans ex hb
  clear hb t0 t1 t2 t3 t4 t5 t6 t7 t8 t9 l0 qR1 lR1 KWx1
  cases bx1 with
  | false=>
    go_wp2_with fail
    refine (awake_calls _).mono ?_
    rintro _ w99 ⟨_,rfl,hb,rfl⟩
    replace ex:=ext_trans ex hb
    clear hb R0 R1
    go_wp2
    go_ret
    exact .mk ex rfl
  | true=>
  have t0:=R0.cell (j:=0) rfl
  have t1:=R0.cell (j:=1) rfl
  have t2:=R0.cell (j:=2) rfl
  have t3:=R0.cell (j:=3) rfl
  have t4:=R0.cell (j:=4) rfl
  have t5:=R0.cell (j:=5) rfl
  have t6:=R0.cell (j:=6) rfl
  have t7:=R0.cell (j:=7) rfl
  have t8:=R0.cell (j:=8) rfl
  have t9:=R0.cell (j:=9) rfl
  have l0:=R0.lt
  have qR1:=R1.cell (j:=0) rfl
  have lR1:=R1.lt
  go_wp2_with fail
  refine (KP.out hfew _ ex).mono ?_
  rintro _ w3 ⟨_,rfl,hb,u1,rfl,hu1⟩
  replace R0:=R0.ext hb
  replace R1:=R1.ext hb
  replace ex:=ext_trans ex hb
  clear hb t0 t1 t2 t3 t4 t5 t6 t7 t8 t9 l0 qR1 lR1
  obtain ⟨ua1,uc1,rfl,_⟩:=hu1.form
  have Hu1:=Lib.hid hu1
  clear hu1 KP
  have t0:=R0.cell (j:=0) rfl
  have t1:=R0.cell (j:=1) rfl
  have t2:=R0.cell (j:=2) rfl
  have t3:=R0.cell (j:=3) rfl
  have t4:=R0.cell (j:=4) rfl
  have t5:=R0.cell (j:=5) rfl
  have t6:=R0.cell (j:=6) rfl
  have t7:=R0.cell (j:=7) rfl
  have t8:=R0.cell (j:=8) rfl
  have t9:=R0.cell (j:=9) rfl
  have l0:=R0.lt
  have qR1:=R1.cell (j:=0) rfl
  have lR1:=R1.lt
  go_wp2_with fail
  refine (KR.out hfew _ ex).mono ?_
  rintro _ w4x ⟨_,rfl,hb,u2,rfl,hu2⟩
  replace R0:=R0.ext hb
  replace R1:=R1.ext hb
  replace ex:=ext_trans ex hb
  replace Hu1:=Lib.hid (Hu1.out.ext hb)
  clear hb t0 t1 t2 t3 t4 t5 t6 t7 t8 t9 l0 qR1 lR1
  obtain ⟨ua2,uc2,rfl,_⟩:=hu2.form
  have Hu2:=Lib.hid hu2
  clear hu2 KR
  have t0:=R0.cell (j:=0) rfl
  have t1:=R0.cell (j:=1) rfl
  have t2:=R0.cell (j:=2) rfl
  have t3:=R0.cell (j:=3) rfl
  have t4:=R0.cell (j:=4) rfl
  have t5:=R0.cell (j:=5) rfl
  have t6:=R0.cell (j:=6) rfl
  have t7:=R0.cell (j:=7) rfl
  have t8:=R0.cell (j:=8) rfl
  have t9:=R0.cell (j:=9) rfl
  have l0:=R0.lt
  have qR1:=R1.cell (j:=0) rfl
  have lR1:=R1.lt
  go_wp2_with fail
  refine (KP2.out hfew _ ex).mono ?_
  rintro _ w5x ⟨_,rfl,hb,u3,rfl,hu3⟩
  replace R0:=R0.ext hb
  replace R1:=R1.ext hb
  replace ex:=ext_trans ex hb
  replace Hu1:=Lib.hid (Hu1.out.ext hb)
  replace Hu2:=Lib.hid (Hu2.out.ext hb)
  clear hb t0 t1 t2 t3 t4 t5 t6 t7 t8 t9 l0 qR1 lR1
  obtain ⟨ua3,uc3,rfl,_⟩:=hu3.form
  have Hu3:=Lib.hid hu3
  clear hu3 KP2
  have t0:=R0.cell (j:=0) rfl
  have t1:=R0.cell (j:=1) rfl
  have t2:=R0.cell (j:=2) rfl
  have t3:=R0.cell (j:=3) rfl
  have t4:=R0.cell (j:=4) rfl
  have t5:=R0.cell (j:=5) rfl
  have t6:=R0.cell (j:=6) rfl
  have t7:=R0.cell (j:=7) rfl
  have t8:=R0.cell (j:=8) rfl
  have t9:=R0.cell (j:=9) rfl
  have l0:=R0.lt
  have qR1:=R1.cell (j:=0) rfl
  have lR1:=R1.lt
  go_wp2_with fail
  refine (KR2.out hfew _ ex).mono ?_
  rintro _ w6x ⟨_,rfl,hb,u4,rfl,hu4⟩
  replace R0:=R0.ext hb
  replace R1:=R1.ext hb
  replace ex:=ext_trans ex hb
  replace Hu1:=Lib.hid (Hu1.out.ext hb)
  replace Hu2:=Lib.hid (Hu2.out.ext hb)
  replace Hu3:=Lib.hid (Hu3.out.ext hb)
  clear hb t0 t1 t2 t3 t4 t5 t6 t7 t8 t9 l0 qR1 lR1
  obtain ⟨ua4,uc4,rfl,_⟩:=hu4.form
  have Hu4:=Lib.hid hu4
  clear hu4 KR2
  go_wp2_with fail
  refine (equal_same Hu1.out Hu2.out).mono ?_
  rintro _ w7 ⟨_,rfl,hb,rfl⟩
  replace ex:=ext_trans ex hb
  replace Hu3:=Lib.hid (Hu3.out.ext hb)
  replace Hu4:=Lib.hid (Hu4.out.ext hb)
  clear hb Hu1 Hu2 R0 R1
  go_wp2_with fail
  refine (equal_same Hu3.out Hu4.out).mono ?_
  rintro _ w8 ⟨_,rfl,hb,rfl⟩
  replace ex:=ext_trans ex hb
  clear hb Hu3 Hu4
  go_wp2_with fail
  refine (awake_calls _).mono ?_
  rintro _ w99 ⟨_,rfl,hb,rfl⟩
  replace ex:=ext_trans ex hb
  clear hb
  go_wp2
  go_ret
  exact .mk ex rfl
end Go.Proofs.YtcopehiceihdaaaGreat
