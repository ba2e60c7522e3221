/- The reference's Negate; Bind of both sides. -/
import Derived.Test.YtifkkajgcekafaaDoorExTop
import Derived.Test.YtifkkajgcekafaaDoorExRNeg
import Derived.Test.YtifkkajgcekafaaDoorExRBound
import Derived.Deep.DeepCutAuto
namespace Go.Proofs.YtifkkajgcekafaaDoor
set_option linter.unusedVariables false
open Go.RowKit
attribute [local go_sem ↓] Go.wp_at_zero Go.wp_at_succ

def bindR (e : Ex) (vars value : Int) : Ex × Int :=
  if checkE e vars ≠ 0 then (numE 0, checkE e vars) else if vars = 0 then (numE 0, 6) else if small value = false then (numE 0, 2) else (boundE value e, 0)

set_option maxRecDepth 100000 in
set_option maxHeartbeats 4000000 in
theorem refNegate_calls {S : Nat → Prop} {w : World} {e : Ex} {v : Value} (h : ExprV S w e v) (hsz : sizeE e ≤ 1000) (vars : Int) :
    Calls Tryd.prog 33 #[v, .int .i64 vars] w (Post w fun W' r => PairP (fun b => (S b ∧ b < w.heap.size) ∨ w.heap.size ≤ b) (negR e vars) W' r) := by
  obtain ⟨a, cap, rfl, eo, en, ae, l1, l2⟩ := h.parts
  have HE := h.bound
  have ex1 := ext_alloc' (ext_alloc w (.cells #[.int .i64 e.op, .int .i64 e.num, .slice a e.args.length cap] 24)) (.cells #[.int .i64 0, .int .i64 0, .slice none 0 0] 24)
  have r1 := (row_new w [.int .i64 e.op, .int .i64 e.num, .slice a e.args.length cap] 24).alloc (.cells #[.int .i64 0, .int .i64 0, .slice none 0 0] 24)
  have rR := row_new (w.alloc (.cells #[.int .i64 e.op, .int .i64 e.num, .slice a e.args.length cap] 24)) [.int .i64 0, .int .i64 0, .slice none 0 0] 24
  rw [World.size_alloc] at rR
  obtain ⟨c, hc⟩ : ∃ c, c = checkE e vars := ⟨_, rfl⟩
  have HC := Lib.hid hc
  have CHK := Lib.hid (refCheck_calls (HE.ext ex1) (by omega) vars)
  rw [← hc] at CHK
  obtain ⟨R, hR⟩ : ∃ R, R = negR e vars := ⟨_, rfl⟩
  rw [← hR]
  have HR := Lib.hid hR
  clear hc hR
  go_enter Tryd.func33, Tryd.ntmps33
  go_wp2_with fail
  refine CHK.out.mono ?_
  rintro _ w1 ⟨_, rfl, hb1, rfl⟩
  have e1 := ext_trans ex1 hb1
  obtain ⟨x0, x1, x2⟩ := (r1.ext hb1).three
  have rR1 := rR.ext hb1
  obtain ⟨r0, r1', r2⟩ := rR1.three
  have q0 := rR1.free 0
  have q1 := rR1.free 1
  have q2 := rR1.free 2
  have lR := rR1.lt
  by_cases hc0 : c = 0
  · have dc : (c != 0) = false := by simpa using hc0
    have HC0 := Lib.hid hc0
    clear hc0
    obtain ⟨hwf, _, _, hsz1, _⟩ := Wf.of_check (e := e) (vars := vars) (HC.out.symm.trans HC0.out)
    obtain ⟨hk0, hk15⟩ := known_of_wf hwf
    have KO := Lib.hid (kindOf_quiet w1 e.op hk0 hk15)
    obtain ⟨kd, hkd⟩ : ∃ kd, kd = kindOf e.op := ⟨_, rfl⟩
    rw [← hkd] at KO
    have HKD := Lib.hid hkd
    clear hkd
    go_wp2_with fail
    refine (KO.out.mono fun _ _ h => h.post).mono ?_
    rintro _ w2 ⟨_, rfl, hb2, rfl⟩
    have e2 := ext_trans e1 hb2
    have hb12 := ext_trans hb1 hb2
    clear x0 x1 x2
    obtain ⟨x0, x1, x2⟩ := (r1.ext hb12).three
    have rR2 := rR1.ext hb2
    have lR2 := rR2.lt
    clear r0 r1' r2 q0 q1 q2
    obtain ⟨r0, r1', r2⟩ := (rR2).three
    have q0 := (rR2).free 0
    have q1 := (rR2).free 1
    have q2 := (rR2).free 2
    by_cases hk1 : kd = 1
    · have dk : (kd != 1) = false := by simpa using hk1
      have HK1 := Lib.hid hk1
      clear hk1
      have hop := Opp.neg hwf (HKD.out.symm.trans HK1.out)
      have hns := hop.size
      go_wp2_with fail
      refine (rnegated_all hwf (HKD.out.symm.trans HK1.out) _ w2 _ (HE.ext e2)).mono ?_
      rintro _ w3 ⟨v3, rfl, hb3, hx3⟩
      obtain ⟨X, hX⟩ : ∃ X, X = negE e := ⟨_, rfl⟩
      rw [← hX] at hx3 hns
      have HX := Lib.hid hX
      clear hX
      obtain ⟨a3, c3, rfl, _⟩ := hx3.parts
      have e3 := ext_trans e2 hb3
      have hs2 := hb3.size
      have CH2 := Lib.hid (fun W' (hW' : Below w3.heap.size w3 W') => refCheck_calls (hx3.ext hW') (by omega) vars)
      obtain ⟨d, hd⟩ : ∃ d, d = checkE X vars := ⟨_, rfl⟩
      rw [← hd] at CH2
      have HD := Lib.hid hd
      clear hd
      go_wp2_with fail
      have ew := ext_alloc w3 (.cells #[.int .i64 X.op, .int .i64 X.num, .slice a3 X.args.length c3] 24)
      have rX := row_new w3 [.int .i64 X.op, .int .i64 X.num, .slice a3 X.args.length c3] 24
      refine (CH2.out _ ew).mono ?_
      rintro _ w4 ⟨_, rfl, hb4, rfl⟩
      have e34 := ext_trans ew hb4
      have e4 := ext_trans e3 e34
      have rR3 := (rR2.ext hb3).ext e34
      have rX4 := rX.ext hb4
      clear r0 r1' r2 q0 q1 q2
      obtain ⟨r0, r1', r2⟩ := (rR3).three
      have q0 := (rR3).free 0
      have q1 := (rR3).free 1
      have q2 := (rR3).free 2
      have lR3 := rR3.lt
      obtain ⟨y0, y1, y2⟩ := rX4.three
      by_cases hd0 : d = 0
      · have dd : (d != 0) = false := by simpa using hd0
        have HD0 := Lib.hid hd0
        clear hd0
        go_wp2
        refine bodyPost_ret (v := .tuple #[.agg #[.int .i64 X.op, .int .i64 X.num, .slice a3 X.args.length c3], .int .i64 0]) (by simp [results, Tryd.results33, go_sem, r0, r1', r2]) rfl ?_
        exact .mk (set3_below _ _ _ e4 (by omega)) (.mk' (x := X) (HR.out.trans (by unfold negR; rw [← HC.out, if_neg (by rw [HC0.out]; simp), ← HKD.out, if_neg (by rw [HK1.out]; simp), ← HX.out, ← HD.out, if_neg (by rw [HD0.out]; simp)])) (set3_exprU _ _ _ (hx3.ext e34) (fun hc => by rcases hc with hc | hc; have := hc.2; omega; omega) (fun b hc => by rcases hc with hc | hc; exact .inl hc; exact .inr (by omega))))
      · have dd : (d != 0) = true := by simpa using hd0
        have HD0 := Lib.hid hd0
        clear hd0
        go_wp2
        refine bodyPost_ret (v := .tuple #[.agg #[.int .i64 0, .int .i64 0, .slice none 0 0], .int .i64 d]) (by simp [results, Tryd.results33, go_sem, r0, r1', r2]) rfl ?_
        exact .mk (set3_below _ _ _ e4 (by omega)) (.mk' (x := numE 0) (HR.out.trans (by unfold negR; rw [← HC.out, if_neg (by rw [HC0.out]; simp), ← HKD.out, if_neg (by rw [HK1.out]; simp), ← HX.out, ← HD.out, if_pos HD0.out])) (.nilargs _ _ (by unfold WF; omega) (by unfold WF; omega)))
    · have dk : (kd != 1) = true := by simpa using hk1
      have HK1 := Lib.hid hk1
      clear hk1
      go_wp2
      refine bodyPost_ret (v := .tuple #[.agg #[.int .i64 0, .int .i64 0, .slice none 0 0], .int .i64 9]) (by simp [results, Tryd.results33, go_sem, r0, r1', r2]) rfl ?_
      exact .mk (set3_below _ _ _ e2 (by omega)) (.mk' (x := numE 0) (HR.out.trans (by unfold negR; rw [← HC.out, if_neg (by rw [HC0.out]; simp), ← HKD.out, if_pos HK1.out])) (.nilargs _ _ (by unfold WF; omega) (by unfold WF; omega)))
  · have dc : (c != 0) = true := by simpa using hc0
    have HC0 := Lib.hid hc0
    clear hc0
    go_wp2
    refine bodyPost_ret (v := .tuple #[.agg #[.int .i64 0, .int .i64 0, .slice none 0 0], .int .i64 c]) (by simp [results, Tryd.results33, go_sem, r0, r1', r2]) rfl ?_
    exact .mk (set3_below _ _ _ e1 (by omega)) (.mk' (x := numE 0) (HR.out.trans (by unfold negR; rw [← HC.out, if_pos HC0.out])) (.nilargs _ _ (by unfold WF; omega) (by unfold WF; omega)))

set_option maxRecDepth 100000 in
set_option maxHeartbeats 4000000 in
theorem bind_calls {S : Nat → Prop} {w : World} {e : Ex} {v : Value} (hT : Tab w) (h : ExprV S w e v) (hsz : sizeE e ≤ 1000) (vars value : Int) (hvw : WF value) :
    Calls Tryd.prog 34 #[v, .int .i64 vars, .int .i64 value] w (Post w fun W' r => PairP (fun b => w.heap.size ≤ b) (bindR e vars value) W' r) := by
  obtain ⟨a, cap, rfl, eo, en, ae, l1, l2⟩ := h.parts
  obtain ⟨w0, hw0⟩ : ∃ w0, w0 = ((w.alloc (.cells #[.int .i64 e.op, .int .i64 e.num, .slice a e.args.length cap] 24)).alloc (.cells #[.int .i64 value] 3)).alloc (.cells #[.int .i64 0, .int .i64 0, .slice none 0 0] 24) := ⟨_, rfl⟩
  have e0 : Below w.heap.size w w0 := by rw [hw0]; exact ext_alloc' (ext_alloc' (ext_alloc w _) _) _
  have rE : Row w0 w.heap.size 24 [.int .i64 e.op, .int .i64 e.num, .slice a e.args.length cap] := by rw [hw0]; exact ((row_new w [.int .i64 e.op, .int .i64 e.num, .slice a e.args.length cap] 24).alloc _).alloc _
  have rV : Row w0 (w.heap.size + 1) 3 [.int .i64 value] := by
    have r2 := (row_new (w.alloc (.cells #[.int .i64 e.op, .int .i64 e.num, .slice a e.args.length cap] 24)) [.int .i64 value] 3).alloc (.cells #[.int .i64 0, .int .i64 0, .slice none 0 0] 24)
    rw [World.size_alloc] at r2
    rw [hw0]
    exact r2
  have rR : Row w0 (w.heap.size + 2) 24 [.int .i64 0, .int .i64 0, .slice none 0 0] := by
    have r2 := row_new ((w.alloc (.cells #[.int .i64 e.op, .int .i64 e.num, .slice a e.args.length cap] 24)).alloc (.cells #[.int .i64 value] 3)) [.int .i64 0, .int .i64 0, .slice none 0 0] 24
    rw [World.size_alloc, World.size_alloc] at r2
    rw [hw0]
    exact r2
  have HE := h.ext e0
  obtain ⟨c, hc⟩ : ∃ c, c = checkE e vars := ⟨_, rfl⟩
  have HC := Lib.hid hc
  have CHK := Lib.hid (check_calls (hT.ext e0) HE (by omega) vars)
  rw [← hc] at CHK
  obtain ⟨R, hR⟩ : ∃ R, R = bindR e vars value := ⟨_, rfl⟩
  rw [← hR]
  have HR := Lib.hid hR
  clear hc hR
  obtain ⟨x0, x1, x2⟩ := rE.three
  go_enter Tryd.func34, Tryd.ntmps34
  go_upto_region 1 with fail
  rw [← hw0]
  clear hw0
  go_wp2_with fail
  refine CHK.out.mono ?_
  rintro _ w1 ⟨_, rfl, hb1, rfl⟩
  have e1 := ext_trans e0 hb1
  clear x0 x1 x2
  obtain ⟨x0, x1, x2⟩ := (rE.ext hb1).three
  have rR1 := rR.ext hb1
  have y0 := (rV.ext hb1).cell (j := 0) rfl
  obtain ⟨r0, r1', r2⟩ := rR1.three
  have q0 := rR1.free 0
  have q1 := rR1.free 1
  have q2 := rR1.free 2
  have lR := rR1.lt
  by_cases hc0 : c = 0
  · have dc : (c != 0) = false := by simpa using hc0
    have HC0 := Lib.hid hc0
    clear hc0
    have hwf := (Wf.of_check (e := e) (vars := vars) (HC.out.symm.trans HC0.out)).1
    by_cases hv0 : vars = 0
    · have dv : (vars == 0) = true := beq_iff_eq.2 hv0
      have HV := Lib.hid hv0
      clear hv0
      go_wp2
      refine bodyPost_ret (v := .tuple #[.agg #[.int .i64 0, .int .i64 0, .slice none 0 0], .int .i64 6]) (by simp [results, Tryd.results34, go_sem, r0, r1', r2]) rfl ?_
      exact .mk (set3_below _ _ _ e1 (by omega)) (.mk' (x := numE 0) (HR.out.trans (by unfold bindR; rw [← HC.out, if_neg (by rw [HC0.out]; simp), if_pos HV.out])) (.nilargs _ _ (by unfold WF; omega) (by unfold WF; omega)))
    · have dv : (vars == 0) = false := beq_eq_false_iff_ne.2 hv0
      have HV := Lib.hid hv0
      clear hv0
      cases gz : small value with
      | false =>
        have GZ := Lib.hid gz
        have SM := Lib.hid (small_quiet w1 value)
        rw [gz] at SM
        clear gz
        go_wp2_with fail
        refine (SM.out.mono fun _ _ h => h.post).mono ?_
        rintro _ w2 ⟨_, rfl, hb2, rfl⟩
        have rR2 := rR1.ext hb2
        clear r0 r1' r2 q0 q1 q2
        obtain ⟨r0, r1', r2⟩ := (rR2).three
        have q0 := (rR2).free 0
        have q1 := (rR2).free 1
        have q2 := (rR2).free 2
        go_wp2
        refine bodyPost_ret (v := .tuple #[.agg #[.int .i64 0, .int .i64 0, .slice none 0 0], .int .i64 2]) (by simp [results, Tryd.results34, go_sem, r0, r1', r2]) rfl ?_
        exact .mk (set3_below _ _ _ (ext_trans e1 hb2) (by omega)) (.mk' (x := numE 0) (HR.out.trans (by unfold bindR; rw [← HC.out, if_neg (by rw [HC0.out]; simp), if_neg HV.out, if_pos GZ.out])) (.nilargs _ _ (by unfold WF; omega) (by unfold WF; omega)))
      | true =>
        have GZ := Lib.hid gz
        have SM := Lib.hid (small_quiet w1 value)
        rw [gz] at SM
        clear gz
        go_wp2_with fail
        refine (SM.out.mono fun _ _ h => h.post).mono ?_
        rintro _ w2 ⟨_, rfl, hb2, rfl⟩
        have e2 := ext_trans e1 hb2
        have hb12 := ext_trans hb1 hb2
        clear x0 x1 x2 y0
        obtain ⟨x0, x1, x2⟩ := (rE.ext hb12).three
        have y0 := (rV.ext hb12).cell (j := 0) rfl
        have rR2 := rR1.ext hb2
        have lR2 := rR2.lt
        have CB := Lib.hid (copyB_all value hvw hwf hsz (S := fun b => S b) (W := w2) (Bv := w.heap.size + 1) _ y0 (h.ext e2))
        go_wp2_with fail
        refine CB.out.mono ?_
        rintro _ w3 ⟨v3, rfl, hb3, hx3⟩
        obtain ⟨X, hX⟩ : ∃ X, X = boundE value e := ⟨_, rfl⟩
        rw [← hX] at hx3
        have HX := Lib.hid hX
        clear hX
        obtain ⟨a3, c3, rfl, _⟩ := hx3.parts
        have rR3 := rR2.ext hb3
        clear r0 r1' r2 q0 q1 q2
        obtain ⟨r0, r1', r2⟩ := (rR3).three
        have q0 := (rR3).free 0
        have q1 := (rR3).free 1
        have q2 := (rR3).free 2
        go_wp2
        refine bodyPost_ret (v := .tuple #[.agg #[.int .i64 X.op, .int .i64 X.num, .slice a3 X.args.length c3], .int .i64 0]) (by simp [results, Tryd.results34, go_sem, r0, r1', r2]) rfl ?_
        exact .mk (set3_below _ _ _ (ext_trans e2 hb3) (by omega)) (.mk' (x := X) (HR.out.trans (by unfold bindR; rw [← HC.out, if_neg (by rw [HC0.out]; simp), if_neg HV.out, if_neg (by rw [GZ.out]; simp), HX.out])) ((set3_expr (base := w2.heap.size) _ _ _ hx3 (by omega)).mono fun b h => by omega))
  · have dc : (c != 0) = true := by simpa using hc0
    have HC0 := Lib.hid hc0
    clear hc0
    go_wp2
    refine bodyPost_ret (v := .tuple #[.agg #[.int .i64 0, .int .i64 0, .slice none 0 0], .int .i64 c]) (by simp [results, Tryd.results34, go_sem, r0, r1', r2]) rfl ?_
    exact .mk (set3_below _ _ _ e1 (by omega)) (.mk' (x := numE 0) (HR.out.trans (by unfold bindR; rw [← HC.out, if_pos HC0.out])) (.nilargs _ _ (by unfold WF; omega) (by unfold WF; omega)))

set_option maxRecDepth 100000 in
set_option maxHeartbeats 4000000 in
theorem refBind_calls {S : Nat → Prop} {w : World} {e : Ex} {v : Value} (h : ExprV S w e v) (hsz : sizeE e ≤ 1000) (vars value : Int) (hvw : WF value) :
    Calls Tryd.prog 35 #[v, .int .i64 vars, .int .i64 value] w (Post w fun W' r => PairP (fun b => w.heap.size ≤ b) (bindR e vars value) W' r) := by
  obtain ⟨a, cap, rfl, eo, en, ae, l1, l2⟩ := h.parts
  obtain ⟨w0, hw0⟩ : ∃ w0, w0 = (w.alloc (.cells #[.int .i64 e.op, .int .i64 e.num, .slice a e.args.length cap] 24)).alloc (.cells #[.int .i64 0, .int .i64 0, .slice none 0 0] 24) := ⟨_, rfl⟩
  have e0 : Below w.heap.size w w0 := by rw [hw0]; exact ext_alloc' (ext_alloc w _) _
  have rE : Row w0 w.heap.size 24 [.int .i64 e.op, .int .i64 e.num, .slice a e.args.length cap] := by rw [hw0]; exact (row_new w [.int .i64 e.op, .int .i64 e.num, .slice a e.args.length cap] 24).alloc _
  have rR : Row w0 (w.heap.size + 1) 24 [.int .i64 0, .int .i64 0, .slice none 0 0] := by
    have r2 := row_new (w.alloc (.cells #[.int .i64 e.op, .int .i64 e.num, .slice a e.args.length cap] 24)) [.int .i64 0, .int .i64 0, .slice none 0 0] 24
    rw [World.size_alloc] at r2
    rw [hw0]
    exact r2
  have HE := h.ext e0
  obtain ⟨c, hc⟩ : ∃ c, c = checkE e vars := ⟨_, rfl⟩
  have HC := Lib.hid hc
  have CHK := Lib.hid (refCheck_calls HE (by omega) vars)
  rw [← hc] at CHK
  obtain ⟨R, hR⟩ : ∃ R, R = bindR e vars value := ⟨_, rfl⟩
  rw [← hR]
  have HR := Lib.hid hR
  clear hc hR
  obtain ⟨x0, x1, x2⟩ := rE.three
  go_enter Tryd.func35, Tryd.ntmps35
  go_upto_region 1 with fail
  rw [← hw0]
  clear hw0
  go_wp2_with fail
  refine CHK.out.mono ?_
  rintro _ w1 ⟨_, rfl, hb1, rfl⟩
  have e1 := ext_trans e0 hb1
  clear x0 x1 x2
  obtain ⟨x0, x1, x2⟩ := (rE.ext hb1).three
  have rR1 := rR.ext hb1

  obtain ⟨r0, r1', r2⟩ := rR1.three
  have q0 := rR1.free 0
  have q1 := rR1.free 1
  have q2 := rR1.free 2
  have lR := rR1.lt
  by_cases hc0 : c = 0
  · have dc : (c != 0) = false := by simpa using hc0
    have HC0 := Lib.hid hc0
    clear hc0
    have hwf := (Wf.of_check (e := e) (vars := vars) (HC.out.symm.trans HC0.out)).1
    by_cases hv0 : vars = 0
    · have dv : (vars == 0) = true := beq_iff_eq.2 hv0
      have HV := Lib.hid hv0
      clear hv0
      go_wp2
      refine bodyPost_ret (v := .tuple #[.agg #[.int .i64 0, .int .i64 0, .slice none 0 0], .int .i64 6]) (by simp [results, Tryd.results35, go_sem, r0, r1', r2]) rfl ?_
      exact .mk (set3_below _ _ _ e1 (by omega)) (.mk' (x := numE 0) (HR.out.trans (by unfold bindR; rw [← HC.out, if_neg (by rw [HC0.out]; simp), if_pos HV.out])) (.nilargs _ _ (by unfold WF; omega) (by unfold WF; omega)))
    · have dv : (vars == 0) = false := beq_eq_false_iff_ne.2 hv0
      have HV := Lib.hid hv0
      clear hv0
      cases gz : small value with
      | false =>
        have GZ := Lib.hid gz
        have hzz : value < -1048576 ∨ 1048576 < value := by
          have : ¬ (-1048576 ≤ value ∧ value ≤ 1048576) := fun h => by rw [small_iff.2 h] at gz; cases gz
          omega
        clear gz
        rcases hzz with hzz | hzz
        all_goals
          go_wp2
          refine bodyPost_ret (v := .tuple #[.agg #[.int .i64 0, .int .i64 0, .slice none 0 0], .int .i64 2]) (by simp [results, Tryd.results35, go_sem, r0, r1', r2]) rfl ?_
          exact .mk (set3_below _ _ _ e1 (by omega)) (.mk' (x := numE 0) (HR.out.trans (by unfold bindR; rw [← HC.out, if_neg (by rw [HC0.out]; simp), if_neg HV.out, if_pos GZ.out])) (.nilargs _ _ (by unfold WF; omega) (by unfold WF; omega)))
      | true =>
        have GZ := Lib.hid gz
        obtain ⟨z0, z1⟩ := small_iff.1 gz
        clear gz
        go_wp2_with fail
        refine (rbound_all value hvw hwf _ w1 _ (h.ext e1)).mono ?_
        rintro _ w3 ⟨v3, rfl, hb3, hx3⟩
        obtain ⟨X, hX⟩ : ∃ X, X = boundE value e := ⟨_, rfl⟩
        rw [← hX] at hx3
        have HX := Lib.hid hX
        clear hX
        obtain ⟨a3, c3, rfl, _⟩ := hx3.parts
        have rR3 := rR1.ext hb3
        clear r0 r1' r2 q0 q1 q2
        obtain ⟨r0, r1', r2⟩ := (rR3).three
        have q0 := (rR3).free 0
        have q1 := (rR3).free 1
        have q2 := (rR3).free 2
        go_wp2
        refine bodyPost_ret (v := .tuple #[.agg #[.int .i64 X.op, .int .i64 X.num, .slice a3 X.args.length c3], .int .i64 0]) (by simp [results, Tryd.results35, go_sem, r0, r1', r2]) rfl ?_
        exact .mk (set3_below _ _ _ (ext_trans e1 hb3) (by omega)) (.mk' (x := X) (HR.out.trans (by unfold bindR; rw [← HC.out, if_neg (by rw [HC0.out]; simp), if_neg HV.out, if_neg (by rw [GZ.out]; simp), HX.out])) ((set3_expr (base := w1.heap.size) _ _ _ hx3 (by omega)).mono fun b h => by omega))
  · have dc : (c != 0) = true := by simpa using hc0
    have HC0 := Lib.hid hc0
    clear hc0
    go_wp2
    refine bodyPost_ret (v := .tuple #[.agg #[.int .i64 0, .int .i64 0, .slice none 0 0], .int .i64 c]) (by simp [results, Tryd.results35, go_sem, r0, r1', r2]) rfl ?_
    exact .mk (set3_below _ _ _ e1 (by omega)) (.mk' (x := numE 0) (HR.out.trans (by unfold bindR; rw [← HC.out, if_pos HC0.out])) (.nilargs _ _ (by unfold WF; omega) (by unfold WF; omega)))

end Go.Proofs.YtifkkajgcekafaaDoor
