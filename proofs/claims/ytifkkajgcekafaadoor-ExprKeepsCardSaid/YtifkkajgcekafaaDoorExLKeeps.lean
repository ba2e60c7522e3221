/- The walk of ExprKeeps. -/
import Derived.Test.YtifkkajgcekafaaDoorExAwake
import Derived.Test.YtifkkajgcekafaaDoorExLaw0
namespace Go.Proofs.YtifkkajgcekafaaDoor
set_option linter.unusedVariables false
open Go.RowKit
attribute [local go_sem ↓] Go.wp_at_zero Go.wp_at_succ

theorem ready_fact {s : Sc} {e : Ex} (h : readyB s e = true) (hl : s.hears.length = 5) : sizeE e ≤ 128 ∧ Wf s.vars.length e ∧ ScOk s ∧ s.vars.length ≤ 24 ∧ checkE e s.vars.length = 0 ∧ scBad s = false := by
  unfold readyB at h
  simp only [Bool.and_eq_true, decide_eq_true_eq] at h
  obtain ⟨⟨h1, h2⟩, h3⟩ := h
  by_cases hc : checkE e s.vars.length = 0
  · cases hb : scBad s with
    | true => have := (evalE_bad hc hb).2; omega
    | false =>
      obtain ⟨k1, k2, k3, k4, k5⟩ := Wf.of_check hc
      exact ⟨k4, k1, scOk_of hb hl, by omega, hc, rfl⟩
  · exact absurd ((evalE_err hc).2.trans h3) hc

theorem vars_small {s : Sc} (hb : scBad s = false) : ∀ x ∈ s.vars, small x = true := by
  unfold scBad at hb
  simp only [Bool.or_eq_false_iff, Bool.not_eq_false'] at hb
  exact ranged_mem hb.2
theorem eval_pair {s : Sc} {e : Ex} (hc : checkE e s.vars.length = 0) (hb : scBad s = false) : evalE s e = (valE s e s.vars, 0) := by
  unfold evalE; rw [if_neg (by simp [hc]), if_neg (by simp [hb])]
theorem kindR_pair {vars : Int} {e : Ex} (h : Wf vars e) : kindR e = (kindOf e.op, 0) := by
  obtain ⟨h0, h1⟩ := known_of_wf h
  unfold kindR
  rw [if_neg]
  unfold arity
  split <;> (try split) <;> (try split) <;> omega
theorem keeps_fact {s : Sc} {e : Ex} (hsz : sizeE e ≤ 128) (hw : Wf s.vars.length e) (ho : ScOk s) (hl : s.vars.length ≤ 24) (hc : checkE e s.vars.length = 0) (hb : scBad s = false) :
    ∃ n k : Int, foldR e s.vars.length = (foldE e, 0) ∧ foldR (foldE e) s.vars.length = (foldE e, 0) ∧ evalE s e = (n, 0) ∧ evalE s (foldE e) = (n, 0) ∧ kindR e = (k, 0) ∧ kindR (foldE e) = (k, 0) ∧ sizeE (foldE e) ≤ sizeE e ∧ usesE (foldE e) &&& usesE e = usesE (foldE e) := by
  have K := Kept.fold hw
  have hd := (Wf.of_check hc).2.2.2.2
  have hc2 : checkE (foldE e) s.vars.length = 0 := K.wf.check (by omega) (by omega) (by have := K.size; omega) (by have := K.depth; omega)
  refine ⟨valE s e s.vars, kindOf e.op, ?_, ?_, eval_pair hc hb, ?_, kindR_pair hw, ?_, K.size, K.uses⟩
  · unfold foldR; rw [if_neg (by simp [hc])]
  · unfold foldR; rw [if_neg (by simp [hc2]), fold_fold]
  · rw [eval_pair hc2 hb, K.val s ho _ rfl (vars_small hb)]
  · rw [kindR_pair K.wf, K.kind]
theorem andNot_zero : ∀ a b : Fin 8, a.val &&& b.val = a.val → bits .andNot .i64 (a.val : Int) (b.val : Int) = 0 := by decide
theorem andNot_nat {a b : Nat} (ha : a < 8) (hb : b < 8) (h : a &&& b = a) : bits .andNot .i64 (a : Int) (b : Int) = 0 := andNot_zero ⟨a, ha⟩ ⟨b, hb⟩ h

set_option maxRecDepth 100000 in
set_option maxHeartbeats 8000000 in
theorem walkExprKeeps {S S' : Nat → Prop} {w : World} {e : Ex} {v sv : Value} {s : Sc} (hT : Tab w) (h : ExprV S w e v) (hs : ScV S' w s sv) : Calls Tryd.prog 8 #[v, sv] w (Post w fun _ r => r = .bool true) := by
  obtain ⟨iv, ov, vv, h0, h1, h2, h3, h4, rfl, hh, hi, ho, hv⟩ := hs
  have HS : ScV S' w s (scAgg s.n iv ov h0 h1 h2 h3 h4 vv) := ⟨iv, ov, vv, h0, h1, h2, h3, h4, rfl, hh, hi, ho, hv⟩
  obtain ⟨ia, icap, rfl, _⟩ := hi
  obtain ⟨oa, ocap, rfl, _⟩ := ho
  obtain ⟨va, vcap, rfl, _⟩ := hv
  unfold scAgg
  unfold scAgg at HS
  have H5 := Lib.hid (show s.hears.length = 5 by rw [hh]; rfl)
  obtain ⟨n, hn⟩ : ∃ n, n = s.n := ⟨_, rfl⟩
  rw [← hn]
  rw [← hn] at HS
  clear hn hh
  have HE := h
  obtain ⟨a, cap, rfl, eo, en, ae, l1, l2⟩ := h.parts
  obtain ⟨w0, hw0⟩ : ∃ w0, w0 = (w.alloc (.cells #[.int .i64 e.op, .int .i64 e.num, .slice a e.args.length cap] 24)).alloc (.cells #[.int .i64 n, .slice ia s.inl.length icap, .slice oa s.outl.length ocap, .int .i64 h0, .int .i64 h1, .int .i64 h2, .int .i64 h3, .int .i64 h4, .slice va s.vars.length vcap] 28) := ⟨_, rfl⟩
  have e0 : Below w.heap.size w w0 := by rw [hw0]; exact ext_alloc' (ext_alloc w _) _
  have rE : Row w0 w.heap.size 24 [.int .i64 e.op, .int .i64 e.num, .slice a e.args.length cap] := by rw [hw0]; exact (row_new w [.int .i64 e.op, .int .i64 e.num, .slice a e.args.length cap] 24).alloc _
  have rS : Row w0 (w.heap.size + 1) 28 [.int .i64 n, .slice ia s.inl.length icap, .slice oa s.outl.length ocap, .int .i64 h0, .int .i64 h1, .int .i64 h2, .int .i64 h3, .int .i64 h4, .slice va s.vars.length vcap] := by
    have r2 := row_new (w.alloc (.cells #[.int .i64 e.op, .int .i64 e.num, .slice a e.args.length cap] 24)) [.int .i64 n, .slice ia s.inl.length icap, .slice oa s.outl.length ocap, .int .i64 h0, .int .i64 h1, .int .i64 h2, .int .i64 h3, .int .i64 h4, .slice va s.vars.length vcap] 28
    rw [World.size_alloc] at r2
    rw [hw0]
    exact r2
  have HE := HE.ext e0
  have HS := HS.ext e0
  have TT := hT.ext e0
  have EE := e0
  have AW := Lib.hid (fun W (hW : Below w0.heap.size w0 W) => awake_calls (TT.ext hW))
  have RD := Lib.hid (fun W (hW : Below w0.heap.size w0 W) => ready_calls (HE.ext hW) (HS.ext hW))
  obtain ⟨b1, hb1⟩ : ∃ x, x = readyB s e := ⟨_, rfl⟩
  rw [← hb1] at RD
  have FACT := Lib.hid (fun h => ready_fact (s := s) (e := e) (hb1 ▸ h) H5.out)
  clear hb1
  go_enter Tryd.func8, Tryd.ntmps8
  go_wp2_with fail
  rw [← hw0]
  have hb0 := Below.refl w0.heap.size w0
  clear hw0 e0 hT
  obtain ⟨xrE0, xrE1, xrE2⟩ := rE.three
  have ltrE := rE.lt
  obtain ⟨yrS0, yrS1, yrS2, yrS3, yrS4, yrS5, yrS6, yrS7, yrS8⟩ := rS.nine
  have ltrS := rS.lt
  go_wp2_with fail
  refine (RD.out _ hb0).mono ?_
  rintro _ w1 ⟨_, rfl, hz, rfl⟩
  have hb1 := ext_trans hb0 hz
  clear ltrE ltrS xrE0 xrE1 xrE2 yrS0 yrS1 yrS2 yrS3 yrS4 yrS5 yrS6 yrS7 yrS8
  have rE := rE.ext hz
  have rS := rS.ext hz
  clear hz
  obtain ⟨xrE0, xrE1, xrE2⟩ := rE.three
  have ltrE := rE.lt
  obtain ⟨yrS0, yrS1, yrS2, yrS3, yrS4, yrS5, yrS6, yrS7, yrS8⟩ := rS.nine
  have ltrS := rS.lt
  cases b1 with
  | false =>
    go_wp2_with fail
    refine (AW.out _ hb1).mono ?_
    rintro _ w2 ⟨_, rfl, hz, rfl⟩
    have hb2 := ext_trans hb1 hz
    clear ltrE ltrS xrE0 xrE1 xrE2 yrS0 yrS1 yrS2 yrS3 yrS4 yrS5 yrS6 yrS7 yrS8
    have rE := rE.ext hz
    have rS := rS.ext hz
    clear hz
    obtain ⟨xrE0, xrE1, xrE2⟩ := rE.three
    have ltrE := rE.lt
    obtain ⟨yrS0, yrS1, yrS2, yrS3, yrS4, yrS5, yrS6, yrS7, yrS8⟩ := rS.nine
    have ltrS := rS.lt
    go_wp2
    go_ret
    exact .mk (ext_trans EE hb2) rfl
  | true =>
    obtain ⟨HSZ, HWF, HOK, HL, HCK, HBD⟩ := FACT.out (by first | exact trivial | rfl)
    obtain ⟨vn, hvn⟩ : ∃ x : Int, x = s.vars.length := ⟨_, rfl⟩
    obtain ⟨ev, k, F1, F2, E1, E2, K1, K2, SZL, UAN⟩ := keeps_fact HSZ HWF HOK HL HCK HBD
    have u1 := usesE_lt e
    have u2 := usesE_lt (foldE e)
    have DAN := andNot_nat u2 u1 UAN
    obtain ⟨X, hX⟩ : ∃ X, X = foldE e := ⟨_, rfl⟩
    rw [← hX] at F1 F2 E2 K2 SZL DAN
    obtain ⟨p, hp⟩ : ∃ p : Int, p = usesE X := ⟨_, rfl⟩
    obtain ⟨q, hq⟩ : ∃ p : Int, p = usesE e := ⟨_, rfl⟩
    obtain ⟨m1, hm1⟩ : ∃ p : Int, p = sizeE X := ⟨_, rfl⟩
    obtain ⟨m2, hm2⟩ : ∃ p : Int, p = sizeE e := ⟨_, rfl⟩
    obtain ⟨m3, hm3⟩ : ∃ p : Int, p = depthE X := ⟨_, rfl⟩
    obtain ⟨m4, hm4⟩ : ∃ p : Int, p = depthE e := ⟨_, rfl⟩
    have DL : decide (m1 ≤ m2) = true := decide_eq_true (by omega)
    have XSZ : sizeE X ≤ 128 := by omega
    have C1 := Lib.hid (fun W (hW : Below w0.heap.size w0 W) => foldV_calls (TT.ext hW) (HE.ext hW) (by omega) s.vars.length F1)
    rw [← hp, ← hq] at DAN
    have HSZ := Lib.hid HSZ
    have XSZ := Lib.hid XSZ
    have E1 := Lib.hid E1
    have E2 := Lib.hid E2
    have K1 := Lib.hid K1
    have K2 := Lib.hid K2
    have F2 := Lib.hid F2
    have P1 := Lib.hid hp
    have Q1 := Lib.hid hq
    have M1 := Lib.hid hm1
    have M2 := Lib.hid hm2
    have M3 := Lib.hid hm3
    have M4 := Lib.hid hm4
    clear hp hq hm1 hm2 hm3 hm4 hX F1 UAN SZL u1 u2 HWF HCK HBD hvn HL
    go_wp2_with fail
    refine (C1.out _ hb1).mono ?_
    rintro _ w2 ⟨_, rfl, hz, u, rfl, hx⟩
    have hb2 := ext_trans hb1 hz
    clear ltrE ltrS xrE0 xrE1 xrE2 yrS0 yrS1 yrS2 yrS3 yrS4 yrS5 yrS6 yrS7 yrS8
    have rE := rE.ext hz
    have rS := rS.ext hz
    obtain ⟨a5, c5, rfl, _⟩ := hx.parts
    clear hz
    obtain ⟨xrE0, xrE1, xrE2⟩ := rE.three
    have ltrE := rE.lt
    obtain ⟨yrS0, yrS1, yrS2, yrS3, yrS4, yrS5, yrS6, yrS7, yrS8⟩ := rS.nine
    have ltrS := rS.lt
    go_wp2_with fail
    obtain ⟨wa, hw⟩ : ∃ w, w = w2.alloc (.cells #[.int .i64 X.op, .int .i64 X.num, .slice a5 X.args.length c5] 24) := ⟨_, rfl⟩
    rw [← hw]
    obtain ⟨G5, hG⟩ : ∃ G, G = w2.heap.size := ⟨_, rfl⟩
    have r5 : Row wa G5 24 [.int .i64 X.op, .int .i64 X.num, .slice a5 X.args.length c5] := by rw [hw, hG]; exact row_new _ _ _
    have hal : Below w2.heap.size w2 wa := by rw [hw]; exact ext_alloc _ _
    rw [← hG]
    clear hw hG
    have hba := ext_trans hb2 hal
    clear ltrE ltrS xrE0 xrE1 xrE2 yrS0 yrS1 yrS2 yrS3 yrS4 yrS5 yrS6 yrS7 yrS8
    have rE := rE.ext hal
    have rS := rS.ext hal
    have hx := hx.ext hal
    have HE := HE.ext hba
    have HS := HS.ext hba
    have TT := TT.ext hba
    have EE := ext_trans EE hba
    have AW := Lib.hid (fun W (hW : Below wa.heap.size wa W) => awake_calls (TT.ext hW))
    have hrwa := Below.refl wa.heap.size wa
    clear hal hba
    obtain ⟨xrE0, xrE1, xrE2⟩ := rE.three
    have ltrE := rE.lt
    obtain ⟨yrS0, yrS1, yrS2, yrS3, yrS4, yrS5, yrS6, yrS7, yrS8⟩ := rS.nine
    have ltrS := rS.lt
    obtain ⟨pr50, pr51, pr52⟩ := r5.three
    have ltr5 := r5.lt
    have C2 := Lib.hid (fun W (hW : Below wa.heap.size wa W) => foldV_calls (TT.ext hW) (hx.ext hW) (by have := XSZ.out; omega) s.vars.length F2.out)
    go_wp2_with fail
    refine (C2.out _ hrwa).mono ?_
    rintro _ w3 ⟨_, rfl, hz, u, rfl, hy⟩
    have hb3 := ext_trans hrwa hz
    clear ltrE ltrS ltr5 xrE0 xrE1 xrE2 yrS0 yrS1 yrS2 yrS3 yrS4 yrS5 yrS6 yrS7 yrS8 pr50 pr51 pr52
    have rE := rE.ext hz
    have rS := rS.ext hz
    have r5 := r5.ext hz
    obtain ⟨a6, c6, rfl, _⟩ := hy.parts
    clear hz
    obtain ⟨xrE0, xrE1, xrE2⟩ := rE.three
    have ltrE := rE.lt
    obtain ⟨yrS0, yrS1, yrS2, yrS3, yrS4, yrS5, yrS6, yrS7, yrS8⟩ := rS.nine
    have ltrS := rS.lt
    obtain ⟨pr50, pr51, pr52⟩ := r5.three
    have ltr5 := r5.lt
    go_wp2_with fail
    obtain ⟨wb, hw⟩ : ∃ w, w = w3.alloc (.cells #[.int .i64 X.op, .int .i64 X.num, .slice a6 X.args.length c6] 24) := ⟨_, rfl⟩
    rw [← hw]
    obtain ⟨G6, hG⟩ : ∃ G, G = w3.heap.size := ⟨_, rfl⟩
    have r6 : Row wb G6 24 [.int .i64 X.op, .int .i64 X.num, .slice a6 X.args.length c6] := by rw [hw, hG]; exact row_new _ _ _
    have hal : Below w3.heap.size w3 wb := by rw [hw]; exact ext_alloc _ _
    rw [← hG]
    clear hw hG
    have hba := ext_trans hb3 hal
    clear ltrE ltrS ltr5 xrE0 xrE1 xrE2 yrS0 yrS1 yrS2 yrS3 yrS4 yrS5 yrS6 yrS7 yrS8 pr50 pr51 pr52
    have rE := rE.ext hal
    have rS := rS.ext hal
    have r5 := r5.ext hal
    have hy := hy.ext hal
    have HE := HE.ext hba
    have hx := hx.ext hba
    have HS := HS.ext hba
    have TT := TT.ext hba
    have EE := ext_trans EE hba
    have AW := Lib.hid (fun W (hW : Below wb.heap.size wb W) => awake_calls (TT.ext hW))
    have hrwb := Below.refl wb.heap.size wb
    clear hal hba
    obtain ⟨xrE0, xrE1, xrE2⟩ := rE.three
    have ltrE := rE.lt
    obtain ⟨yrS0, yrS1, yrS2, yrS3, yrS4, yrS5, yrS6, yrS7, yrS8⟩ := rS.nine
    have ltrS := rS.lt
    obtain ⟨pr50, pr51, pr52⟩ := r5.three
    have ltr5 := r5.lt
    obtain ⟨qr60, qr61, qr62⟩ := r6.three
    have ltr6 := r6.lt
    have C3 := Lib.hid (fun W (hW : Below wb.heap.size wb W) => evalV_calls (TT.ext hW) (HE.ext hW) (HS.ext hW) E1.out (by have := HSZ.out; omega))
    have C4 := Lib.hid (fun W (hW : Below wb.heap.size wb W) => evalV_calls (TT.ext hW) (hx.ext hW) (HS.ext hW) E2.out (by have := XSZ.out; omega))
    have C5 := Lib.hid (fun W (hW : Below wb.heap.size wb W) => refSameV_calls (hx.ext hW) (hy.ext hW) (b := true) (by rw [sameE_eq]))
    have C6 := Lib.hid (fun W (hW : Below wb.heap.size wb W) => kind_calls (TT.ext hW) (HE.ext hW))
    have C7 := Lib.hid (fun W (hW : Below wb.heap.size wb W) => kind_calls (TT.ext hW) (hx.ext hW))
    have C8 := Lib.hid (fun W (hW : Below wb.heap.size wb W) => size_calls hx W hW (by have := XSZ.out; omega))
    have C9 := Lib.hid (fun W (hW : Below wb.heap.size wb W) => size_calls HE W hW (by have := HSZ.out; omega))
    have CA := Lib.hid (fun W (hW : Below wb.heap.size wb W) => uses_calls hx W hW (by have := XSZ.out; omega))
    have CB := Lib.hid (fun W (hW : Below wb.heap.size wb W) => uses_calls HE W hW (by have := HSZ.out; omega))
    rw [K1.out] at C6
    rw [K2.out] at C7
    rw [← M1.out, ← M3.out] at C8
    rw [← M2.out, ← M4.out] at C9
    rw [← P1.out] at CA
    rw [← Q1.out] at CB
    go_wp2_with fail
    refine (C3.out _ hrwb).mono ?_
    rintro _ w4 ⟨_, rfl, hz, rfl⟩
    have hb4 := ext_trans hrwb hz
    clear ltrE ltrS ltr5 ltr6 xrE0 xrE1 xrE2 yrS0 yrS1 yrS2 yrS3 yrS4 yrS5 yrS6 yrS7 yrS8 pr50 pr51 pr52 qr60 qr61 qr62
    have rE := rE.ext hz
    have rS := rS.ext hz
    have r5 := r5.ext hz
    have r6 := r6.ext hz
    clear hz
    obtain ⟨xrE0, xrE1, xrE2⟩ := rE.three
    have ltrE := rE.lt
    obtain ⟨yrS0, yrS1, yrS2, yrS3, yrS4, yrS5, yrS6, yrS7, yrS8⟩ := rS.nine
    have ltrS := rS.lt
    obtain ⟨pr50, pr51, pr52⟩ := r5.three
    have ltr5 := r5.lt
    obtain ⟨qr60, qr61, qr62⟩ := r6.three
    have ltr6 := r6.lt
    go_wp2_with fail
    refine (C4.out _ hb4).mono ?_
    rintro _ w5 ⟨_, rfl, hz, rfl⟩
    have hb5 := ext_trans hb4 hz
    clear ltrE ltrS ltr5 ltr6 xrE0 xrE1 xrE2 yrS0 yrS1 yrS2 yrS3 yrS4 yrS5 yrS6 yrS7 yrS8 pr50 pr51 pr52 qr60 qr61 qr62
    have rE := rE.ext hz
    have rS := rS.ext hz
    have r5 := r5.ext hz
    have r6 := r6.ext hz
    clear hz
    obtain ⟨xrE0, xrE1, xrE2⟩ := rE.three
    have ltrE := rE.lt
    obtain ⟨yrS0, yrS1, yrS2, yrS3, yrS4, yrS5, yrS6, yrS7, yrS8⟩ := rS.nine
    have ltrS := rS.lt
    obtain ⟨pr50, pr51, pr52⟩ := r5.three
    have ltr5 := r5.lt
    obtain ⟨qr60, qr61, qr62⟩ := r6.three
    have ltr6 := r6.lt
    go_wp2_with fail
    refine (C5.out _ hb5).mono ?_
    rintro _ w6 ⟨_, rfl, hz, rfl⟩
    have hb6 := ext_trans hb5 hz
    clear ltrE ltrS ltr5 ltr6 xrE0 xrE1 xrE2 yrS0 yrS1 yrS2 yrS3 yrS4 yrS5 yrS6 yrS7 yrS8 pr50 pr51 pr52 qr60 qr61 qr62
    have rE := rE.ext hz
    have rS := rS.ext hz
    have r5 := r5.ext hz
    have r6 := r6.ext hz
    clear hz
    obtain ⟨xrE0, xrE1, xrE2⟩ := rE.three
    have ltrE := rE.lt
    obtain ⟨yrS0, yrS1, yrS2, yrS3, yrS4, yrS5, yrS6, yrS7, yrS8⟩ := rS.nine
    have ltrS := rS.lt
    obtain ⟨pr50, pr51, pr52⟩ := r5.three
    have ltr5 := r5.lt
    obtain ⟨qr60, qr61, qr62⟩ := r6.three
    have ltr6 := r6.lt
    go_wp2_with fail
    refine (C6.out _ hb6).mono ?_
    rintro _ w7 ⟨_, rfl, hz, rfl⟩
    have hb7 := ext_trans hb6 hz
    clear ltrE ltrS ltr5 ltr6 xrE0 xrE1 xrE2 yrS0 yrS1 yrS2 yrS3 yrS4 yrS5 yrS6 yrS7 yrS8 pr50 pr51 pr52 qr60 qr61 qr62
    have rE := rE.ext hz
    have rS := rS.ext hz
    have r5 := r5.ext hz
    have r6 := r6.ext hz
    clear hz
    obtain ⟨xrE0, xrE1, xrE2⟩ := rE.three
    have ltrE := rE.lt
    obtain ⟨yrS0, yrS1, yrS2, yrS3, yrS4, yrS5, yrS6, yrS7, yrS8⟩ := rS.nine
    have ltrS := rS.lt
    obtain ⟨pr50, pr51, pr52⟩ := r5.three
    have ltr5 := r5.lt
    obtain ⟨qr60, qr61, qr62⟩ := r6.three
    have ltr6 := r6.lt
    go_wp2_with fail
    refine (C7.out _ hb7).mono ?_
    rintro _ w8 ⟨_, rfl, hz, rfl⟩
    have hb8 := ext_trans hb7 hz
    clear ltrE ltrS ltr5 ltr6 xrE0 xrE1 xrE2 yrS0 yrS1 yrS2 yrS3 yrS4 yrS5 yrS6 yrS7 yrS8 pr50 pr51 pr52 qr60 qr61 qr62
    have rE := rE.ext hz
    have rS := rS.ext hz
    have r5 := r5.ext hz
    have r6 := r6.ext hz
    clear hz
    obtain ⟨xrE0, xrE1, xrE2⟩ := rE.three
    have ltrE := rE.lt
    obtain ⟨yrS0, yrS1, yrS2, yrS3, yrS4, yrS5, yrS6, yrS7, yrS8⟩ := rS.nine
    have ltrS := rS.lt
    obtain ⟨pr50, pr51, pr52⟩ := r5.three
    have ltr5 := r5.lt
    obtain ⟨qr60, qr61, qr62⟩ := r6.three
    have ltr6 := r6.lt
    go_wp2_with fail
    refine (C8.out _ hb8).mono ?_
    rintro _ w9 ⟨_, rfl, hz, rfl⟩
    have hb9 := ext_trans hb8 hz
    clear ltrE ltrS ltr5 ltr6 xrE0 xrE1 xrE2 yrS0 yrS1 yrS2 yrS3 yrS4 yrS5 yrS6 yrS7 yrS8 pr50 pr51 pr52 qr60 qr61 qr62
    have rE := rE.ext hz
    have rS := rS.ext hz
    have r5 := r5.ext hz
    have r6 := r6.ext hz
    clear hz
    obtain ⟨xrE0, xrE1, xrE2⟩ := rE.three
    have ltrE := rE.lt
    obtain ⟨yrS0, yrS1, yrS2, yrS3, yrS4, yrS5, yrS6, yrS7, yrS8⟩ := rS.nine
    have ltrS := rS.lt
    obtain ⟨pr50, pr51, pr52⟩ := r5.three
    have ltr5 := r5.lt
    obtain ⟨qr60, qr61, qr62⟩ := r6.three
    have ltr6 := r6.lt
    go_wp2_with fail
    refine (C9.out _ hb9).mono ?_
    rintro _ w10 ⟨_, rfl, hz, rfl⟩
    have hb10 := ext_trans hb9 hz
    clear ltrE ltrS ltr5 ltr6 xrE0 xrE1 xrE2 yrS0 yrS1 yrS2 yrS3 yrS4 yrS5 yrS6 yrS7 yrS8 pr50 pr51 pr52 qr60 qr61 qr62
    have rE := rE.ext hz
    have rS := rS.ext hz
    have r5 := r5.ext hz
    have r6 := r6.ext hz
    clear hz
    obtain ⟨xrE0, xrE1, xrE2⟩ := rE.three
    have ltrE := rE.lt
    obtain ⟨yrS0, yrS1, yrS2, yrS3, yrS4, yrS5, yrS6, yrS7, yrS8⟩ := rS.nine
    have ltrS := rS.lt
    obtain ⟨pr50, pr51, pr52⟩ := r5.three
    have ltr5 := r5.lt
    obtain ⟨qr60, qr61, qr62⟩ := r6.three
    have ltr6 := r6.lt
    go_upto_region 13 with fail
    have KEEPT := Lib.hid (show True from trivial)
    have hrefl := Below.refl w10.heap.size w10
    have KEEP : ∀ W', Below w10.heap.size w10 W' → (fun w' : World => w'.cell? ⟨w.heap.size, 0, none⟩ = some (.int .i64 e.op) ∧ w'.cell? ⟨w.heap.size, 1, none⟩ = some (.int .i64 e.num) ∧ w'.cell? ⟨w.heap.size, 2, none⟩ = some (.slice a e.args.length cap) ∧ w'.cell? ⟨w.heap.size + 1, 0, none⟩ = some (.int .i64 n) ∧ w'.cell? ⟨w.heap.size + 1, 1, none⟩ = some (.slice ia s.inl.length icap) ∧ w'.cell? ⟨w.heap.size + 1, 2, none⟩ = some (.slice oa s.outl.length ocap) ∧ w'.cell? ⟨w.heap.size + 1, 3, none⟩ = some (.int .i64 h0) ∧ w'.cell? ⟨w.heap.size + 1, 4, none⟩ = some (.int .i64 h1) ∧ w'.cell? ⟨w.heap.size + 1, 5, none⟩ = some (.int .i64 h2) ∧ w'.cell? ⟨w.heap.size + 1, 6, none⟩ = some (.int .i64 h3) ∧ w'.cell? ⟨w.heap.size + 1, 7, none⟩ = some (.int .i64 h4) ∧ w'.cell? ⟨w.heap.size + 1, 8, none⟩ = some (.slice va s.vars.length vcap) ∧ w'.cell? ⟨G5, 0, none⟩ = some (.int .i64 X.op) ∧ w'.cell? ⟨G5, 1, none⟩ = some (.int .i64 X.num) ∧ w'.cell? ⟨G5, 2, none⟩ = some (.slice a5 X.args.length c5) ∧ w'.cell? ⟨G6, 0, none⟩ = some (.int .i64 X.op) ∧ w'.cell? ⟨G6, 1, none⟩ = some (.int .i64 X.num) ∧ w'.cell? ⟨G6, 2, none⟩ = some (.slice a6 X.args.length c6) ∧ Below wb.heap.size wb w') W' := fun W' hW' => ⟨cell_ext xrE0 hW', cell_ext xrE1 hW', cell_ext xrE2 hW', cell_ext yrS0 hW', cell_ext yrS1 hW', cell_ext yrS2 hW', cell_ext yrS3 hW', cell_ext yrS4 hW', cell_ext yrS5 hW', cell_ext yrS6 hW', cell_ext yrS7 hW', cell_ext yrS8 hW', cell_ext pr50 hW', cell_ext pr51 hW', cell_ext pr52 hW', cell_ext qr60 hW', cell_ext qr61 hW', cell_ext qr62 hW', ext_trans hb10 hW'⟩
    have KEEP := Lib.hid KEEP
    go_region_held3 (fun w' : World => w'.cell? ⟨w.heap.size, 0, none⟩ = some (.int .i64 e.op) ∧ w'.cell? ⟨w.heap.size, 1, none⟩ = some (.int .i64 e.num) ∧ w'.cell? ⟨w.heap.size, 2, none⟩ = some (.slice a e.args.length cap) ∧ w'.cell? ⟨w.heap.size + 1, 0, none⟩ = some (.int .i64 n) ∧ w'.cell? ⟨w.heap.size + 1, 1, none⟩ = some (.slice ia s.inl.length icap) ∧ w'.cell? ⟨w.heap.size + 1, 2, none⟩ = some (.slice oa s.outl.length ocap) ∧ w'.cell? ⟨w.heap.size + 1, 3, none⟩ = some (.int .i64 h0) ∧ w'.cell? ⟨w.heap.size + 1, 4, none⟩ = some (.int .i64 h1) ∧ w'.cell? ⟨w.heap.size + 1, 5, none⟩ = some (.int .i64 h2) ∧ w'.cell? ⟨w.heap.size + 1, 6, none⟩ = some (.int .i64 h3) ∧ w'.cell? ⟨w.heap.size + 1, 7, none⟩ = some (.int .i64 h4) ∧ w'.cell? ⟨w.heap.size + 1, 8, none⟩ = some (.slice va s.vars.length vcap) ∧ w'.cell? ⟨G5, 0, none⟩ = some (.int .i64 X.op) ∧ w'.cell? ⟨G5, 1, none⟩ = some (.int .i64 X.num) ∧ w'.cell? ⟨G5, 2, none⟩ = some (.slice a5 X.args.length c5) ∧ w'.cell? ⟨G6, 0, none⟩ = some (.int .i64 X.op) ∧ w'.cell? ⟨G6, 1, none⟩ = some (.int .i64 X.num) ∧ w'.cell? ⟨G6, 2, none⟩ = some (.slice a6 X.args.length c6) ∧ Below wb.heap.size wb w')
      (first | (apply KEEP.out; first | assumption | (apply Below.drew; assumption)))
      (first | (go_at_call 13; have _p := T1; refine (AW.out _ (ext_trans hb10 (by first | exact hF1 | exact hF1.drew))).mono ?_; rintro _ wf2 ⟨_, rfl, hbf2, rfl⟩; have hF2 : Below w10.heap.size w10 wf2 := ext_trans (by first | exact hF1 | exact hF1.drew) hbf2; have T2 : True := trivial) | (go_at_call 24; have _p := T0; refine (CB.out _ (ext_trans hb10 (by first | exact hF0 | exact hF0.drew))).mono ?_; rintro _ wf1 ⟨_, rfl, hbf1, rfl⟩; have hF1 : Below w10.heap.size w10 wf1 := ext_trans (by first | exact hF0 | exact hF0.drew) hbf1; have T1 : True := trivial) | (go_at_call 24; refine (CA.out _ (ext_trans hb10 (by first | exact hrefl | exact hrefl.drew))).mono ?_; rintro _ wf0 ⟨_, rfl, hbf0, rfl⟩; have hF0 : Below w10.heap.size w10 wf0 := ext_trans (by first | exact hrefl | exact hrefl.drew) hbf0; have T0 : True := trivial))
    all_goals
      go_wp2_with fail
      go_ret
      exact .mk (ext_trans EE (ext_trans hb10 hF2)) rfl
end Go.Proofs.YtifkkajgcekafaaDoor
