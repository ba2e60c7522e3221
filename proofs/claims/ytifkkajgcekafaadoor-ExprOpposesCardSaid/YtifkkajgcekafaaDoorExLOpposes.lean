/- The walk of ExprOpposes. -/
import Derived.Test.YtifkkajgcekafaaDoorExAwake
import Derived.Test.YtifkkajgcekafaaDoorExLaw0
namespace Go.Proofs.YtifkkajgcekafaaDoor
set_option linter.unusedVariables false
open Go.RowKit
attribute [local go_sem ↓] Go.wp_at_zero Go.wp_at_succ

theorem ready_fact {s : Sc} {e : Ex} (h : readyB s e = true) (hl : s.hears.length = 5) : sizeE e ≤ 128 ∧ Wf s.vars.length e ∧ ScOk s ∧ s.vars.length ≤ 24 ∧ checkE e s.vars.length = 0 ∧ scBad s = false := by
  unfold readyB at h
  simp only [Bool.and_eq_true, decide_eq_true_eq] at h
  obtain ⟨⟨h1, h2⟩, h3⟩ := h
  by_cases hc : checkE e s.vars.length = 0
  · cases hb : scBad s with
    | true => have := (evalE_bad hc hb).2; omega
    | false =>
      obtain ⟨k1, k2, k3, k4, k5⟩ := Wf.of_check hc
      exact ⟨k4, k1, scOk_of hb hl, by omega, hc, rfl⟩
  · exact absurd ((evalE_err hc).2.trans h3) hc

theorem vars_small {s : Sc} (hb : scBad s = false) : ∀ x ∈ s.vars, small x = true := by
  unfold scBad at hb
  simp only [Bool.or_eq_false_iff, Bool.not_eq_false'] at hb
  exact ranged_mem hb.2
theorem eval_pair {s : Sc} {e : Ex} (hc : checkE e s.vars.length = 0) (hb : scBad s = false) : evalE s e = (valE s e s.vars, 0) := by
  unfold evalE; rw [if_neg (by simp [hc]), if_neg (by simp [hb])]
theorem kindR_pair {vars : Int} {e : Ex} (h : Wf vars e) : kindR e = (kindOf e.op, 0) := by
  obtain ⟨h0, h1⟩ := known_of_wf h
  unfold kindR
  rw [if_neg]
  unfold arity
  split <;> (try split) <;> (try split) <;> omega
theorem check_size {vars : Int} {e : Ex} (h : Wf vars e) (h0 : 0 ≤ vars) (h1 : vars ≤ 24) (hc : checkE e vars ≠ 0) : checkE e vars = 5 ∨ checkE e vars = 12 := by
  unfold checkE at hc ⊢
  rw [if_neg (by omega)] at hc ⊢
  split
  · exact .inl rfl
  · rename_i k1
    rw [if_neg k1] at hc
    split
    · exact .inr rfl
    · rename_i k2
      rw [if_neg k2] at hc
      exact absurd h.err hc
theorem opposes_fact {s : Sc} {e : Ex} (hsz : sizeE e ≤ 128) (hw : Wf s.vars.length e) (ho : ScOk s) (hl : s.vars.length ≤ 24) (hc : checkE e s.vars.length = 0) (hb : scBad s = false) :
    (∃ x, negR e s.vars.length = (x, 9)) ∨ (∃ x, negR e s.vars.length = (x, 5)) ∨ (∃ x, negR e s.vars.length = (x, 12)) ∨
    (∃ (x : Ex) (n m : Int) (b c : Bool), negR e s.vars.length = (x, 0) ∧ sizeE x ≤ 300 ∧ evalE s e = (n, 0) ∧ evalE s x = (m, 0) ∧ truthE s e = b ∧ truthE s x = c ∧ usesE x = usesE e ∧ ((b = true ∧ c = false ∧ n = 1 ∧ m = 0) ∨ (b = false ∧ c = true ∧ n = 0 ∧ m = 1))) := by
  unfold negR
  rw [if_neg (by simp [hc])]
  by_cases hk : kindOf e.op = 1
  · rw [if_neg (by simp [hk])]
    have O := Opp.neg hw hk
    by_cases hc2 : checkE (negE e) s.vars.length = 0
    · rw [if_neg (by simp [hc2])]
      have hv := O.val s ho _ rfl (vars_small hb)
      have hr := (val_range ho hw s.vars rfl (vars_small hb))
      have e1 := eval_pair hc hb
      have e2 := eval_pair hc2 hb
      refine .inr (.inr (.inr ⟨negE e, valE s e s.vars, valE s (negE e) s.vars, truthE s e, truthE s (negE e), rfl, by have := O.size; omega, e1, e2, rfl, rfl, O.uses, ?_⟩))
      unfold truthE
      rw [e1, e2, O.kind, hk, hv]
      rcases hr.2.2 hk with q | q <;> rw [q] <;> decide
    · rw [if_pos hc2]
      rcases check_size O.wf (by omega) (by omega) hc2 with q | q
      · exact .inr (.inl ⟨_, by rw [q]⟩)
      · exact .inr (.inr (.inl ⟨_, by rw [q]⟩))
  · rw [if_pos hk]
    exact .inl ⟨_, rfl⟩

set_option maxRecDepth 100000 in
set_option maxHeartbeats 8000000 in
theorem walkExprOpposes {S S' : Nat → Prop} {w : World} {e : Ex} {v sv : Value} {s : Sc} (hT : Tab w) (h : ExprV S w e v) (hs : ScV S' w s sv) : Calls Tryd.prog 6 #[v, sv] w (Post w fun _ r => r = .bool true) := by
  obtain ⟨iv, ov, vv, h0, h1, h2, h3, h4, rfl, hh, hi, ho, hv⟩ := hs
  have HS : ScV S' w s (scAgg s.n iv ov h0 h1 h2 h3 h4 vv) := ⟨iv, ov, vv, h0, h1, h2, h3, h4, rfl, hh, hi, ho, hv⟩
  obtain ⟨ia, icap, rfl, _⟩ := hi
  obtain ⟨oa, ocap, rfl, _⟩ := ho
  obtain ⟨va, vcap, rfl, _⟩ := hv
  unfold scAgg
  unfold scAgg at HS
  have H5 := Lib.hid (show s.hears.length = 5 by rw [hh]; rfl)
  obtain ⟨n, hn⟩ : ∃ n, n = s.n := ⟨_, rfl⟩
  rw [← hn]
  rw [← hn] at HS
  clear hn hh
  have HE := h
  obtain ⟨a, cap, rfl, eo, en, ae, l1, l2⟩ := h.parts
  obtain ⟨w0, hw0⟩ : ∃ w0, w0 = (w.alloc (.cells #[.int .i64 e.op, .int .i64 e.num, .slice a e.args.length cap] 24)).alloc (.cells #[.int .i64 n, .slice ia s.inl.length icap, .slice oa s.outl.length ocap, .int .i64 h0, .int .i64 h1, .int .i64 h2, .int .i64 h3, .int .i64 h4, .slice va s.vars.length vcap] 28) := ⟨_, rfl⟩
  have e0 : Below w.heap.size w w0 := by rw [hw0]; exact ext_alloc' (ext_alloc w _) _
  have rE : Row w0 w.heap.size 24 [.int .i64 e.op, .int .i64 e.num, .slice a e.args.length cap] := by rw [hw0]; exact (row_new w [.int .i64 e.op, .int .i64 e.num, .slice a e.args.length cap] 24).alloc _
  have rS : Row w0 (w.heap.size + 1) 28 [.int .i64 n, .slice ia s.inl.length icap, .slice oa s.outl.length ocap, .int .i64 h0, .int .i64 h1, .int .i64 h2, .int .i64 h3, .int .i64 h4, .slice va s.vars.length vcap] := by
    have r2 := row_new (w.alloc (.cells #[.int .i64 e.op, .int .i64 e.num, .slice a e.args.length cap] 24)) [.int .i64 n, .slice ia s.inl.length icap, .slice oa s.outl.length ocap, .int .i64 h0, .int .i64 h1, .int .i64 h2, .int .i64 h3, .int .i64 h4, .slice va s.vars.length vcap] 28
    rw [World.size_alloc] at r2
    rw [hw0]
    exact r2
  have HE := HE.ext e0
  have HS := HS.ext e0
  have TT := hT.ext e0
  have EE := e0
  have AW := Lib.hid (fun W (hW : Below w0.heap.size w0 W) => awake_calls (TT.ext hW))
  have RD := Lib.hid (fun W (hW : Below w0.heap.size w0 W) => ready_calls (HE.ext hW) (HS.ext hW))
  obtain ⟨b1, hb1⟩ : ∃ x, x = readyB s e := ⟨_, rfl⟩
  rw [← hb1] at RD
  have FACT := Lib.hid (fun h => ready_fact (s := s) (e := e) (hb1 ▸ h) H5.out)
  clear hb1
  go_enter Tryd.func6, Tryd.ntmps6
  go_wp2_with fail
  rw [← hw0]
  have hb0 := Below.refl w0.heap.size w0
  clear hw0 e0 hT
  obtain ⟨xrE0, xrE1, xrE2⟩ := rE.three
  have ltrE := rE.lt
  obtain ⟨yrS0, yrS1, yrS2, yrS3, yrS4, yrS5, yrS6, yrS7, yrS8⟩ := rS.nine
  have ltrS := rS.lt
  go_wp2_with fail
  refine (RD.out _ hb0).mono ?_
  rintro _ w1 ⟨_, rfl, hz, rfl⟩
  have hb1 := ext_trans hb0 hz
  clear ltrE ltrS xrE0 xrE1 xrE2 yrS0 yrS1 yrS2 yrS3 yrS4 yrS5 yrS6 yrS7 yrS8
  have rE := rE.ext hz
  have rS := rS.ext hz
  clear hz
  obtain ⟨xrE0, xrE1, xrE2⟩ := rE.three
  have ltrE := rE.lt
  obtain ⟨yrS0, yrS1, yrS2, yrS3, yrS4, yrS5, yrS6, yrS7, yrS8⟩ := rS.nine
  have ltrS := rS.lt
  cases b1 with
  | false =>
    go_wp2_with fail
    refine (AW.out _ hb1).mono ?_
    rintro _ w2 ⟨_, rfl, hz, rfl⟩
    have hb2 := ext_trans hb1 hz
    clear ltrE ltrS xrE0 xrE1 xrE2 yrS0 yrS1 yrS2 yrS3 yrS4 yrS5 yrS6 yrS7 yrS8
    have rE := rE.ext hz
    have rS := rS.ext hz
    clear hz
    obtain ⟨xrE0, xrE1, xrE2⟩ := rE.three
    have ltrE := rE.lt
    obtain ⟨yrS0, yrS1, yrS2, yrS3, yrS4, yrS5, yrS6, yrS7, yrS8⟩ := rS.nine
    have ltrS := rS.lt
    go_wp2
    go_ret
    exact .mk (ext_trans EE hb2) rfl
  | true =>
    obtain ⟨HSZ, HWF, HOK, HL, HCK, HBD⟩ := FACT.out (by first | exact trivial | rfl)
    have OP := opposes_fact HSZ HWF HOK HL HCK HBD
    have HSZ := Lib.hid HSZ
    clear HWF HOK HL HCK HBD
    rcases OP with ⟨X, NG⟩ | ⟨X, NG⟩ | ⟨X, NG⟩ | ⟨X, n1, n2, tb, tc, NG, XSZ, E1, E2, TR1, TR2, UU, SUM⟩
    · have C1 := Lib.hid (fun W (hW : Below w0.heap.size w0 W) => negV_calls (TT.ext hW) (HE.ext hW) (by have := HSZ.out; omega) s.vars.length NG)
      clear NG
      go_wp2_with fail
      refine (C1.out _ hb1).mono ?_
      rintro _ w2 ⟨_, rfl, hz, u, rfl, hx⟩
      have hb2 := ext_trans hb1 hz
      clear ltrE ltrS xrE0 xrE1 xrE2 yrS0 yrS1 yrS2 yrS3 yrS4 yrS5 yrS6 yrS7 yrS8
      have rE := rE.ext hz
      have rS := rS.ext hz
      obtain ⟨a5, c5, rfl, _⟩ := hx.parts
      clear hz
      obtain ⟨xrE0, xrE1, xrE2⟩ := rE.three
      have ltrE := rE.lt
      obtain ⟨yrS0, yrS1, yrS2, yrS3, yrS4, yrS5, yrS6, yrS7, yrS8⟩ := rS.nine
      have ltrS := rS.lt
      go_wp2_with fail
      obtain ⟨wa, hw⟩ : ∃ w, w = w2.alloc (.cells #[.int .i64 X.op, .int .i64 X.num, .slice a5 X.args.length c5] 24) := ⟨_, rfl⟩
      rw [← hw]
      obtain ⟨G5, hG⟩ : ∃ G, G = w2.heap.size := ⟨_, rfl⟩
      have r5 : Row wa G5 24 [.int .i64 X.op, .int .i64 X.num, .slice a5 X.args.length c5] := by rw [hw, hG]; exact row_new _ _ _
      have hal : Below w2.heap.size w2 wa := by rw [hw]; exact ext_alloc _ _
      rw [← hG]
      clear hw hG
      have hba := ext_trans hb2 hal
      clear ltrE ltrS xrE0 xrE1 xrE2 yrS0 yrS1 yrS2 yrS3 yrS4 yrS5 yrS6 yrS7 yrS8
      have rE := rE.ext hal
      have rS := rS.ext hal
      have hx := hx.ext hal
      have HE := HE.ext hba
      have HS := HS.ext hba
      have TT := TT.ext hba
      have EE := ext_trans EE hba
      have AW := Lib.hid (fun W (hW : Below wa.heap.size wa W) => awake_calls (TT.ext hW))
      have hrwa := Below.refl wa.heap.size wa
      clear hal hba
      obtain ⟨xrE0, xrE1, xrE2⟩ := rE.three
      have ltrE := rE.lt
      obtain ⟨yrS0, yrS1, yrS2, yrS3, yrS4, yrS5, yrS6, yrS7, yrS8⟩ := rS.nine
      have ltrS := rS.lt
      obtain ⟨pr50, pr51, pr52⟩ := r5.three
      have ltr5 := r5.lt
      refine (AW.out _ hrwa).mono ?_
      rintro _ w3 ⟨_, rfl, hz, rfl⟩
      have hb3 := ext_trans hrwa hz
      clear ltrE ltrS ltr5 xrE0 xrE1 xrE2 yrS0 yrS1 yrS2 yrS3 yrS4 yrS5 yrS6 yrS7 yrS8 pr50 pr51 pr52
      have rE := rE.ext hz
      have rS := rS.ext hz
      have r5 := r5.ext hz
      clear hz
      obtain ⟨xrE0, xrE1, xrE2⟩ := rE.three
      have ltrE := rE.lt
      obtain ⟨yrS0, yrS1, yrS2, yrS3, yrS4, yrS5, yrS6, yrS7, yrS8⟩ := rS.nine
      have ltrS := rS.lt
      obtain ⟨pr50, pr51, pr52⟩ := r5.three
      have ltr5 := r5.lt
      go_wp2
      go_ret
      exact .mk (ext_trans EE hb3) rfl
    · have C1 := Lib.hid (fun W (hW : Below w0.heap.size w0 W) => negV_calls (TT.ext hW) (HE.ext hW) (by have := HSZ.out; omega) s.vars.length NG)
      clear NG
      go_wp2_with fail
      refine (C1.out _ hb1).mono ?_
      rintro _ w4 ⟨_, rfl, hz, u, rfl, hx⟩
      have hb4 := ext_trans hb1 hz
      clear ltrE ltrS xrE0 xrE1 xrE2 yrS0 yrS1 yrS2 yrS3 yrS4 yrS5 yrS6 yrS7 yrS8
      have rE := rE.ext hz
      have rS := rS.ext hz
      obtain ⟨a5, c5, rfl, _⟩ := hx.parts
      clear hz
      obtain ⟨xrE0, xrE1, xrE2⟩ := rE.three
      have ltrE := rE.lt
      obtain ⟨yrS0, yrS1, yrS2, yrS3, yrS4, yrS5, yrS6, yrS7, yrS8⟩ := rS.nine
      have ltrS := rS.lt
      go_wp2_with fail
      obtain ⟨wa, hw⟩ : ∃ w, w = w4.alloc (.cells #[.int .i64 X.op, .int .i64 X.num, .slice a5 X.args.length c5] 24) := ⟨_, rfl⟩
      rw [← hw]
      obtain ⟨G5, hG⟩ : ∃ G, G = w4.heap.size := ⟨_, rfl⟩
      have r5 : Row wa G5 24 [.int .i64 X.op, .int .i64 X.num, .slice a5 X.args.length c5] := by rw [hw, hG]; exact row_new _ _ _
      have hal : Below w4.heap.size w4 wa := by rw [hw]; exact ext_alloc _ _
      rw [← hG]
      clear hw hG
      have hba := ext_trans hb4 hal
      clear ltrE ltrS xrE0 xrE1 xrE2 yrS0 yrS1 yrS2 yrS3 yrS4 yrS5 yrS6 yrS7 yrS8
      have rE := rE.ext hal
      have rS := rS.ext hal
      have hx := hx.ext hal
      have HE := HE.ext hba
      have HS := HS.ext hba
      have TT := TT.ext hba
      have EE := ext_trans EE hba
      have AW := Lib.hid (fun W (hW : Below wa.heap.size wa W) => awake_calls (TT.ext hW))
      have hrwa := Below.refl wa.heap.size wa
      clear hal hba
      obtain ⟨xrE0, xrE1, xrE2⟩ := rE.three
      have ltrE := rE.lt
      obtain ⟨yrS0, yrS1, yrS2, yrS3, yrS4, yrS5, yrS6, yrS7, yrS8⟩ := rS.nine
      have ltrS := rS.lt
      obtain ⟨pr50, pr51, pr52⟩ := r5.three
      have ltr5 := r5.lt
      refine (AW.out _ hrwa).mono ?_
      rintro _ w5 ⟨_, rfl, hz, rfl⟩
      have hb5 := ext_trans hrwa hz
      clear ltrE ltrS ltr5 xrE0 xrE1 xrE2 yrS0 yrS1 yrS2 yrS3 yrS4 yrS5 yrS6 yrS7 yrS8 pr50 pr51 pr52
      have rE := rE.ext hz
      have rS := rS.ext hz
      have r5 := r5.ext hz
      clear hz
      obtain ⟨xrE0, xrE1, xrE2⟩ := rE.three
      have ltrE := rE.lt
      obtain ⟨yrS0, yrS1, yrS2, yrS3, yrS4, yrS5, yrS6, yrS7, yrS8⟩ := rS.nine
      have ltrS := rS.lt
      obtain ⟨pr50, pr51, pr52⟩ := r5.three
      have ltr5 := r5.lt
      go_wp2
      go_ret
      exact .mk (ext_trans EE hb5) rfl
    · have C1 := Lib.hid (fun W (hW : Below w0.heap.size w0 W) => negV_calls (TT.ext hW) (HE.ext hW) (by have := HSZ.out; omega) s.vars.length NG)
      clear NG
      go_wp2_with fail
      refine (C1.out _ hb1).mono ?_
      rintro _ w6 ⟨_, rfl, hz, u, rfl, hx⟩
      have hb6 := ext_trans hb1 hz
      clear ltrE ltrS xrE0 xrE1 xrE2 yrS0 yrS1 yrS2 yrS3 yrS4 yrS5 yrS6 yrS7 yrS8
      have rE := rE.ext hz
      have rS := rS.ext hz
      obtain ⟨a5, c5, rfl, _⟩ := hx.parts
      clear hz
      obtain ⟨xrE0, xrE1, xrE2⟩ := rE.three
      have ltrE := rE.lt
      obtain ⟨yrS0, yrS1, yrS2, yrS3, yrS4, yrS5, yrS6, yrS7, yrS8⟩ := rS.nine
      have ltrS := rS.lt
      go_wp2_with fail
      obtain ⟨wa, hw⟩ : ∃ w, w = w6.alloc (.cells #[.int .i64 X.op, .int .i64 X.num, .slice a5 X.args.length c5] 24) := ⟨_, rfl⟩
      rw [← hw]
      obtain ⟨G5, hG⟩ : ∃ G, G = w6.heap.size := ⟨_, rfl⟩
      have r5 : Row wa G5 24 [.int .i64 X.op, .int .i64 X.num, .slice a5 X.args.length c5] := by rw [hw, hG]; exact row_new _ _ _
      have hal : Below w6.heap.size w6 wa := by rw [hw]; exact ext_alloc _ _
      rw [← hG]
      clear hw hG
      have hba := ext_trans hb6 hal
      clear ltrE ltrS xrE0 xrE1 xrE2 yrS0 yrS1 yrS2 yrS3 yrS4 yrS5 yrS6 yrS7 yrS8
      have rE := rE.ext hal
      have rS := rS.ext hal
      have hx := hx.ext hal
      have HE := HE.ext hba
      have HS := HS.ext hba
      have TT := TT.ext hba
      have EE := ext_trans EE hba
      have AW := Lib.hid (fun W (hW : Below wa.heap.size wa W) => awake_calls (TT.ext hW))
      have hrwa := Below.refl wa.heap.size wa
      clear hal hba
      obtain ⟨xrE0, xrE1, xrE2⟩ := rE.three
      have ltrE := rE.lt
      obtain ⟨yrS0, yrS1, yrS2, yrS3, yrS4, yrS5, yrS6, yrS7, yrS8⟩ := rS.nine
      have ltrS := rS.lt
      obtain ⟨pr50, pr51, pr52⟩ := r5.three
      have ltr5 := r5.lt
      refine (AW.out _ hrwa).mono ?_
      rintro _ w7 ⟨_, rfl, hz, rfl⟩
      have hb7 := ext_trans hrwa hz
      clear ltrE ltrS ltr5 xrE0 xrE1 xrE2 yrS0 yrS1 yrS2 yrS3 yrS4 yrS5 yrS6 yrS7 yrS8 pr50 pr51 pr52
      have rE := rE.ext hz
      have rS := rS.ext hz
      have r5 := r5.ext hz
      clear hz
      obtain ⟨xrE0, xrE1, xrE2⟩ := rE.three
      have ltrE := rE.lt
      obtain ⟨yrS0, yrS1, yrS2, yrS3, yrS4, yrS5, yrS6, yrS7, yrS8⟩ := rS.nine
      have ltrS := rS.lt
      obtain ⟨pr50, pr51, pr52⟩ := r5.three
      have ltr5 := r5.lt
      go_wp2
      go_ret
      exact .mk (ext_trans EE hb7) rfl
    · have C1 := Lib.hid (fun W (hW : Below w0.heap.size w0 W) => negV_calls (TT.ext hW) (HE.ext hW) (by have := HSZ.out; omega) s.vars.length NG)
      rcases SUM with ⟨rfl, rfl, rfl, rfl⟩ | ⟨rfl, rfl, rfl, rfl⟩
      all_goals
        have HX := Lib.hid XSZ
        have E1 := Lib.hid E1
        have E2 := Lib.hid E2
        have TR1 := Lib.hid TR1
        have TR2 := Lib.hid TR2
        have UU := Lib.hid UU
        obtain ⟨p, hp⟩ : ∃ p : Int, p = usesE e := ⟨_, rfl⟩
        have P1 := Lib.hid hp
        clear NG XSZ hp
        go_wp2_with fail
        refine (C1.out _ hb1).mono ?_
        rintro _ w8 ⟨_, rfl, hz, u, rfl, hx⟩
        have hb8 := ext_trans hb1 hz
        clear ltrE ltrS xrE0 xrE1 xrE2 yrS0 yrS1 yrS2 yrS3 yrS4 yrS5 yrS6 yrS7 yrS8
        have rE := rE.ext hz
        have rS := rS.ext hz
        obtain ⟨a5, c5, rfl, _⟩ := hx.parts
        clear hz
        obtain ⟨xrE0, xrE1, xrE2⟩ := rE.three
        have ltrE := rE.lt
        obtain ⟨yrS0, yrS1, yrS2, yrS3, yrS4, yrS5, yrS6, yrS7, yrS8⟩ := rS.nine
        have ltrS := rS.lt
        go_wp2_with fail
        obtain ⟨wa, hw⟩ : ∃ w, w = w8.alloc (.cells #[.int .i64 X.op, .int .i64 X.num, .slice a5 X.args.length c5] 24) := ⟨_, rfl⟩
        rw [← hw]
        obtain ⟨G5, hG⟩ : ∃ G, G = w8.heap.size := ⟨_, rfl⟩
        have r5 : Row wa G5 24 [.int .i64 X.op, .int .i64 X.num, .slice a5 X.args.length c5] := by rw [hw, hG]; exact row_new _ _ _
        have hal : Below w8.heap.size w8 wa := by rw [hw]; exact ext_alloc _ _
        rw [← hG]
        clear hw hG
        have hba := ext_trans hb8 hal
        clear ltrE ltrS xrE0 xrE1 xrE2 yrS0 yrS1 yrS2 yrS3 yrS4 yrS5 yrS6 yrS7 yrS8
        have rE := rE.ext hal
        have rS := rS.ext hal
        have hx := hx.ext hal
        have HE := HE.ext hba
        have HS := HS.ext hba
        have TT := TT.ext hba
        have EE := ext_trans EE hba
        have AW := Lib.hid (fun W (hW : Below wa.heap.size wa W) => awake_calls (TT.ext hW))
        have hrwa := Below.refl wa.heap.size wa
        clear hal hba
        obtain ⟨xrE0, xrE1, xrE2⟩ := rE.three
        have ltrE := rE.lt
        obtain ⟨yrS0, yrS1, yrS2, yrS3, yrS4, yrS5, yrS6, yrS7, yrS8⟩ := rS.nine
        have ltrS := rS.lt
        obtain ⟨pr50, pr51, pr52⟩ := r5.three
        have ltr5 := r5.lt
        have C3 := Lib.hid (fun W (hW : Below wa.heap.size wa W) => evalV_calls (TT.ext hW) (HE.ext hW) (HS.ext hW) E1.out (by have := HSZ.out; omega))
        have C4 := Lib.hid (fun W (hW : Below wa.heap.size wa W) => evalV_calls (TT.ext hW) (hx.ext hW) (HS.ext hW) E2.out (by have := HX.out; omega))
        have C5 := Lib.hid (fun W (hW : Below wa.heap.size wa W) => truthV_calls (TT.ext hW) (hx.ext hW) (HS.ext hW) TR2.out (by have := HX.out; omega))
        have C6 := Lib.hid (fun W (hW : Below wa.heap.size wa W) => truthV_calls (TT.ext hW) (HE.ext hW) (HS.ext hW) TR1.out (by have := HSZ.out; omega))
        have C7 := Lib.hid (fun W (hW : Below wa.heap.size wa W) => uses_calls hx W hW (by have := HX.out; omega))
        have C8 := Lib.hid (fun W (hW : Below wa.heap.size wa W) => uses_calls HE W hW (by have := HSZ.out; omega))
        rw [UU.out, ← P1.out] at C7
        rw [← P1.out] at C8
        go_wp2_with fail
        refine (C3.out _ hrwa).mono ?_
        rintro _ w9 ⟨_, rfl, hz, rfl⟩
        have hb9 := ext_trans hrwa hz
        clear ltrE ltrS ltr5 xrE0 xrE1 xrE2 yrS0 yrS1 yrS2 yrS3 yrS4 yrS5 yrS6 yrS7 yrS8 pr50 pr51 pr52
        have rE := rE.ext hz
        have rS := rS.ext hz
        have r5 := r5.ext hz
        clear hz
        obtain ⟨xrE0, xrE1, xrE2⟩ := rE.three
        have ltrE := rE.lt
        obtain ⟨yrS0, yrS1, yrS2, yrS3, yrS4, yrS5, yrS6, yrS7, yrS8⟩ := rS.nine
        have ltrS := rS.lt
        obtain ⟨pr50, pr51, pr52⟩ := r5.three
        have ltr5 := r5.lt
        go_wp2_with fail
        refine (C4.out _ hb9).mono ?_
        rintro _ w10 ⟨_, rfl, hz, rfl⟩
        have hb10 := ext_trans hb9 hz
        clear ltrE ltrS ltr5 xrE0 xrE1 xrE2 yrS0 yrS1 yrS2 yrS3 yrS4 yrS5 yrS6 yrS7 yrS8 pr50 pr51 pr52
        have rE := rE.ext hz
        have rS := rS.ext hz
        have r5 := r5.ext hz
        clear hz
        obtain ⟨xrE0, xrE1, xrE2⟩ := rE.three
        have ltrE := rE.lt
        obtain ⟨yrS0, yrS1, yrS2, yrS3, yrS4, yrS5, yrS6, yrS7, yrS8⟩ := rS.nine
        have ltrS := rS.lt
        obtain ⟨pr50, pr51, pr52⟩ := r5.three
        have ltr5 := r5.lt
        go_upto_region 8 with fail
        have KEEPT := Lib.hid (show True from trivial)
        have hrefl := Below.refl w10.heap.size w10
        have KEEP : ∀ W', Below w10.heap.size w10 W' → (fun w' : World => w'.cell? ⟨w.heap.size, 0, none⟩ = some (.int .i64 e.op) ∧ w'.cell? ⟨w.heap.size, 1, none⟩ = some (.int .i64 e.num) ∧ w'.cell? ⟨w.heap.size, 2, none⟩ = some (.slice a e.args.length cap) ∧ w'.cell? ⟨w.heap.size + 1, 0, none⟩ = some (.int .i64 n) ∧ w'.cell? ⟨w.heap.size + 1, 1, none⟩ = some (.slice ia s.inl.length icap) ∧ w'.cell? ⟨w.heap.size + 1, 2, none⟩ = some (.slice oa s.outl.length ocap) ∧ w'.cell? ⟨w.heap.size + 1, 3, none⟩ = some (.int .i64 h0) ∧ w'.cell? ⟨w.heap.size + 1, 4, none⟩ = some (.int .i64 h1) ∧ w'.cell? ⟨w.heap.size + 1, 5, none⟩ = some (.int .i64 h2) ∧ w'.cell? ⟨w.heap.size + 1, 6, none⟩ = some (.int .i64 h3) ∧ w'.cell? ⟨w.heap.size + 1, 7, none⟩ = some (.int .i64 h4) ∧ w'.cell? ⟨w.heap.size + 1, 8, none⟩ = some (.slice va s.vars.length vcap) ∧ w'.cell? ⟨G5, 0, none⟩ = some (.int .i64 X.op) ∧ w'.cell? ⟨G5, 1, none⟩ = some (.int .i64 X.num) ∧ w'.cell? ⟨G5, 2, none⟩ = some (.slice a5 X.args.length c5) ∧ Below wa.heap.size wa w') W' := fun W' hW' => ⟨cell_ext xrE0 hW', cell_ext xrE1 hW', cell_ext xrE2 hW', cell_ext yrS0 hW', cell_ext yrS1 hW', cell_ext yrS2 hW', cell_ext yrS3 hW', cell_ext yrS4 hW', cell_ext yrS5 hW', cell_ext yrS6 hW', cell_ext yrS7 hW', cell_ext yrS8 hW', cell_ext pr50 hW', cell_ext pr51 hW', cell_ext pr52 hW', ext_trans hb10 hW'⟩
        have KEEP := Lib.hid KEEP
        go_region_held3 (fun w' : World => w'.cell? ⟨w.heap.size, 0, none⟩ = some (.int .i64 e.op) ∧ w'.cell? ⟨w.heap.size, 1, none⟩ = some (.int .i64 e.num) ∧ w'.cell? ⟨w.heap.size, 2, none⟩ = some (.slice a e.args.length cap) ∧ w'.cell? ⟨w.heap.size + 1, 0, none⟩ = some (.int .i64 n) ∧ w'.cell? ⟨w.heap.size + 1, 1, none⟩ = some (.slice ia s.inl.length icap) ∧ w'.cell? ⟨w.heap.size + 1, 2, none⟩ = some (.slice oa s.outl.length ocap) ∧ w'.cell? ⟨w.heap.size + 1, 3, none⟩ = some (.int .i64 h0) ∧ w'.cell? ⟨w.heap.size + 1, 4, none⟩ = some (.int .i64 h1) ∧ w'.cell? ⟨w.heap.size + 1, 5, none⟩ = some (.int .i64 h2) ∧ w'.cell? ⟨w.heap.size + 1, 6, none⟩ = some (.int .i64 h3) ∧ w'.cell? ⟨w.heap.size + 1, 7, none⟩ = some (.int .i64 h4) ∧ w'.cell? ⟨w.heap.size + 1, 8, none⟩ = some (.slice va s.vars.length vcap) ∧ w'.cell? ⟨G5, 0, none⟩ = some (.int .i64 X.op) ∧ w'.cell? ⟨G5, 1, none⟩ = some (.int .i64 X.num) ∧ w'.cell? ⟨G5, 2, none⟩ = some (.slice a5 X.args.length c5) ∧ Below wa.heap.size wa w')
          (first | (apply KEEP.out; first | assumption | (apply Below.drew; assumption)))
          (first | (go_at_call 13; have _p := T3; refine (AW.out _ (ext_trans hb10 (by first | exact hF3 | exact hF3.drew))).mono ?_; rintro _ wf4 ⟨_, rfl, hbf4, rfl⟩; have hF4 : Below w10.heap.size w10 wf4 := ext_trans (by first | exact hF3 | exact hF3.drew) hbf4; have T4 : True := trivial) | (go_at_call 24; have _p := T2; refine (C8.out _ (ext_trans hb10 (by first | exact hF2 | exact hF2.drew))).mono ?_; rintro _ wf3 ⟨_, rfl, hbf3, rfl⟩; have hF3 : Below w10.heap.size w10 wf3 := ext_trans (by first | exact hF2 | exact hF2.drew) hbf3; have T3 : True := trivial) | (go_at_call 24; have _p := T1; refine (C7.out _ (ext_trans hb10 (by first | exact hF1 | exact hF1.drew))).mono ?_; rintro _ wf2 ⟨_, rfl, hbf2, rfl⟩; have hF2 : Below w10.heap.size w10 wf2 := ext_trans (by first | exact hF1 | exact hF1.drew) hbf2; have T2 : True := trivial) | (go_at_call 16; have _p := T0; refine (C6.out _ (ext_trans hb10 (by first | exact hF0 | exact hF0.drew))).mono ?_; rintro _ wf1 ⟨_, rfl, hbf1, rfl⟩; have hF1 : Below w10.heap.size w10 wf1 := ext_trans (by first | exact hF0 | exact hF0.drew) hbf1; have T1 : True := trivial) | (go_at_call 16; refine (C5.out _ (ext_trans hb10 (by first | exact hrefl | exact hrefl.drew))).mono ?_; rintro _ wf0 ⟨_, rfl, hbf0, rfl⟩; have hF0 : Below w10.heap.size w10 wf0 := ext_trans (by first | exact hrefl | exact hrefl.drew) hbf0; have T0 : True := trivial))
        all_goals
          go_wp2_with fail
          go_ret
          exact .mk (ext_trans EE (ext_trans hb10 hF4)) rfl
end Go.Proofs.YtifkkajgcekafaaDoor
