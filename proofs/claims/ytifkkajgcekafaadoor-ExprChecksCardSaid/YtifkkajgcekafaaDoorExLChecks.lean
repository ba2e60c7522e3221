/- The walk of ExprChecks. -/
import Derived.Test.YtifkkajgcekafaaDoorExAwake
import Derived.Test.YtifkkajgcekafaaDoorExLaw0
namespace Go.Proofs.YtifkkajgcekafaaDoor
set_option linter.unusedVariables false
open Go.RowKit
attribute [local go_sem ↓] Go.wp_at_zero Go.wp_at_succ

set_option maxRecDepth 100000 in
set_option maxHeartbeats 8000000 in
theorem walkExprChecks {S : Nat → Prop} {w : World} {e : Ex} {v : Value} (hT : Tab w) (h : ExprV S w e v) (vars : Int) : Calls Tryd.prog 7 #[v, .int .i64 vars] w (Post w fun _ r => r = .bool true) := by
  have HE := h
  obtain ⟨a, cap, rfl, eo, en, ae, l1, l2⟩ := h.parts
  obtain ⟨w0, hw0⟩ : ∃ w0, w0 = w.alloc (.cells #[.int .i64 e.op, .int .i64 e.num, .slice a e.args.length cap] 24) := ⟨_, rfl⟩
  have e0 : Below w.heap.size w w0 := by rw [hw0]; exact ext_alloc w _
  have rE : Row w0 w.heap.size 24 [.int .i64 e.op, .int .i64 e.num, .slice a e.args.length cap] := by rw [hw0]; exact row_new w [.int .i64 e.op, .int .i64 e.num, .slice a e.args.length cap] 24
  have HE := HE.ext e0
  have TT := hT.ext e0
  have EE := e0
  have AW := Lib.hid (fun W (hW : Below w0.heap.size w0 W) => awake_calls (TT.ext hW))
  have FE := Lib.hid (fun W (hW : Below w0.heap.size w0 W) => few_calls (HE.ext hW))
  obtain ⟨b1, hb1⟩ : ∃ x, x = fewE e := ⟨_, rfl⟩
  rw [← hb1] at FE
  have SZ := Lib.hid (fun h => fewE_size (e := e) (hb1 ▸ h))
  clear hb1
  go_enter Tryd.func7, Tryd.ntmps7
  go_wp2_with fail
  rw [← hw0]
  have hb0 := Below.refl w0.heap.size w0
  clear hw0 e0 hT
  obtain ⟨xrE0, xrE1, xrE2⟩ := rE.three
  go_wp2_with fail
  refine (FE.out _ hb0).mono ?_
  rintro _ w1 ⟨_, rfl, hz, rfl⟩
  have hb1 := ext_trans hb0 hz
  clear xrE0 xrE1 xrE2
  have rE := rE.ext hz
  clear hz
  obtain ⟨xrE0, xrE1, xrE2⟩ := rE.three
  cases b1 with
  | false =>
    go_wp2_with fail
    refine (AW.out _ hb1).mono ?_
    rintro _ w2 ⟨_, rfl, hz, rfl⟩
    have hb2 := ext_trans hb1 hz
    clear xrE0 xrE1 xrE2
    have rE := rE.ext hz
    clear hz
    obtain ⟨xrE0, xrE1, xrE2⟩ := rE.three
    go_wp2
    go_ret
    exact .mk (ext_trans EE hb2) rfl
  | true =>
    have HSZ : sizeE e ≤ 1000 := SZ.out (by first | exact trivial | rfl)
    have C1 := Lib.hid (fun W (hW : Below w0.heap.size w0 W) => kind_calls (TT.ext hW) (HE.ext hW))
    have C2 := Lib.hid (fun W (hW : Below w0.heap.size w0 W) => refKind_calls (HE.ext hW))
    have C3 := Lib.hid (fun W (hW : Below w0.heap.size w0 W) => size_calls HE W hW (by omega))
    have C4 := Lib.hid (fun W (hW : Below w0.heap.size w0 W) => refSize_calls HE W hW (by omega))
    have C5 := Lib.hid (fun W (hW : Below w0.heap.size w0 W) => check_calls (TT.ext hW) (HE.ext hW) (by omega) vars)
    have C6 := Lib.hid (fun W (hW : Below w0.heap.size w0 W) => refCheck_calls (HE.ext hW) (by omega) vars)
    have C7 := Lib.hid (fun W (hW : Below w0.heap.size w0 W) => uses_calls HE W hW (by omega))
    have C8 := Lib.hid (fun W (hW : Below w0.heap.size w0 W) => refUses_calls HE W hW (by omega))
    obtain ⟨k1, hk1⟩ : ∃ x, x = (kindR e).1 := ⟨_, rfl⟩
    obtain ⟨k2, hk2⟩ : ∃ x, x = (kindR e).2 := ⟨_, rfl⟩
    obtain ⟨s1, hs1⟩ : ∃ x : Int, x = sizeE e := ⟨_, rfl⟩
    obtain ⟨s2, hs2⟩ : ∃ x : Int, x = depthE e := ⟨_, rfl⟩
    obtain ⟨c1, hc1⟩ : ∃ x, x = checkE e vars := ⟨_, rfl⟩
    obtain ⟨u1, hu1⟩ : ∃ x : Int, x = usesE e := ⟨_, rfl⟩
    rw [← hk1, ← hk2] at C1 C2
    rw [← hs1, ← hs2] at C3 C4
    rw [← hc1] at C5 C6
    rw [← hu1] at C7 C8
    clear hk1 hk2 hs1 hs2 hc1 hu1 HSZ
    go_wp2_with fail
    refine (C1.out _ hb1).mono ?_
    rintro _ w2 ⟨_, rfl, hz, rfl⟩
    have hb2 := ext_trans hb1 hz
    clear xrE0 xrE1 xrE2
    have rE := rE.ext hz
    clear hz
    obtain ⟨xrE0, xrE1, xrE2⟩ := rE.three
    go_wp2_with fail
    refine (C2.out _ hb2).mono ?_
    rintro _ w3 ⟨_, rfl, hz, rfl⟩
    have hb3 := ext_trans hb2 hz
    clear xrE0 xrE1 xrE2
    have rE := rE.ext hz
    clear hz
    obtain ⟨xrE0, xrE1, xrE2⟩ := rE.three
    go_wp2_with fail
    refine (C3.out _ hb3).mono ?_
    rintro _ w4 ⟨_, rfl, hz, rfl⟩
    have hb4 := ext_trans hb3 hz
    clear xrE0 xrE1 xrE2
    have rE := rE.ext hz
    clear hz
    obtain ⟨xrE0, xrE1, xrE2⟩ := rE.three
    go_wp2_with fail
    refine (C4.out _ hb4).mono ?_
    rintro _ w5 ⟨_, rfl, hz, rfl⟩
    have hb5 := ext_trans hb4 hz
    clear xrE0 xrE1 xrE2
    have rE := rE.ext hz
    clear hz
    obtain ⟨xrE0, xrE1, xrE2⟩ := rE.three
    go_upto_region 7 with fail
    have KEEPT := Lib.hid (show True from trivial)
    have hrefl := Below.refl w5.heap.size w5
    have KEEP : ∀ W', Below w5.heap.size w5 W' → (fun w' : World => w'.cell? ⟨w.heap.size, 0, none⟩ = some (.int .i64 e.op) ∧ w'.cell? ⟨w.heap.size, 1, none⟩ = some (.int .i64 e.num) ∧ w'.cell? ⟨w.heap.size, 2, none⟩ = some (.slice a e.args.length cap) ∧ Below w0.heap.size w0 w') W' := fun W' hW' => ⟨cell_ext xrE0 hW', cell_ext xrE1 hW', cell_ext xrE2 hW', ext_trans hb5 hW'⟩
    have KEEP := Lib.hid KEEP
    go_region_held3 (fun w' : World => w'.cell? ⟨w.heap.size, 0, none⟩ = some (.int .i64 e.op) ∧ w'.cell? ⟨w.heap.size, 1, none⟩ = some (.int .i64 e.num) ∧ w'.cell? ⟨w.heap.size, 2, none⟩ = some (.slice a e.args.length cap) ∧ Below w0.heap.size w0 w')
      (first | (apply KEEP.out; first | assumption | (apply Below.drew; assumption)))
      (first | (go_at_call 31; have _p := T3; refine (C8.out _ (ext_trans hb5 (by first | exact hF3 | exact hF3.drew))).mono ?_; rintro _ wf4 ⟨_, rfl, hbf4, rfl⟩; have hF4 : Below w5.heap.size w5 wf4 := ext_trans (by first | exact hF3 | exact hF3.drew) hbf4; have T4 : True := trivial) | (go_at_call 24; have _p := T2; refine (C7.out _ (ext_trans hb5 (by first | exact hF2 | exact hF2.drew))).mono ?_; rintro _ wf3 ⟨_, rfl, hbf3, rfl⟩; have hF3 : Below w5.heap.size w5 wf3 := ext_trans (by first | exact hF2 | exact hF2.drew) hbf3; have T3 : True := trivial) | (go_at_call 30; have _p := T1; refine (C6.out _ (ext_trans hb5 (by first | exact hF1 | exact hF1.drew))).mono ?_; rintro _ wf2 ⟨_, rfl, hbf2, rfl⟩; have hF2 : Below w5.heap.size w5 wf2 := ext_trans (by first | exact hF1 | exact hF1.drew) hbf2; have T2 : True := trivial) | (go_at_call 29; have _p := T0; refine (C5.out _ (ext_trans hb5 (by first | exact hF0 | exact hF0.drew))).mono ?_; rintro _ wf1 ⟨_, rfl, hbf1, rfl⟩; have hF1 : Below w5.heap.size w5 wf1 := ext_trans (by first | exact hF0 | exact hF0.drew) hbf1; have T1 : True := trivial) | (go_at_call 13; refine (AW.out _ (ext_trans hb5 (by first | exact hrefl | exact hrefl.drew))).mono ?_; rintro _ wf0 ⟨_, rfl, hbf0, rfl⟩; have hF0 : Below w5.heap.size w5 wf0 := ext_trans (by first | exact hrefl | exact hrefl.drew) hbf0; have T0 : True := trivial))
    all_goals
      go_wp2_with fail
      go_ret
      exact .mk (ext_trans EE (ext_trans hb5 hF4)) rfl
end Go.Proofs.YtifkkajgcekafaaDoor
