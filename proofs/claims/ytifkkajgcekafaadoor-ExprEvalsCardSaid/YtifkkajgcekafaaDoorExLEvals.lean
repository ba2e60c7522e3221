/- The walk of ExprEvals. -/
import Derived.Test.YtifkkajgcekafaaDoorExAwake
import Derived.Test.YtifkkajgcekafaaDoorExLaw0
namespace Go.Proofs.YtifkkajgcekafaaDoor
set_option linter.unusedVariables false
open Go.RowKit
attribute [local go_sem ↓] Go.wp_at_zero Go.wp_at_succ

set_option maxRecDepth 100000 in
set_option maxHeartbeats 8000000 in
theorem walkExprEvals {S S' : Nat → Prop} {w : World} {e : Ex} {v sv : Value} {s : Sc} (hT : Tab w) (h : ExprV S w e v) (hs : ScV S' w s sv) : Calls Tryd.prog 3 #[v, sv] w (Post w fun _ r => r = .bool true) := by
  obtain ⟨iv, ov, vv, h0, h1, h2, h3, h4, rfl, hh, hi, ho, hv⟩ := hs
  have HS : ScV S' w s (scAgg s.n iv ov h0 h1 h2 h3 h4 vv) := ⟨iv, ov, vv, h0, h1, h2, h3, h4, rfl, hh, hi, ho, hv⟩
  obtain ⟨ia, icap, rfl, _⟩ := hi
  obtain ⟨oa, ocap, rfl, _⟩ := ho
  obtain ⟨va, vcap, rfl, _⟩ := hv
  unfold scAgg
  unfold scAgg at HS
  have H5 := Lib.hid (show s.hears.length = 5 by rw [hh]; rfl)
  obtain ⟨n, hn⟩ : ∃ n, n = s.n := ⟨_, rfl⟩
  rw [← hn]
  rw [← hn] at HS
  clear hn hh
  have HE := h
  obtain ⟨a, cap, rfl, eo, en, ae, l1, l2⟩ := h.parts
  obtain ⟨w0, hw0⟩ : ∃ w0, w0 = (w.alloc (.cells #[.int .i64 e.op, .int .i64 e.num, .slice a e.args.length cap] 24)).alloc (.cells #[.int .i64 n, .slice ia s.inl.length icap, .slice oa s.outl.length ocap, .int .i64 h0, .int .i64 h1, .int .i64 h2, .int .i64 h3, .int .i64 h4, .slice va s.vars.length vcap] 28) := ⟨_, rfl⟩
  have e0 : Below w.heap.size w w0 := by rw [hw0]; exact ext_alloc' (ext_alloc w _) _
  have rE : Row w0 w.heap.size 24 [.int .i64 e.op, .int .i64 e.num, .slice a e.args.length cap] := by rw [hw0]; exact (row_new w [.int .i64 e.op, .int .i64 e.num, .slice a e.args.length cap] 24).alloc _
  have rS : Row w0 (w.heap.size + 1) 28 [.int .i64 n, .slice ia s.inl.length icap, .slice oa s.outl.length ocap, .int .i64 h0, .int .i64 h1, .int .i64 h2, .int .i64 h3, .int .i64 h4, .slice va s.vars.length vcap] := by
    have r2 := row_new (w.alloc (.cells #[.int .i64 e.op, .int .i64 e.num, .slice a e.args.length cap] 24)) [.int .i64 n, .slice ia s.inl.length icap, .slice oa s.outl.length ocap, .int .i64 h0, .int .i64 h1, .int .i64 h2, .int .i64 h3, .int .i64 h4, .slice va s.vars.length vcap] 28
    rw [World.size_alloc] at r2
    rw [hw0]
    exact r2
  have HE := HE.ext e0
  have HS := HS.ext e0
  have TT := hT.ext e0
  have EE := e0
  have AW := Lib.hid (fun W (hW : Below w0.heap.size w0 W) => awake_calls (TT.ext hW))
  have FE := Lib.hid (fun W (hW : Below w0.heap.size w0 W) => few_calls (HE.ext hW))
  have FS := Lib.hid (fun W (hW : Below w0.heap.size w0 W) => fewScene_calls (HS.ext hW))
  obtain ⟨b1, hb1⟩ : ∃ x, x = fewE e := ⟨_, rfl⟩
  obtain ⟨b2, hb2⟩ : ∃ x, x = fewScB s := ⟨_, rfl⟩
  rw [← hb1] at FE
  rw [← hb2] at FS
  have SZ := Lib.hid (fun h => fewE_size (e := e) (hb1 ▸ h))
  clear hb1 hb2
  go_enter Tryd.func3, Tryd.ntmps3
  go_wp2_with fail
  rw [← hw0]
  have hb0 := Below.refl w0.heap.size w0
  clear hw0 e0 hT
  obtain ⟨xrE0, xrE1, xrE2⟩ := rE.three
  obtain ⟨yrS0, yrS1, yrS2, yrS3, yrS4, yrS5, yrS6, yrS7, yrS8⟩ := rS.nine
  go_wp2_with fail
  refine (FE.out _ hb0).mono ?_
  rintro _ w1 ⟨_, rfl, hz, rfl⟩
  have hb1 := ext_trans hb0 hz
  clear xrE0 xrE1 xrE2 yrS0 yrS1 yrS2 yrS3 yrS4 yrS5 yrS6 yrS7 yrS8
  have rE := rE.ext hz
  have rS := rS.ext hz
  clear hz
  obtain ⟨xrE0, xrE1, xrE2⟩ := rE.three
  obtain ⟨yrS0, yrS1, yrS2, yrS3, yrS4, yrS5, yrS6, yrS7, yrS8⟩ := rS.nine
  cases b1 with
  | false =>
    go_wp2_with fail
    refine (AW.out _ hb1).mono ?_
    rintro _ w2 ⟨_, rfl, hz, rfl⟩
    have hb2 := ext_trans hb1 hz
    clear xrE0 xrE1 xrE2 yrS0 yrS1 yrS2 yrS3 yrS4 yrS5 yrS6 yrS7 yrS8
    have rE := rE.ext hz
    have rS := rS.ext hz
    clear hz
    obtain ⟨xrE0, xrE1, xrE2⟩ := rE.three
    obtain ⟨yrS0, yrS1, yrS2, yrS3, yrS4, yrS5, yrS6, yrS7, yrS8⟩ := rS.nine
    go_wp2
    go_ret
    exact .mk (ext_trans EE hb2) rfl
  | true =>
    go_wp2_with fail
    refine (FS.out _ hb1).mono ?_
    rintro _ w2 ⟨_, rfl, hz, rfl⟩
    have hb2 := ext_trans hb1 hz
    clear xrE0 xrE1 xrE2 yrS0 yrS1 yrS2 yrS3 yrS4 yrS5 yrS6 yrS7 yrS8
    have rE := rE.ext hz
    have rS := rS.ext hz
    clear hz
    obtain ⟨xrE0, xrE1, xrE2⟩ := rE.three
    obtain ⟨yrS0, yrS1, yrS2, yrS3, yrS4, yrS5, yrS6, yrS7, yrS8⟩ := rS.nine
    have HSZ : sizeE e ≤ 1000 := SZ.out (by first | exact trivial | rfl)
    cases b2 with
    | false =>
      go_wp2_with fail
      refine (AW.out _ hb2).mono ?_
      rintro _ w3 ⟨_, rfl, hz, rfl⟩
      have hb3 := ext_trans hb2 hz
      clear xrE0 xrE1 xrE2 yrS0 yrS1 yrS2 yrS3 yrS4 yrS5 yrS6 yrS7 yrS8
      have rE := rE.ext hz
      have rS := rS.ext hz
      clear hz
      obtain ⟨xrE0, xrE1, xrE2⟩ := rE.three
      obtain ⟨yrS0, yrS1, yrS2, yrS3, yrS4, yrS5, yrS6, yrS7, yrS8⟩ := rS.nine
      go_wp2
      go_ret
      exact .mk (ext_trans EE hb3) rfl
    | true =>
      have C1 := Lib.hid (fun W (hW : Below w0.heap.size w0 W) => eval_calls (TT.ext hW) (HE.ext hW) (HS.ext hW) HSZ)
      have C2 := Lib.hid (fun W (hW : Below w0.heap.size w0 W) => refEval_calls (HE.ext hW) (HS.ext hW) HSZ)
      have C3 := Lib.hid (fun W (hW : Below w0.heap.size w0 W) => truthC_calls (TT.ext hW) (HE.ext hW) (HS.ext hW) HSZ)
      have C4 := Lib.hid (fun W (hW : Below w0.heap.size w0 W) => refTruth_calls (HE.ext hW) (HS.ext hW) HSZ)
      obtain ⟨z, hz⟩ : ∃ x, x = (evalE s e).1 := ⟨_, rfl⟩
      obtain ⟨f, hf⟩ : ∃ x, x = (evalE s e).2 := ⟨_, rfl⟩
      obtain ⟨t, ht⟩ : ∃ x, x = truthE s e := ⟨_, rfl⟩
      rw [← hz, ← hf] at C1 C2
      rw [← ht] at C3 C4
      clear hz hf ht
      go_wp2_with fail
      refine (C1.out _ hb2).mono ?_
      rintro _ w3 ⟨_, rfl, hz, rfl⟩
      have hb3 := ext_trans hb2 hz
      clear xrE0 xrE1 xrE2 yrS0 yrS1 yrS2 yrS3 yrS4 yrS5 yrS6 yrS7 yrS8
      have rE := rE.ext hz
      have rS := rS.ext hz
      clear hz
      obtain ⟨xrE0, xrE1, xrE2⟩ := rE.three
      obtain ⟨yrS0, yrS1, yrS2, yrS3, yrS4, yrS5, yrS6, yrS7, yrS8⟩ := rS.nine
      go_wp2_with fail
      refine (C2.out _ hb3).mono ?_
      rintro _ w4 ⟨_, rfl, hz, rfl⟩
      have hb4 := ext_trans hb3 hz
      clear xrE0 xrE1 xrE2 yrS0 yrS1 yrS2 yrS3 yrS4 yrS5 yrS6 yrS7 yrS8
      have rE := rE.ext hz
      have rS := rS.ext hz
      clear hz
      obtain ⟨xrE0, xrE1, xrE2⟩ := rE.three
      obtain ⟨yrS0, yrS1, yrS2, yrS3, yrS4, yrS5, yrS6, yrS7, yrS8⟩ := rS.nine
      go_upto_region 5 with fail
      have KEEPT := Lib.hid (show True from trivial)
      have hrefl := Below.refl w4.heap.size w4
      have KEEP : ∀ W', Below w4.heap.size w4 W' → (fun w' : World => w'.cell? ⟨w.heap.size, 0, none⟩ = some (.int .i64 e.op) ∧ w'.cell? ⟨w.heap.size, 1, none⟩ = some (.int .i64 e.num) ∧ w'.cell? ⟨w.heap.size, 2, none⟩ = some (.slice a e.args.length cap) ∧ w'.cell? ⟨w.heap.size + 1, 0, none⟩ = some (.int .i64 n) ∧ w'.cell? ⟨w.heap.size + 1, 1, none⟩ = some (.slice ia s.inl.length icap) ∧ w'.cell? ⟨w.heap.size + 1, 2, none⟩ = some (.slice oa s.outl.length ocap) ∧ w'.cell? ⟨w.heap.size + 1, 3, none⟩ = some (.int .i64 h0) ∧ w'.cell? ⟨w.heap.size + 1, 4, none⟩ = some (.int .i64 h1) ∧ w'.cell? ⟨w.heap.size + 1, 5, none⟩ = some (.int .i64 h2) ∧ w'.cell? ⟨w.heap.size + 1, 6, none⟩ = some (.int .i64 h3) ∧ w'.cell? ⟨w.heap.size + 1, 7, none⟩ = some (.int .i64 h4) ∧ w'.cell? ⟨w.heap.size + 1, 8, none⟩ = some (.slice va s.vars.length vcap) ∧ Below w0.heap.size w0 w') W' := fun W' hW' => ⟨cell_ext xrE0 hW', cell_ext xrE1 hW', cell_ext xrE2 hW', cell_ext yrS0 hW', cell_ext yrS1 hW', cell_ext yrS2 hW', cell_ext yrS3 hW', cell_ext yrS4 hW', cell_ext yrS5 hW', cell_ext yrS6 hW', cell_ext yrS7 hW', cell_ext yrS8 hW', ext_trans hb4 hW'⟩
      have KEEP := Lib.hid KEEP
      go_region_held3 (fun w' : World => w'.cell? ⟨w.heap.size, 0, none⟩ = some (.int .i64 e.op) ∧ w'.cell? ⟨w.heap.size, 1, none⟩ = some (.int .i64 e.num) ∧ w'.cell? ⟨w.heap.size, 2, none⟩ = some (.slice a e.args.length cap) ∧ w'.cell? ⟨w.heap.size + 1, 0, none⟩ = some (.int .i64 n) ∧ w'.cell? ⟨w.heap.size + 1, 1, none⟩ = some (.slice ia s.inl.length icap) ∧ w'.cell? ⟨w.heap.size + 1, 2, none⟩ = some (.slice oa s.outl.length ocap) ∧ w'.cell? ⟨w.heap.size + 1, 3, none⟩ = some (.int .i64 h0) ∧ w'.cell? ⟨w.heap.size + 1, 4, none⟩ = some (.int .i64 h1) ∧ w'.cell? ⟨w.heap.size + 1, 5, none⟩ = some (.int .i64 h2) ∧ w'.cell? ⟨w.heap.size + 1, 6, none⟩ = some (.int .i64 h3) ∧ w'.cell? ⟨w.heap.size + 1, 7, none⟩ = some (.int .i64 h4) ∧ w'.cell? ⟨w.heap.size + 1, 8, none⟩ = some (.slice va s.vars.length vcap) ∧ Below w0.heap.size w0 w')
        (first | (apply KEEP.out; first | assumption | (apply Below.drew; assumption)))
        (first | (go_at_call 17; have _p := T1; refine (C4.out _ (ext_trans hb4 (by first | exact hF1 | exact hF1.drew))).mono ?_; rintro _ wf2 ⟨_, rfl, hbf2, rfl⟩; have hF2 : Below w4.heap.size w4 wf2 := ext_trans (by first | exact hF1 | exact hF1.drew) hbf2; have T2 : True := trivial) | (go_at_call 16; have _p := T0; refine (C3.out _ (ext_trans hb4 (by first | exact hF0 | exact hF0.drew))).mono ?_; rintro _ wf1 ⟨_, rfl, hbf1, rfl⟩; have hF1 : Below w4.heap.size w4 wf1 := ext_trans (by first | exact hF0 | exact hF0.drew) hbf1; have T1 : True := trivial) | (go_at_call 13; refine (AW.out _ (ext_trans hb4 (by first | exact hrefl | exact hrefl.drew))).mono ?_; rintro _ wf0 ⟨_, rfl, hbf0, rfl⟩; have hF0 : Below w4.heap.size w4 wf0 := ext_trans (by first | exact hrefl | exact hrefl.drew) hbf0; have T0 : True := trivial))
      all_goals
        go_wp2_with fail
        go_ret
        exact .mk (ext_trans EE (ext_trans hb4 hF2)) rfl
end Go.Proofs.YtifkkajgcekafaaDoor
