/- FewScene and ready: the guards of the laws. -/
import Derived.Test.YthogcbffnbhalaaDoorExTruth
namespace Go.Proofs.YthogcbffnbhalaaDoor
set_option linter.unusedVariables false
open Go.RowKit
attribute [local go_sem ↓] Go.wp_at_zero Go.wp_at_succ

def fewScB (s : Sc) : Bool := decide (s.inl.length ≤ 20) && decide (s.outl.length ≤ 20) && decide (s.vars.length ≤ 30)
def readyB (s : Sc) (e : Ex) : Bool := fewE e && fewScB s && decide ((evalE s e).2 = 0)

set_option maxRecDepth 100000 in
set_option maxHeartbeats 2000000 in
theorem fewScene_calls {S' : Nat → Prop} {w : World} {sv : Value} {s : Sc} (hs : ScV S' w s sv) :
    Calls Tryd.prog 9 #[sv] w (Post w fun _ r => r = .bool (fewScB s)) := by
  obtain ⟨iv, ov, vv, h0, h1, h2, h3, h4, rfl, hh, hi, ho, hv⟩ := hs
  obtain ⟨ia, icap, rfl, _⟩ := hi
  obtain ⟨oa, ocap, rfl, _⟩ := ho
  obtain ⟨va, vcap, rfl, _⟩ := hv
  have HF := Lib.hid (show fewScB s = (decide (s.inl.length ≤ 20) && decide (s.outl.length ≤ 20) && decide (s.vars.length ≤ 30)) from rfl)
  obtain ⟨R, hR⟩ : ∃ x, x = fewScB s := ⟨_, rfl⟩
  rw [← hR] at HF
  rw [← hR]
  unfold scAgg
  obtain ⟨a, ha⟩ : ∃ n, n = s.inl.length := ⟨_, rfl⟩
  obtain ⟨b, hb⟩ : ∃ n, n = s.outl.length := ⟨_, rfl⟩
  obtain ⟨c, hc⟩ : ∃ n, n = s.vars.length := ⟨_, rfl⟩
  obtain ⟨n, hn⟩ : ∃ n, n = s.n := ⟨_, rfl⟩
  rw [← ha, ← hb, ← hc] at HF
  rw [← ha, ← hb, ← hc, ← hn]
  clear ha hb hc hR hn hh
  by_cases h1 : a ≤ 20
  · have d1 : decide (a ≤ 20) = true := decide_eq_true h1
    by_cases h2 : b ≤ 20
    · have d2 : decide (b ≤ 20) = true := decide_eq_true h2
      by_cases h3 : c ≤ 30
      · have d3 : decide (c ≤ 30) = true := decide_eq_true h3
        go_enter Tryd.func9, Tryd.ntmps9
        go_wp2
        go_ret
        exact .mk (ext_alloc w _) (bool_eq (by rw [HF.out, d1, d2]; simp only [Bool.true_and]; first | rfl | exact decide_eq_decide.2 (by omega)))
      · have d3 : decide (c ≤ 30) = false := decide_eq_false h3
        go_enter Tryd.func9, Tryd.ntmps9
        go_wp2
        go_ret
        exact .mk (ext_alloc w _) (bool_eq (by rw [HF.out, d1, d2]; simp only [Bool.true_and]; first | rfl | exact decide_eq_decide.2 (by omega)))
    · have d2 : decide (b ≤ 20) = false := decide_eq_false h2
      go_enter Tryd.func9, Tryd.ntmps9
      go_wp2
      go_ret
      exact .mk (ext_alloc w _) (bool_eq (by rw [HF.out, d1, d2]; rfl))
  · have d1 : decide (a ≤ 20) = false := decide_eq_false h1
    go_enter Tryd.func9, Tryd.ntmps9
    go_wp2
    go_ret
    exact .mk (ext_alloc w _) (bool_eq (by rw [HF.out, d1]; rfl))

theorem fewE_size {e : Ex} (h : fewE e = true) : sizeE e ≤ 1000 := by
  unfold fewE at h
  simp only [Bool.and_eq_true, decide_eq_true_eq] at h
  omega

set_option maxRecDepth 100000 in
set_option maxHeartbeats 2000000 in
theorem ready_calls {S S' : Nat → Prop} {w : World} {e : Ex} {v sv : Value} {s : Sc} (h : ExprV S w e v) (hs : ScV S' w s sv) :
    Calls Tryd.prog 4 #[v, sv] w (Post w fun _ r => r = .bool (readyB s e)) := by
  obtain ⟨iv, ov, vv, h0, h1, h2, h3, h4, rfl, hh, hi, ho, hv⟩ := hs
  have HS : ScV S' w s (scAgg s.n iv ov h0 h1 h2 h3 h4 vv) := ⟨iv, ov, vv, h0, h1, h2, h3, h4, rfl, hh, hi, ho, hv⟩
  have HE := h
  obtain ⟨ia, icap, rfl, _⟩ := hi
  obtain ⟨oa, ocap, rfl, _⟩ := ho
  obtain ⟨va, vcap, rfl, _⟩ := hv
  obtain ⟨a, cap, rfl, eo, en, ae, l1, l2⟩ := h.parts
  unfold scAgg
  unfold scAgg at HS
  obtain ⟨n, hn⟩ : ∃ n, n = s.n := ⟨_, rfl⟩
  rw [← hn]
  rw [← hn] at HS
  have ex1 := ext_alloc' (ext_alloc w (.cells #[.int .i64 e.op, .int .i64 e.num, .slice a e.args.length cap] 24)) (.cells #[.int .i64 n, .slice ia s.inl.length icap, .slice oa s.outl.length ocap, .int .i64 h0, .int .i64 h1, .int .i64 h2, .int .i64 h3, .int .i64 h4, .slice va s.vars.length vcap] 28)
  have r1 := (row_new w [.int .i64 e.op, .int .i64 e.num, .slice a e.args.length cap] 24).alloc (.cells #[.int .i64 n, .slice ia s.inl.length icap, .slice oa s.outl.length ocap, .int .i64 h0, .int .i64 h1, .int .i64 h2, .int .i64 h3, .int .i64 h4, .slice va s.vars.length vcap] 28)
  have r2 := row_new (w.alloc (.cells #[.int .i64 e.op, .int .i64 e.num, .slice a e.args.length cap] 24)) [.int .i64 n, .slice ia s.inl.length icap, .slice oa s.outl.length ocap, .int .i64 h0, .int .i64 h1, .int .i64 h2, .int .i64 h3, .int .i64 h4, .slice va s.vars.length vcap] 28
  rw [World.size_alloc] at r2
  have FE := Lib.hid (few_calls (HE.ext ex1))
  have HE' := HE.ext ex1
  have HS' := HS.ext ex1
  have HR := Lib.hid (show readyB s e = (fewE e && fewScB s && decide ((evalE s e).2 = 0)) from rfl)
  obtain ⟨R, hR⟩ : ∃ x, x = readyB s e := ⟨_, rfl⟩
  obtain ⟨b1, hb1⟩ : ∃ x, x = fewE e := ⟨_, rfl⟩
  obtain ⟨b2, hb2⟩ : ∃ x, x = fewScB s := ⟨_, rfl⟩
  have FS := Lib.hid (fun W (hW : Below _ _ W) => fewScene_calls (HS'.ext (W1 := W) hW))
  rw [← hb1] at FE
  rw [← hb2] at FS
  rw [← hR, ← hb1, ← hb2] at HR
  rw [← hR]
  have SZ := Lib.hid (fun h => fewE_size (e := e) (hb1 ▸ h))
  clear hR hn hb1 hb2 hh
  go_enter Tryd.func4, Tryd.ntmps4
  go_wp2_with fail
  refine FE.out.mono ?_
  rintro _ w1 ⟨_, rfl, hb1, rfl⟩
  have e1 := ext_trans ex1 hb1
  obtain ⟨x0, x1, x2⟩ := (r1.ext hb1).three
  obtain ⟨y0, y1, y2, y3, y4, y5, y6, y7, y8⟩ := (r2.ext hb1).nine
  cases b1 with
  | false =>
    go_wp2
    go_ret
    exact .mk e1 (bool_eq (by rw [HR.out]; rfl))
  | true =>
    go_wp2_with fail
    refine (FS.out _ hb1).mono ?_
    rintro _ w2 ⟨_, rfl, hb2, rfl⟩
    have e2 := ext_trans e1 hb2
    have hb12 := ext_trans hb1 hb2
    clear x0 x1 x2 y0 y1 y2 y3 y4 y5 y6 y7 y8
    obtain ⟨x0, x1, x2⟩ := (r1.ext hb12).three
    obtain ⟨y0, y1, y2, y3, y4, y5, y6, y7, y8⟩ := (r2.ext hb12).nine
    cases b2 with
    | false =>
      go_wp2
      go_ret
      exact .mk e2 (bool_eq (by rw [HR.out]; rfl))
    | true =>
      have EV := Lib.hid (refEval_calls (HE.ext e2) (HS.ext e2) (SZ.out (by first | exact trivial | rfl)))
      obtain ⟨z, hz⟩ : ∃ x, x = (evalE s e).1 := ⟨_, rfl⟩
      obtain ⟨f, hf⟩ : ∃ x, x = (evalE s e).2 := ⟨_, rfl⟩
      rw [← hz, ← hf] at EV
      rw [← hf] at HR
      clear hz hf
      go_wp2_with fail
      refine EV.out.mono ?_
      rintro _ w3 ⟨_, rfl, hb3, rfl⟩
      have e3 := ext_trans e2 hb3
      go_wp2
      go_ret
      exact .mk e3 (bool_eq (by rw [HR.out]; simp only [Bool.true_and]; first | rfl | (by_cases hq : f = 0 <;> simp [hq])))
end Go.Proofs.YthogcbffnbhalaaDoor

