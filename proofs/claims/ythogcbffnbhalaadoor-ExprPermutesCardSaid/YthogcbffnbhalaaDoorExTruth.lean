/- Truth, on both sides. -/
import Derived.Test.YthogcbffnbhalaaDoorExEval
namespace Go.Proofs.YthogcbffnbhalaaDoor
set_option linter.unusedVariables false
open Go.RowKit

theorem evalE_known {s : Sc} {e : Ex} (h : (evalE s e).2 = 0) : 0 ≤ e.op ∧ e.op ≤ 15 := by
  unfold evalE at h
  split at h
  · contradiction
  split at h
  · simp at h
  · rename_i h1 _
    have := (Wf.of_check (e := e) (vars := s.vars.length) (by omega)).1
    cases this with
    | mk h0 =>
      rename_i op num xs _ _ _ _ _ _
      show 0 ≤ op ∧ op ≤ 15
      unfold arity at h0
      split at h0
      · omega
      · omega

set_option maxRecDepth 100000 in
set_option maxHeartbeats 2000000 in
theorem truthC_calls {S S' : Nat → Prop} {w : World} {e : Ex} {v sv : Value} {s : Sc} (hT : Tab w) (h : ExprV S w e v) (hs : ScV S' w s sv) (hsz : sizeE e ≤ 1000) :
    Calls Tryd.prog 19 #[v, sv] w (Post w fun _ r => r = .bool (truthE s e)) := by
  obtain ⟨iv, ov, vv, h0, h1, h2, h3, h4, rfl, hh, hi, ho, hv⟩ := hs
  have HS : ScV S' w s (scAgg s.n iv ov h0 h1 h2 h3 h4 vv) := ⟨iv, ov, vv, h0, h1, h2, h3, h4, rfl, hh, hi, ho, hv⟩
  have HE := h
  obtain ⟨ia, icap, rfl, _⟩ := hi
  obtain ⟨oa, ocap, rfl, _⟩ := ho
  obtain ⟨va, vcap, rfl, _⟩ := hv
  obtain ⟨a, cap, rfl, eo, en, ae, l1, l2⟩ := h.parts
  obtain ⟨R, hR⟩ : ∃ x, x = truthE s e := ⟨_, rfl⟩
  rw [← hR]
  unfold scAgg
  unfold scAgg at HS
  obtain ⟨n, hn⟩ : ∃ n, n = s.n := ⟨_, rfl⟩
  rw [← hn]
  rw [← hn] at HS
  obtain ⟨z, hz⟩ : ∃ x, x = (evalE s e).1 := ⟨_, rfl⟩
  obtain ⟨f, hf⟩ : ∃ x, x = (evalE s e).2 := ⟨_, rfl⟩
  have HK := Lib.hid (evalE_known (s := s) (e := e))
  have HR := Lib.hid (show R = (decide (f = 0) && decide (kindOf e.op = 1) && decide (z = 1)) by rw [hR, hf, hz]; rfl)
  have ex1 := ext_alloc' (ext_alloc w (.cells #[.int .i64 e.op, .int .i64 e.num, .slice a e.args.length cap] 24)) (.cells #[.int .i64 n, .slice ia s.inl.length icap, .slice oa s.outl.length ocap, .int .i64 h0, .int .i64 h1, .int .i64 h2, .int .i64 h3, .int .i64 h4, .slice va s.vars.length vcap] 28)
  have r1 := (row_new w [.int .i64 e.op, .int .i64 e.num, .slice a e.args.length cap] 24).alloc (.cells #[.int .i64 n, .slice ia s.inl.length icap, .slice oa s.outl.length ocap, .int .i64 h0, .int .i64 h1, .int .i64 h2, .int .i64 h3, .int .i64 h4, .slice va s.vars.length vcap] 28)
  have EV := Lib.hid (eval_calls (hT.ext ex1) (HE.ext ex1) (HS.ext ex1) hsz)
  rw [← hz, ← hf] at EV
  rw [← hf] at HK
  clear hR hn hz hf hh
  go_enter Tryd.func19, Tryd.ntmps19
  go_wp2_with fail
  refine EV.out.mono ?_
  rintro _ w1 ⟨_, rfl, hb1, rfl⟩
  have e1 := ext_trans ex1 hb1
  obtain ⟨x0, x1, x2⟩ := (r1.ext hb1).three
  by_cases hf0 : f = 0
  · have df : (f == 0) = true := beq_iff_eq.2 hf0
    obtain ⟨k0, k1⟩ := HK.out hf0
    have HF := Lib.hid hf0
    obtain ⟨k, hk⟩ : ∃ k, k = kindOf e.op := ⟨_, rfl⟩
    rw [← hk] at HR
    clear hf0
    have q := idx_rows k0 k1
    have t1 := (hT.ext e1).kind e.op k0 k1
    rw [← hk] at t1
    have k2 : e.op < 16 := by omega
    clear hk
    by_cases hk1 : k = 1
    · have dk : (k == 1) = true := beq_iff_eq.2 hk1
      have HK1 := Lib.hid hk1
      clear hk1
      go_wp2
      go_ret
      exact .mk e1 (bool_eq (by rw [HR.out, decide_eq_true HF.out, decide_eq_true HK1.out]; rfl))
    · have dk : (k == 1) = false := beq_eq_false_iff_ne.2 hk1
      have HK1 := Lib.hid hk1
      clear hk1
      go_wp2
      go_ret
      exact .mk e1 (bool_eq (by rw [HR.out, decide_eq_true HF.out, decide_eq_false HK1.out]; rfl))
  · have df : (f == 0) = false := beq_eq_false_iff_ne.2 hf0
    have HF := Lib.hid hf0
    clear hf0
    go_wp2
    go_ret
    exact .mk e1 (bool_eq (by rw [HR.out, decide_eq_false HF.out]; rfl))

end Go.Proofs.YthogcbffnbhalaaDoor

